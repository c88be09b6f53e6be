/- The functions as models, and that the calls come to what the models tell. -/
import Derived.Test.YtkkpplnhcpjmgaaGreatGsa
set_option linter.unusedVariables false
set_option linter.unusedSimpArgs false
set_option maxHeartbeats 4000000
set_option maxRecDepth 100000
noncomputable section
namespace Go.Proofs.YtkkpplnhcpjmgaaGreat
open Go V Tryz
def spec_HeapClear.f (a0 : Heap) (a1 : Int) (a2 : Int) (a3 : Int) : Option (Heap × Bool) :=
 ((spec_HeapAt.f a0 a1 a2).bind fun r9 => ((if (!r9.2) = true then (some true) else ((spec_l5in.f a3 (1 : Int) (1000000 : Int)).bind fun r24 => (some (!r24)))).bind fun y20 => (if y20 = true then (some ((Heap.mk ([] : (List Page))), false)) else ((spec_l10copy.f a0).bind fun r39 => (if 0 ≤ a1 ∧ a1 < (r39.Pages.length : Int) then ((spec_PageClear.f (at_ r39.Pages a1) a2 a3).bind fun r51 => (if 0 ≤ a1 ∧ a1 < (r39.Pages.length : Int) then (some ((Heap.mk (r39.Pages.set (a1).toNat r51.1)), true)) else none)) else none)))))
def spec_HeapClear.Q (w : World) (F : Nat → Prop) (r : Heap × Bool) (v : Value) (w' : World) : Prop :=
 ∃ (v0 : Value), v = .tuple #[(.agg #[v0]), (.bool r.2)] ∧ FO kd32 w w' [v0] r.1 ∧ Ky [] w w'
theorem spec_HeapClear.calls (a0 : Heap) (a1 : Int) (a2 : Int) (a3 : Int) (w : World) (F : Nat → Prop) (w0_0 : Value) (h0_0 : Yp.rd w [w0_0] a0.Pages F) (r : Heap × Bool) (m : spec_HeapClear.f a0 a1 a2 a3 = some r) :
  Calls prog 30 #[(.agg #[w0_0]), (iI a1), (iI a2), (iI a3)] w (RT (spec_HeapClear.Q w F) r) := by
 obtain ⟨s0, rfl, kp0, z⟩ := Xk w F
 have A0_0 := z.rd h0_0
 refine Xd (args := [(.agg #[w0_0]), (iI a1), (iI a2), (iI a3)]) func30 ntmps30 rfl rfl m ?_
 unfold spec_HeapClear.f
 refine sr (bx' (cs := [w0_0]) 40 rfl rfl (fun b2 s2 p2 B2 => ?_))
 refine al' (cs := [(.slice none 0 0)]) 41 rfl o32 rfl (fun b4 s4 p4 B4 => ?_)
 refine Xc rfl (dn (sr ?_))
 have A6 := B2.st p4 rfl
 refine Xw (es := [w0_0]) A6 u32 z32 rfl (Xc rfl (Xc rfl ?_))
 have K7 := kp0.st (Xq p2 p4) rfl
 refine cl' rfl func49 rfl (spec_HeapAt.calls a0 a1 a2 s4.w (mm [0] s4) w0_0 (A0_0.kp K7)) ?_
 rintro r9 _ w9 m9 ⟨v9_0, v9_1, v9_2, v9_3, rfl, f9_0, ky9⟩
 obtain ⟨s10, rfl, p10, n10⟩ := nwx s4 w9 42 ky9
 obtain ⟨s11, hw11, p11, hu9_0_0, Au9_0_1, hu9_0_2, Au9_0_3⟩ := ap79 43 (f9_0.c n10) rfl
 rw [hw11]
 refine Xc rfl (Xc (v := (.agg #[(iI r9.1.Xmin), (iI r9.1.Xmax), (iI r9.1.Key.Kind), (iI r9.1.Key.N), v9_0, v9_1, (iI r9.1.Value.Kind), (iI r9.1.Value.N), v9_2, v9_3])) rfl (Xc (v := (.bool r9.2)) rfl (al' (cs := [(iI 0), (iI 0), (iI 0), (iI 0), (.float .f64 0), (.slice none 0 0), (iI 0), (iI 0), (.float .f64 0), (.slice none 0 0)]) 44 rfl o79 rfl (fun b14 s14 p14 B14 => ?_))))
 refine Xu (vs := [(iI r9.1.Xmin), (iI r9.1.Xmax), (iI r9.1.Key.Kind), (iI r9.1.Key.N), v9_0, v9_1, (iI r9.1.Value.Kind), (iI r9.1.Value.N), v9_2, v9_3]) B14 z79 rfl (Xb rfl (Xb rfl (Xb rfl (Xb rfl (Xb (FL.one hu9_0_0) (Xb (Au9_0_1.st p14 rfl).rd.one (Xb rfl (Xb rfl (Xb (FL.one hu9_0_2) (Xb (Au9_0_3.st p14 rfl).rd.one Xi)))))))))) rfl (fun s18 p18 B18 => ?_)
 refine Xc rfl (dn (sq (sr (Xc rfl (Xc rfl (Xc rfl (ji [] (fun (y20 : Bool) e w => ∃ (s : St) (e0 : Env), w = s.w ∧ e = upd (upd (upd (upd (upd (upd e0 1 (iI a1)) 2 (iI a2)) 3 (iI a3)) 4 (pB b2)) 8 (pB b4)) 28 (.bool y20) ∧ Kp s0 s ∧ BlF s b4 32 [(.slice none 0 0)] 41 ∧ BlF s b2 32 [w0_0] 40) (fun Gj20 Kj20 => ?_) ?_)))))))
 ·
  rcases Yn (!r9.2) with hb20 | hb20
  ·
   refine Xy hb20 ?_
   rw [if_pos hb20]
   refine Xj rfl (Xj rfl (Xj rfl (Xc rfl ?_)))
   exact Kj20 _ _ _ ⟨s18, _, rfl, (ue (ue (ue (ue (ue (ue rfl rfl) rfl) rfl) rfl) rfl) rfl), (K7.st (tr4 p10 p11 p14 p18) rfl), (B4.st (tr4 p10 p11 p14 p18) rfl), (A6.st (tr4 p10 p11 p14 p18) rfl)⟩
  refine Xy hb20 ?_
  rw [if_neg (by rw [hb20]; decide)]
  refine Xc rfl (Ym 45 rfl func45 rfl (spec_l5in.calls a3 (1 : Int) (1000000 : Int) s18.w (mm [] s18)) (fun r24 s25 p25 n25 => ?_))
  refine Xc rfl (Xc rfl ?_)
  exact Kj20 _ _ _ ⟨s25, _, rfl, (ue (ue (ue (ue (ue (ue rfl rfl) rfl) rfl) rfl) rfl) rfl), (K7.st (tr5 p10 p11 p14 p18 p25) rfl), (B4.st (tr5 p10 p11 p14 p18 p25) rfl), (A6.st (tr5 p10 p11 p14 p18 p25) rfl)⟩
 rintro y20 _ _ ⟨s29, _, rfl, rfl, Ky20, By20_b4, By20_b2⟩
 refine dn (cd rfl (fun h32 => ?_) (fun h32 => ?_))
 ·
  refine sr (bd' (cells := [(.slice none 0 0)]) pl32 o32 rfl rfl (Xu (vs := [(.slice none 0 0)]) By20_b4 z32 rfl (Xb rfl Xi) rfl (fun s33 p33 B33 => ?_)))
  refine Xc rfl (dn ?_)
  have A35 : OwF kd32 s33 [(.slice none 0 0)] (Heap.mk ([] : (List Page))) 46 := ow_z _ _ (Xz (fun x : Heap => (x.Pages)) (Heap.mk ([] : (List Page))) (Ya 59 kd59))
  have K37 := Ky20.st p33 rfl
  exact re rfl func30 rfl (r_b B33 u32 rfl z32 rfl (Xs rfl Xe)) rfl ⟨_, rfl, (.slice none 0 0), rfl, A35.fo K37 rfl z.l, z.ky K37⟩
 refine sk (sr (Xw (es := [w0_0]) By20_b2 u32 z32 rfl ?_))
 refine cl' rfl func26 rfl (spec_l10copy.calls a0 s29.w (mm [0] s29) w0_0 (A0_0.kp Ky20)) ?_
 rintro r39 _ w39 m39 ⟨v39_0, rfl, f39_0, ky39⟩
 obtain ⟨s40, rfl, p40, n40⟩ := nwx s29 w39 47 ky39
 refine al' (cs := [(.slice none 0 0)]) 48 rfl o32 rfl (fun b42 s42 p42 B42 => ?_)
 have A44 := (ap32 (f39_0.c n40)).st p42 rfl
 refine Xu (vs := [v39_0]) B42 z32 rfl (Xb A44.rd.one Xi) rfl (fun s45 p45 B45 => ?_)
 refine dn (sr (Xt fa32_0 rfl (Yb B45 u30 rfl (Xc rfl ?_))))
 have A47 := A44.st p45 rfl
 refine ix' A47.rd u30 z59 rfl (fun ad48 es48 h0_48 h1_48 he48 ce48 ia48 => ?_)
 obtain ⟨v48_0, rfl, A48_0⟩ := op59 he48
 refine lca ce48 u59 z59 rfl rfl rfl rfl rfl rfl rfl (Xc rfl (Xc rfl (cl' rfl func51 rfl (spec_PageClear.calls (at_ r39.Pages a1) a2 a3 s45.w (mm [47] s45) v48_0 A48_0) ?_)))
 rintro r51 _ w51 m51 ⟨v51_0, rfl, f51_0, ky51⟩
 obtain ⟨s52, rfl, p52, n52⟩ := nwx s45 w51 49 ky51
 refine Xc rfl (Xc (v := (.agg #[(iI r51.1.Lsn), v51_0])) rfl (Xc (v := (.bool r51.2)) rfl (al' (cs := [(iI 0), (.slice none 0 0)]) 50 rfl o59 rfl (fun b54 s54 p54 B54 => ?_))))
 have A56 := (ap59 (f51_0.c n52)).st p54 rfl
 refine Xu (vs := [(iI r51.1.Lsn), v51_0]) B54 z59 rfl (Xb rfl (Xb A56.rd.one Xi)) rfl (fun s57 p57 B57 => ?_)
 refine Xc rfl (dn (sr (Xt fa32_0 rfl ?_)))
 have A59 := B45.st (Yi p52 p54 p57) rfl
 refine Yb A59 u30 rfl (Xc rfl (Xw (es := [(iI r51.1.Lsn), v51_0]) B57 u59 z59 rfl ?_))
 have A60 := A47.st (Yi p52 p54 p57) rfl
 refine ix' A60.rd u30 z59 rfl (fun ad61 es61 h0_61 h1_61 he61 ce61 ia61 => ?_)
 obtain ⟨v61_0, rfl, A61_0⟩ := op59 he61
 have A64 : OwF kd59 s57 [(iI r51.1.Lsn), v51_0] r51.1 49 := (Xo (fun x : Page => (x.Lsn, x.Slots)) r51.1 (Yg (Xf .i64 r51.1.Lsn) (A56.st p57 rfl)))
 refine som (x' := r51.1) A60 ia61 h0_61 h1_61 A64 rfl rfl z59 rfl rfl rfl rfl rfl rfl (fun s67 p67 A67 => ?_)
 refine dn (sr ?_)
 refine Xw (es := [v39_0]) (A59.st p67 rfl) u32 z32 rfl (Xu (vs := [v39_0]) (By20_b4.st (tr7 p40 p42 p45 p52 p54 p57 p67) rfl) z32 rfl (Xb A67.rd.one Xi) rfl (fun s71 p71 B71 => ?_))
 refine Xc rfl (dn ?_)
 have A73 : OwF kd32 s71 [v39_0] (Heap.mk (r39.Pages.set (a1).toNat r51.1)) 47 := (Xo (fun x : Heap => (x.Pages)) (Heap.mk (r39.Pages.set (a1).toNat r51.1)) (A67.st p71 rfl))
 have K76 := Ky20.st (tr8 p40 p42 p45 p52 p54 p57 p67 p71) rfl
 exact re rfl func30 rfl (r_b B71 u32 rfl z32 rfl (Xs rfl Xe)) rfl ⟨_, rfl, v39_0, rfl, A73.fo K76 rfl z.l, z.ky K76⟩
def spec_RedoOne.b0 (a1 : Record) (x57 : (List Page)) : Option ((List Page) ⊕ (Heap × Bool)) :=
 (if (decide ((x57.length : Int) ≤ a1.Page)) = true then (if x57.length + ([(Page.mk (0 : Int) ([] : (List (List Int))))]).length ≤ Lim then (some (Sum.inl (x57 ++ [(Page.mk (0 : Int) ([] : (List (List Int))))]))) else none) else ((if 0 ≤ a1.Page ∧ a1.Page < (x57.length : Int) then (if (decide ((at_ x57 a1.Page).Lsn ≥ a1.Lsn)) = true then (some ((Heap.mk x57), true)) else ((if (a1.Kind == (1 : Int)) = true then ((spec_PageRead.f a1.Data).bind fun r116 => (if 0 ≤ a1.Page ∧ a1.Page < (x57.length : Int) then (some (r116.2, (x57.set (a1.Page).toNat (Page.mk a1.Lsn r116.1.Slots)))) else none)) else ((if (a1.Kind == (2 : Int)) = true then (if 0 ≤ a1.Page ∧ a1.Page < (x57.length : Int) then (((spec_PagePut.f (at_ x57 a1.Page) a1.Slot a1.Data a1.Lsn).bind fun r176 => (some (r176.1.Lsn, r176.1.Slots, r176.2))).bind fun y166 => (if 0 ≤ a1.Page ∧ a1.Page < (x57.length : Int) then (some (y166.2.2, (x57.set (a1.Page).toNat (Page.mk y166.1 y166.2.1)))) else none)) else none) else ((if (a1.Kind == (3 : Int)) = true then ((spec_HeapMark.f (Heap.mk x57) a1.Page a1.Slot a1.Xid a1.Lsn).bind fun r258 => (some (r258.2, r258.1.Pages))) else ((if (a1.Kind == (4 : Int)) = true then ((spec_HeapClear.f (Heap.mk x57) a1.Page a1.Slot a1.Lsn).bind fun r272 => (some (r272.2, r272.1.Pages))) else (some (false, x57))).bind fun y269 => (some (y269.1, y269.2)))).bind fun y255 => (some (y255.1, y255.2)))).bind fun y142 => (some (y142.1, y142.2)))).bind fun y112 => ((if (!y112.1) = true then (some true) else ((spec_HeapOk.f (Heap.mk y112.2)).bind fun r316 => (some (!r316)))).bind fun y315 => (if y315 = true then (some ((Heap.mk ([] : (List Page))), false)) else (some ((Heap.mk y112.2), true)))))) else none).bind fun o => some (Sum.inr o)))
def spec_RedoOne.f (a0 : Heap) (a1 : Record) : Option (Heap × Bool) :=
 ((spec_HeapOk.f a0).bind fun r12 => ((if (!r12) = true then (some true) else ((spec_RecordOk.f a1).bind fun r22 => (some (!r22)))).bind fun y14 => (if y14 = true then (some ((Heap.mk ([] : (List Page))), false)) else ((spec_l10copy.f a0).bind fun r39 => (if (a1.Kind == (5 : Int)) = true then (some (r39, true)) else (iter (spec_RedoOne.b0 a1) r39.Pages))))))
def spec_RedoOne.Q (w : World) (F : Nat → Prop) (r : Heap × Bool) (v : Value) (w' : World) : Prop :=
 ∃ (v0 : Value), v = .tuple #[(.agg #[v0]), (.bool r.2)] ∧ FO kd32 w w' [v0] r.1 ∧ Ky [] w w'
theorem spec_RedoOne.calls (a0 : Heap) (a1 : Record) (w : World) (F : Nat → Prop) (w0_0 : Value) (w1_0 : Value) (h0_0 : Yp.rd w [w0_0] a0.Pages F) (h1_0 : Yo.rd w [w1_0] a1.Data F) (r : Heap × Bool) (m : spec_RedoOne.f a0 a1 = some r) :
  Calls prog 7 #[(.agg #[w0_0]), (.agg #[(iI a1.Kind), (iI a1.Lsn), (iI a1.Xid), (iI a1.Page), (iI a1.Slot), w1_0])] w (RT (spec_RedoOne.Q w F) r) := by
 obtain ⟨s0, rfl, kp0, z⟩ := Xk w F
 have A0_0 := z.rd h0_0
 have A1_0 := z.rd h1_0
 refine Xd (args := [(.agg #[w0_0]), (.agg #[(iI a1.Kind), (iI a1.Lsn), (iI a1.Xid), (iI a1.Page), (iI a1.Slot), w1_0])]) func7 ntmps7 rfl rfl m ?_
 unfold spec_RedoOne.f
 refine sr (bx' (cs := [w0_0]) 40 rfl rfl (fun b3 s3 p3 B3 => ?_))
 refine bx' (cs := [(iI a1.Kind), (iI a1.Lsn), (iI a1.Xid), (iI a1.Page), (iI a1.Slot), w1_0]) 41 rfl rfl (fun b5 s5 p5 B5 => ?_)
 refine al' (cs := [(.slice none 0 0)]) 42 rfl o32 rfl (fun b7 s7 p7 B7 => ?_)
 refine Xc rfl (dn (sq (sr ?_)))
 have A9 := B3.st (Xq p5 p7) rfl
 refine Xw (es := [w0_0]) A9 u32 z32 rfl ?_
 have K10 := kp0.st (Yi p3 p5 p7) rfl
 refine Ym 43 rfl func24 rfl (spec_HeapOk.calls a0 s7.w (mm [0] s7) w0_0 (A0_0.kp K10)) (fun r12 s13 p13 n13 => ?_)
 refine Xc rfl (Xc rfl (ji [] (fun (y14 : Bool) e w => ∃ (s : St) (e0 : Env), w = s.w ∧ e = upd (upd (upd (upd e0 2 (pB b3)) 3 (pB b5)) 4 (pB b7)) 19 (.bool y14) ∧ Kp s0 s ∧ BlF s b7 32 [(.slice none 0 0)] 42 ∧ BlF s b5 36 [(iI a1.Kind), (iI a1.Lsn), (iI a1.Xid), (iI a1.Page), (iI a1.Slot), w1_0] 41 ∧ BlF s b3 32 [w0_0] 40) (fun Gj14 Kj14 => ?_) ?_))
 ·
  rcases Yn (!r12) with hb14 | hb14
  ·
   refine Xy hb14 ?_
   rw [if_pos hb14]
   refine Xj rfl (Xj rfl (Xj rfl (Xc rfl ?_)))
   exact Kj14 _ _ _ ⟨s13, _, rfl, (ue (ue (ue (ue rfl rfl) rfl) rfl) rfl), (K10.st p13 rfl), (B7.st p13 rfl), (B5.st (Xq p7 p13) rfl), (A9.st p13 rfl)⟩
  refine Xy hb14 ?_
  rw [if_neg (by rw [hb14]; decide)]
  have A19 := B5.st (Xq p7 p13) rfl
  refine Xw (es := [(iI a1.Kind), (iI a1.Lsn), (iI a1.Xid), (iI a1.Page), (iI a1.Slot), w1_0]) A19 u36 z36 rfl ?_
  have K20 := K10.st p13 rfl
  refine Ym 44 rfl func25 rfl (spec_RecordOk.calls a1 s13.w (mm [0] s13) w1_0 (A1_0.kp K20)) (fun r22 s23 p23 n23 => ?_)
  refine Xc rfl (Xc rfl ?_)
  exact Kj14 _ _ _ ⟨s23, _, rfl, (ue (ue (ue (ue rfl rfl) rfl) rfl) rfl), (K20.st p23 rfl), (B7.st (Xq p13 p23) rfl), (A19.st p23 rfl), (A9.st (Xq p13 p23) rfl)⟩
 rintro y14 _ _ ⟨s28, _, rfl, rfl, Ky14, By14_b7, By14_b5, By14_b3⟩
 refine dn (cd rfl (fun h32 => ?_) (fun h32 => ?_))
 ·
  refine sr (bd' (cells := [(.slice none 0 0)]) pl32 o32 rfl rfl (Xu (vs := [(.slice none 0 0)]) By14_b7 z32 rfl (Xb rfl Xi) rfl (fun s33 p33 B33 => ?_)))
  refine Xc rfl (dn ?_)
  have A35 : OwF kd32 s33 [(.slice none 0 0)] (Heap.mk ([] : (List Page))) 45 := ow_z _ _ (Xz (fun x : Heap => (x.Pages)) (Heap.mk ([] : (List Page))) (Ya 59 kd59))
  have K37 := Ky14.st p33 rfl
  exact re rfl func7 rfl (r_b B33 u32 rfl z32 rfl (Xs rfl Xe)) rfl ⟨_, rfl, (.slice none 0 0), rfl, A35.fo K37 rfl z.l, z.ky K37⟩
 refine sk (sr (Xw (es := [w0_0]) By14_b3 u32 z32 rfl ?_))
 refine cl' rfl func26 rfl (spec_l10copy.calls a0 s28.w (mm [0] s28) w0_0 (A0_0.kp Ky14)) ?_
 rintro r39 _ w39 m39 ⟨v39_0, rfl, f39_0, ky39⟩
 obtain ⟨s40, rfl, p40, n40⟩ := nwx s28 w39 46 ky39
 refine al' (cs := [(.slice none 0 0)]) 47 rfl o32 rfl (fun b42 s42 p42 B42 => ?_)
 have A44 := (ap32 (f39_0.c n40)).st p42 rfl
 refine Xu (vs := [v39_0]) B42 z32 rfl (Xb A44.rd.one Xi) rfl (fun s45 p45 B45 => ?_)
 refine dn (sq (sr (Xt fa36_0 rfl ?_)))
 have A47 := By14_b5.st (Yi p40 p42 p45) rfl
 refine Yb A47 u3 rfl (Xc rfl (dn (cd rfl (fun h48 => ?_) (fun h48 => ?_))))
 ·
  refine sr (Xw (es := [v39_0]) B45 u32 z32 rfl ?_)
  have A50 := A44.st p45 rfl
  refine Xu (vs := [v39_0]) (By14_b7.st (Yi p40 p42 p45) rfl) z32 rfl (Xb A50.rd.one Xi) rfl (fun s51 p51 B51 => ?_)
  refine Xc rfl (dn ?_)
  have A53 : OwF kd32 s51 [v39_0] r39 46 := (Xo (fun x : Heap => (x.Pages)) r39 (A50.st p51 rfl))
  have K56 := Ky14.st (tr4 p40 p42 p45 p51) rfl
  exact re rfl func7 rfl (r_b B51 u32 rfl z32 rfl (Xs rfl Xe)) rfl ⟨_, rfl, v39_0, rfl, A53.fo K56 rfl z.l, z.ky K56⟩
 refine sk (sq (bl ?_))
 refine lpI (fun (x57 : (List Page)) e w => ∃ (s : St) (e0 : Env) (vx57_0 : Value), w = s.w ∧ e = upd (upd (upd e0 3 (pB b5)) 4 (pB b7)) 6 (pB b42) ∧ Kp s0 s ∧ OwF Yp s [vx57_0] x57 46 ∧ BlF s b42 32 [vx57_0] 47 ∧ BlF s b7 32 [(.slice none 0 0)] 42 ∧ BlF s b5 36 [(iI a1.Kind), (iI a1.Lsn), (iI a1.Xid), (iI a1.Page), (iI a1.Slot), w1_0] 41) ⟨s45, _, v39_0, rfl, (ue (ue (ue rfl rfl) rfl) rfl), (Ky14.st (Yi p40 p42 p45) rfl), (A44.st p45 rfl), B45, (By14_b7.st (Yi p40 p42 p45) rfl), A47⟩ (fun g57 ih57 => ?_)
 rintro x57 _ _ ⟨s61, _, vx57_0, rfl, rfl, Kx57, Ax57_0, Bx57_b42, Bx57_b7, Bx57_b5⟩
 unfold spec_RedoOne.b0
 refine sq (sr (Xt fa32_0 rfl (Yb Bx57_b42 u30 rfl (Yl Ax57_0.rd u30 rfl (Xt fa36_3 rfl (Yb Bx57_b5 u3 rfl (Xc rfl (dn (cd rfl (fun h66 => ?_) (fun h66 => ?_))))))))))
 ·
  refine sk (bl (rg (Xt fa32_0 rfl (Yb Bx57_b42 u30 rfl (bd' (cells := [(iI 0), (.slice none 0 0)]) pl59 o59 rfl rfl ?_)))))
  have A67 : OwF kd59 s61 [(iI 0), (.slice none 0 0)] (Page.mk (0 : Int) ([] : (List (List Int)))) 49 := ow_z _ _ (Xz (fun x : Page => (x.Lsn, x.Slots)) (Page.mk (0 : Int) ([] : (List (List Int)))) (Xh (Xf .i64 (0 : Int)) (Ya 25 Yo)))
  refine ltO (K := kd59) (cells := [(iI 0), (.slice none 0 0)]) [(Page.mk (0 : Int) ([] : (List (List Int))))] 49 u30 z59 o59 (lo_one A67) rfl rfl rfl rfl rfl rfl rfl rfl rfl rfl (fun v70 s70 p70 A70 => ?_)
  refine apO sl30 (Ax57_0.st p70 rfl) A70 rfl rfl rfl rfl rfl rfl rfl rfl rfl (fun v73 s73 p73 A73 => ?_)
  refine Xt fa32_0 rfl (sv' (Bx57_b42.st (Xq p70 p73) rfl) z30 rfl A73.rd.one rfl (fun s76 p76 B76 => ?_))
  refine dn (ib ?_)
  exact lb ih57 ⟨s76, _, v73, rfl, (ue (ue (ue rfl rfl) rfl) rfl), (Kx57.st (Yi p70 p73 p76) rfl), (A73.st p76 rfl), B76, (Bx57_b7.st (Yi p70 p73 p76) rfl), (Bx57_b5.st (Yi p70 p73 p76) rfl)⟩
 refine xt rfl (sgb (sq (sq (zdraw [[], [0], [], [2], [1, 3], [4], [5], [], [7], [6, 8]] [some 39, some 40, some 41, some 42, some 43, some 44, some 45, some 46, some 47, some 48] [[6], [39], [3], [41], [40, 42], [43], [44], [3], [46], [45, 47]] [0, 1, 2, 3, 4, 5, 6, 7, 8, 9] ⟨by kernel_rfl, by kernel_rfl, by kernel_rfl⟩ (by kernel_rfl) (fun s82 p82 l82 tb82 zd82 => ?_)))))
 have A89 := Ax57_0.st p82 rfl
 refine mg fun hg90 => ?_
 obtain ⟨ad90, es90, he90, ce90, ia90⟩ := ix_e A89.rd rfl hg90.1 hg90.2
 obtain ⟨v90_0, rfl, A90_0⟩ := op59 he90
 refine zfin [9] tb82 (((((((((zd82.add 0 39 (pB b42) rfl).add 1 40 vx57_0 rfl).add 2 41 (pO b5 3) rfl).add 3 42 (iI a1.Page) rfl).add 4 43 (.pointer (some ad90)) rfl).add 5 44 (.pointer (some ad90)) rfl).add 6 45 (iI ((at_ x57 a1.Page).Lsn)) rfl).add 7 46 (pO b5 1) rfl).add 8 47 (iI a1.Lsn) rfl) (Xa (Xp (Bx57_b5.st p82 rfl) u3 rfl) rfl (Xa (Xr fa36_1 rfl) rfl (Xa (lc0_q ce90 u3 rfl rfl rfl rfl rfl rfl rfl rfl) rfl (Xa (Xr fa59_0 rfl) rfl (Xa (ix_q' A89.rd u30 z59 hg90.1 hg90.2 ia90 rfl) rfl (Xa (Xp (Bx57_b5.st p82 rfl) u3 rfl) rfl (Xa (Xr fa36_3 rfl) rfl (Xa (Xp (Bx57_b42.st p82 rfl) u30 rfl) rfl (Xa (Xr fa32_0 rfl) rfl Xg))))))))) (by kernel_rfl) (by decide) (Xc rfl (dn (cd rfl (fun h102 => ?_) (fun h102 => ?_))))
 ·
  refine sr (Xw (es := [vx57_0]) (Bx57_b42.st p82 rfl) u32 z32 rfl (Xu (vs := [vx57_0]) (Bx57_b7.st p82 rfl) z32 rfl (Xb A89.rd.one Xi) rfl (fun s105 p105 B105 => ?_)))
  refine Xc rfl (dn ?_)
  have A107 : OwF kd32 s105 [vx57_0] (Heap.mk x57) 46 := (Xo (fun x : Heap => (x.Pages)) (Heap.mk x57) (A89.st p105 rfl))
  have K110 := Kx57.st (Xq p82 p105) rfl
  exact re rfl func7 rfl (r_b B105 u32 rfl z32 rfl (Xs rfl Xe)) rfl ⟨_, rfl, vx57_0, rfl, A107.fo K110 rfl z.l, z.ky K110⟩
 refine sk (sr (Xc rfl (dn (sq (sr (Xt fa36_0 rfl ?_))))))
 have A111 := Bx57_b5.st p82 rfl
 refine Yb A111 u3 rfl (dn (bl (sr (Xc rfl (Xc rfl (dn (jc (fun (y112 : Bool × (List Page)) e w => ∃ (s : St) (e0 : Env) (vy112_0 : Value), w = s.w ∧ e = upd (upd (upd e0 4 (pB b7)) 6 (pB b42)) 7 (.bool y112.1) ∧ Kp s0 s ∧ OwF Yp s [vy112_0] y112.2 50 ∧ BlF s b42 32 [vy112_0] 47 ∧ BlF s b7 32 [(.slice none 0 0)] 42) (fun Gj112 Kj112 => ?_) ?_)))))))
 ·
  refine cd rfl (fun h113 => ?_) (fun h113 => ?_)
  ·
   refine sr (Xt fa36_5 rfl (Yb A111 u25 rfl ?_))
   have K114 := Kx57.st p82 rfl
   refine cl' rfl func27 rfl (spec_PageRead.calls a1.Data s82.w (mm [0] s82) w1_0 (A1_0.kp K114)) ?_
   rintro r116 _ w116 m116 ⟨v116_0, rfl, f116_0, ky116⟩
   obtain ⟨s117, rfl, p117, n117⟩ := nwx s82 w116 51 ky116
   refine Xc rfl (Xc (v := (.agg #[(iI r116.1.Lsn), v116_0])) rfl (Xc (v := (.bool r116.2)) rfl (al' (cs := [(iI 0), (.slice none 0 0)]) 52 rfl o59 rfl (fun b119 s119 p119 B119 => ?_))))
   have A121 := (ap59 (f116_0.c n117)).st p119 rfl
   refine Xu (vs := [(iI r116.1.Lsn), v116_0]) B119 z59 rfl (Xb rfl (Xb A121.rd.one Xi)) rfl (fun s122 p122 B122 => ?_)
   refine Xc rfl (dn (sr (Xt fa36_1 rfl ?_)))
   have A124 := A111.st (Yi p117 p119 p122) rfl
   refine Yb A124 u3 rfl (Xt fa59_0 rfl (sv' B122 z3 rfl rfl rfl (fun s125 p125 B125 => ?_)))
   refine dn (sr (Xt fa32_0 rfl ?_))
   have A127 := Bx57_b42.st (tr5 p82 p117 p119 p122 p125) rfl
   refine Yb A127 u30 rfl (Xt fa36_3 rfl ?_)
   refine Yb (A124.st p125 rfl) u3 rfl (Xw (es := [(iI a1.Lsn), v116_0]) B125 u59 z59 rfl ?_)
   have A129 := A89.st (tr4 p117 p119 p122 p125) rfl
   refine ix' A129.rd u30 z59 rfl (fun ad130 es130 h0_130 h1_130 he130 ce130 ia130 => ?_)
   obtain ⟨v130_0, rfl, A130_0⟩ := op59 he130
   have A133 : OwF kd59 s125 [(iI a1.Lsn), v116_0] (Page.mk a1.Lsn r116.1.Slots) 51 := (Xo (fun x : Page => (x.Lsn, x.Slots)) (Page.mk a1.Lsn r116.1.Slots) (Yg (Xf .i64 a1.Lsn) (A121.st (Xq p122 p125) rfl)))
   refine som (x' := (Page.mk a1.Lsn r116.1.Slots)) A129 ia130 h0_130 h1_130 A133 rfl rfl z59 rfl rfl rfl rfl rfl rfl (fun s136 p136 A136 => ?_)
   refine dn (rg (Xc rfl (Xc rfl (dn ?_))))
   obtain ⟨s138, hw138, p138, A138⟩ := A136.rc 50 rfl
   rw [hw138]
   exact Kj112 _ _ _ ⟨s138, _, vx57_0, rfl, (ue (ue (ue rfl rfl) rfl) rfl), (K114.st (tr6 p117 p119 p122 p125 p136 p138) rfl), A138, (A127.st (Xq p136 p138) rfl), (Bx57_b7.st (tr7 p82 p117 p119 p122 p125 p136 p138) rfl)⟩
  refine sr (Xc rfl (Xc rfl (dn (jc (fun (y142 : Bool × (List Page)) e w => ∃ (s : St) (e0 : Env) (vy142_0 : Value), w = s.w ∧ e = upd (upd (upd e0 4 (pB b7)) 6 (pB b42)) 7 (.bool y142.1) ∧ Kp s0 s ∧ OwF Yp s [vy142_0] y142.2 53 ∧ BlF s b42 32 [vy142_0] 47 ∧ BlF s b7 32 [(.slice none 0 0)] 42) (fun Gj142 Kj142 => ?_) ?_))))
  ·
   refine cd rfl (fun h143 => ?_) (fun h143 => ?_)
   ·
    refine sq (zdraw [[], [0], [], [2], [1, 3], [4], [], [6], [], [8], [], [10], [5, 7, 9, 11], [12], [13], [13], [], [16, 14, 12, 0, 1, 2, 3, 4, 5, 6, 7, 8, 9, 10, 11, 12, 13, 14, 16], [15, 17, 0, 1, 2, 3, 4, 5, 6, 7, 8, 9, 10, 11, 12, 13, 14, 15, 16, 17]] [some 73, some 74, some 75, some 76, some 77, some 78, some 79, some 80, some 81, some 82, some 83, some 84, some 85, some 72, some 86, some 87, some 10, none, some 11] [[6], [73], [3], [75], [74, 76], [77], [3], [79], [3], [81], [3], [83], [78, 80, 82, 84], [85], [72], [72], [], [10, 86], [87]] [0, 1, 2, 3, 4, 5, 6, 7, 8, 9, 10, 11, 12, 13, 14, 17, 15, 16, 18] ⟨by kernel_rfl, by kernel_rfl, by kernel_rfl⟩ (by kernel_rfl) (fun s144 p144 l144 tb144 zd144 => ?_))
    have A151 := A89.st p144 rfl
    refine mg fun hg152 => ?_
    obtain ⟨ad152, es152, he152, ce152, ia152⟩ := ix_e A151.rd rfl hg152.1 hg152.2
    obtain ⟨v152_0, rfl, A152_0⟩ := op59 he152
    refine ji [18] (fun (y166 : Int × (List (List Int)) × Bool) e w => ∃ (s : St) (e0 : Env) (vy166_0 : Value) (by166_0 : Nat), w = s.w ∧ e = upd (upd (upd (upd (upd e0 3 (pB b5)) 4 (pB b7)) 6 (pB b42)) 10 (pB by166_0)) 87 (.bool y166.2.2) ∧ Kp s0 s ∧ OwF (Kd.sl 25 Yo) s [vy166_0] y166.2.1 54 ∧ BlF s b42 32 [vx57_0] 47 ∧ BlF s b7 32 [(.slice none 0 0)] 42 ∧ BlF s b5 36 [(iI a1.Kind), (iI a1.Lsn), (iI a1.Xid), (iI a1.Page), (iI a1.Slot), w1_0] 41 ∧ BlF s by166_0 59 [(iI y166.1), vy166_0] 55 ∧ OwF Yp s [vx57_0] x57 46) (fun Gj166 Kj166 => ?_) ?_
    ·
     refine zstep2 12 16 [] [some 84, some 83, some 82, some 81, some 80, some 79, some 78, some 77, some 76, some 75, some 74, some 73] tb144 ((((((((((((zd144.add 0 73 (pB b42) rfl).add 1 74 vx57_0 rfl).add 2 75 (pO b5 3) rfl).add 3 76 (iI a1.Page) rfl).add 4 77 (.pointer (some ad152)) rfl).add 5 78 (.agg #[(iI ((at_ x57 a1.Page).Lsn)), v152_0]) rfl).add 6 79 (pO b5 4) rfl).add 7 80 (iI a1.Slot) rfl).add 8 81 (pO b5 5) rfl).add 9 82 w1_0 rfl).add 10 83 (pO b5 1) rfl).add 11 84 (iI a1.Lsn) rfl) (Xa (Xp (A111.st p144 rfl) u3 rfl) rfl (Xa (Xr fa36_1 rfl) rfl (Xa (Xp (A111.st p144 rfl) u25 rfl) rfl (Xa (Xr fa36_5 rfl) rfl (Xa (Xp (A111.st p144 rfl) u3 rfl) rfl (Xa (Xr fa36_4 rfl) rfl (Xa (lca_q ce152 u59 z59 rfl rfl rfl rfl rfl rfl rfl) rfl (Xa (ix_q' A151.rd u30 z59 hg152.1 hg152.2 ia152 rfl) rfl (Xa (Xp (A111.st p144 rfl) u3 rfl) rfl (Xa (Xr fa36_3 rfl) rfl (Xa (Xp (Bx57_b42.st (Xq p82 p144) rfl) u30 rfl) rfl (Xa (Xr fa32_0 rfl) rfl Xg)))))))))))) (by kernel_rfl) (by kernel_rfl) (fun l167 e167 zd167 => ?_) (fun l168 e168 zd168 => ?_)
     ·
      have K174 := Kx57.st (Xq p82 p144) rfl
      refine cl' rfl func28 rfl (spec_PagePut.calls (at_ x57 a1.Page) a1.Slot a1.Data a1.Lsn s144.w (mm [46, 0] s144) v152_0 w1_0 (A152_0.sub (D := [46, 0]) rfl) ((A1_0.kp K174).sub (D := [46, 0]) rfl)) ?_
      rintro r176 _ w176 m176 ⟨v176_0, rfl, f176_0, ky176⟩
      obtain ⟨s177, rfl, p177, n177⟩ := nwx s144 w176 56 ky176
      refine Xl (L' := []) (D' := [0, 2, 1, 3, 4, 6, 8, 10, 5, 7, 9, 11, 12]) zd167 rfl (fun zd179 => ?_)
      refine Yc 16 [some 87, some 86, some 72] tb144 (((zd179.add 13 72 (.tuple #[(.agg #[(iI r176.1.Lsn), v176_0]), (.bool r176.2)]) rfl).add 14 86 (.agg #[(iI r176.1.Lsn), v176_0]) rfl).add 15 87 (.bool r176.2) rfl) (Xa (Xm (v := (.bool r176.2)) rfl) rfl (Xa (Xm (v := (.agg #[(iI r176.1.Lsn), v176_0])) rfl) rfl (Xa (Xm rfl) rfl Xg))) (by kernel_rfl) rfl (fun l183 e183 zd183 => ?_)
      refine al' (cs := [(iI 0), (.slice none 0 0)]) 57 rfl o59 rfl (fun b184 s184 p184 B184 => ?_)
      refine Xl (L' := [15, 14, 13]) (D' := [16, 0, 2, 1, 3, 4, 6, 8, 10, 5, 7, 9, 11, 12]) zd183 rfl (fun zd186 => ?_)
      refine Yc 17 [some 87] tb144 zd186 (Xa (Xm (v := (.bool r176.2)) rfl) rfl (Xa (Xm (v := (.agg #[(iI r176.1.Lsn), v176_0])) rfl) rfl (Xa (Xm rfl) rfl Xg))) (by kernel_rfl) rfl (fun l187 e187 zd187 => ?_)
      have A188 := (ap59 (f176_0.c n177)).st p184 rfl
      refine Xu (vs := [(iI r176.1.Lsn), v176_0]) B184 z59 rfl (Xb rfl (Xb A188.rd.one Xi)) rfl (fun s189 p189 B189 => ?_)
      refine zdone0 (L' := [15]) (D' := [14, 13, 14, 17, 16, 0, 2, 1, 3, 4, 6, 8, 10, 5, 7, 9, 11, 12]) zd187 rfl rfl rfl (fun zd191 => ?_)
      refine zfin [18] tb144 zd191 (Xa (Xm (v := (.bool r176.2)) rfl) rfl Xg) (by kernel_rfl) (by decide) ?_
      obtain ⟨s192, hw192, p192, D192⟩ := BlF.rc B189 55 rfl
      rw [hw192]
      obtain ⟨s195, hw195, p195, A195⟩ := (A188.st (Xq p189 p192) rfl).rc 54 rfl
      rw [hw195]
      exact Kj166 _ _ _ ⟨s195, _, v176_0, b184, rfl, (ue (ue (ue (ue (ue rfl rfl) rfl) rfl) rfl) rfl), (K174.st (tr5 p177 p184 p189 p192 p195) rfl), A195, (Bx57_b42.st (tr7 p82 p144 p177 p184 p189 p192 p195) rfl), (Bx57_b7.st (tr7 p82 p144 p177 p184 p189 p192 p195) rfl), (A111.st (tr6 p144 p177 p184 p189 p192 p195) rfl), (D192.st p195 rfl), (A151.st (tr5 p177 p184 p189 p192 p195) rfl)⟩
     refine al' (cs := [(iI 0), (.slice none 0 0)]) 58 rfl o59 rfl (fun b202 s202 p202 B202 => ?_)
     refine Xl (L' := [11, 10, 9, 8, 7, 6, 5, 4, 3, 2, 1, 0]) (D' := [16]) zd168 rfl (fun zd204 => ?_)
     have A208 := A151.st p202 rfl
     refine Yc 12 [] tb144 zd204 (Xa (Xp (A111.st (Xq p144 p202) rfl) u3 rfl) rfl (Xa (Xr fa36_1 rfl) rfl (Xa (Xp (A111.st (Xq p144 p202) rfl) u25 rfl) rfl (Xa (Xr fa36_5 rfl) rfl (Xa (Xp (A111.st (Xq p144 p202) rfl) u3 rfl) rfl (Xa (Xr fa36_4 rfl) rfl (Xa (lca_q (ce152.st p202 rfl rfl) u59 z59 rfl rfl rfl rfl rfl rfl rfl) rfl (Xa (ix_q' A208.rd u30 z59 hg152.1 hg152.2 ia152 rfl) rfl (Xa (Xp (A111.st (Xq p144 p202) rfl) u3 rfl) rfl (Xa (Xr fa36_3 rfl) rfl (Xa (Xp (Bx57_b42.st (Yi p82 p144 p202) rfl) u30 rfl) rfl (Xa (Xr fa32_0 rfl) rfl Xg)))))))))))) (by kernel_rfl) rfl (fun l205 e205 zd205 => ?_)
     have K214 := Kx57.st (Yi p82 p144 p202) rfl
     refine cl' rfl func28 rfl (spec_PagePut.calls (at_ x57 a1.Page) a1.Slot a1.Data a1.Lsn s202.w (mm [46, 0] s202) v152_0 w1_0 ((A152_0.st p202 rfl).sub (D := [46, 0]) rfl) ((A1_0.kp K214).sub (D := [46, 0]) rfl)) ?_
     rintro r216 _ w216 m216 ⟨v216_0, rfl, f216_0, ky216⟩
     obtain ⟨s217, rfl, p217, n217⟩ := nwx s202 w216 59 ky216
     have Au216_0_0 := ap59 (f216_0.c n217)
     refine Xl (L' := []) (D' := [0, 2, 1, 3, 4, 6, 8, 10, 5, 7, 9, 11, 12, 16]) zd205 rfl (fun zd219 => ?_)
     refine Yc 17 [some 87] tb144 (((zd219.add 13 72 (.tuple #[(.agg #[(iI r216.1.Lsn), v216_0]), (.bool r216.2)]) rfl).add 14 86 (.agg #[(iI r216.1.Lsn), v216_0]) rfl).add 15 87 (.bool r216.2) rfl) (Xa (Xm (v := (.bool r216.2)) rfl) rfl (Xa (Xm (v := (.agg #[(iI r216.1.Lsn), v216_0])) rfl) rfl (Xa (Xm rfl) rfl Xg))) (by kernel_rfl) rfl (fun l223 e223 zd223 => ?_)
     refine Xu (vs := [(iI r216.1.Lsn), v216_0]) (B202.st p217 rfl) z59 rfl (Xb rfl (Xb Au216_0_0.rd.one Xi)) rfl (fun s225 p225 B225 => ?_)
     refine zdone0 (L' := [15]) (D' := [14, 13, 14, 17, 0, 2, 1, 3, 4, 6, 8, 10, 5, 7, 9, 11, 12, 16]) zd223 rfl rfl rfl (fun zd227 => ?_)
     refine zfin [18] tb144 zd227 (Xa (Xm (v := (.bool r216.2)) rfl) rfl Xg) (by kernel_rfl) (by decide) ?_
     obtain ⟨s228, hw228, p228, D228⟩ := BlF.rc B225 55 rfl
     rw [hw228]
     obtain ⟨s231, hw231, p231, A231⟩ := (Au216_0_0.st (Xq p225 p228) rfl).rc 54 rfl
     rw [hw231]
     exact Kj166 _ _ _ ⟨s231, _, v216_0, b202, rfl, (ue (ue (ue (ue (ue rfl rfl) rfl) rfl) rfl) rfl), (K214.st (tr4 p217 p225 p228 p231) rfl), A231, (Bx57_b42.st (tr7 p82 p144 p202 p217 p225 p228 p231) rfl), (Bx57_b7.st (tr7 p82 p144 p202 p217 p225 p228 p231) rfl), (A111.st (tr6 p144 p202 p217 p225 p228 p231) rfl), (D228.st p231 rfl), (A208.st (tr4 p217 p225 p228 p231) rfl)⟩
    rintro y166 _ _ ⟨s238, _, vy166_0, by166_0, rfl, rfl, Ky166, Ay166_0, By166_b42, By166_b7, By166_b5, Dy166_0, Cy166_62⟩
    refine Xc rfl (dn (sr (Xt fa32_0 rfl (Yb By166_b42 u30 rfl (Xt fa36_3 rfl (Yb By166_b5 u3 rfl (Xw (es := [(iI y166.1), vy166_0]) Dy166_0 u59 z59 rfl (ix' Cy166_62.rd u30 z59 rfl (fun ad244 es244 h0_244 h1_244 he244 ce244 ia244 => ?_)))))))))
    obtain ⟨v244_0, rfl, A244_0⟩ := op59 he244
    have A247 : OwF kd59 s238 [(iI y166.1), vy166_0] (Page.mk y166.1 y166.2.1) 54 := (Xo (fun x : Page => (x.Lsn, x.Slots)) (Page.mk y166.1 y166.2.1) (Yg (Xf .i64 y166.1) Ay166_0))
    refine som (x' := (Page.mk y166.1 y166.2.1)) Cy166_62 ia244 h0_244 h1_244 A247 rfl rfl z59 rfl rfl rfl rfl rfl rfl (fun s249 p249 A249 => ?_)
    refine dn (rg (Xc rfl (Xc rfl (dn ?_))))
    obtain ⟨s251, hw251, p251, A251⟩ := A249.rc 53 rfl
    rw [hw251]
    exact Kj142 _ _ _ ⟨s251, _, vx57_0, rfl, (ue (ue (ue rfl rfl) rfl) rfl), (Ky166.st (Xq p249 p251) rfl), A251, (By166_b42.st (Xq p249 p251) rfl), (By166_b7.st (Xq p249 p251) rfl)⟩
   refine sr (Xc rfl (Xc rfl (dn (jc (fun (y255 : Bool × (List Page)) e w => ∃ (s : St) (e0 : Env) (vy255_0 : Value), w = s.w ∧ e = upd (upd (upd e0 4 (pB b7)) 6 (pB b42)) 7 (.bool y255.1) ∧ Kp s0 s ∧ OwF Yp s [vy255_0] y255.2 60 ∧ BlF s b42 32 [vy255_0] 47 ∧ BlF s b7 32 [(.slice none 0 0)] 42) (fun Gj255 Kj255 => ?_) ?_))))
   ·
    refine cd rfl (fun h256 => ?_) (fun h256 => ?_)
    ·
     refine rg ?_
     have A257 := Bx57_b42.st p82 rfl
     refine Xw (es := [vx57_0]) A257 u32 z32 rfl (Xt fa36_3 rfl (Yb A111 u3 rfl (Xt fa36_4 rfl (Yb A111 u3 rfl (Xt fa36_2 rfl (Yb A111 u3 rfl (Xt fa36_1 rfl (Yb A111 u3 rfl (cl' rfl func29 rfl (spec_HeapMark.calls (Heap.mk x57) a1.Page a1.Slot a1.Xid a1.Lsn s82.w (mm [46] s82) vx57_0 A89.rd) ?_)))))))))
     rintro r258 _ w258 m258 ⟨v258_0, rfl, f258_0, ky258⟩
     obtain ⟨s259, rfl, p259, n259⟩ := nwx s82 w258 61 ky258
     have Au258_0_0 := ap32 (f258_0.c n259)
     refine Xc rfl (Xc (v := (.agg #[v258_0])) rfl (Xc (v := (.bool r258.2)) rfl ?_))
     refine Xu (vs := [v258_0]) (A257.st p259 rfl) z32 rfl (Xb Au258_0_0.rd.one Xi) rfl (fun s262 p262 B262 => ?_)
     refine Xc rfl (dn ?_)
     obtain ⟨s265, hw265, p265, A265⟩ := (Au258_0_0.st p262 rfl).rc 60 rfl
     rw [hw265]
     exact Kj255 _ _ _ ⟨s265, _, v258_0, rfl, (ue (ue (ue rfl rfl) rfl) rfl), (Kx57.st (tr4 p82 p259 p262 p265) rfl), A265, (B262.st p265 rfl), (Bx57_b7.st (tr4 p82 p259 p262 p265) rfl)⟩
    refine sr (Xc rfl (Xc rfl (dn (jc (fun (y269 : Bool × (List Page)) e w => ∃ (s : St) (e0 : Env) (vy269_0 : Value), w = s.w ∧ e = upd (upd (upd e0 4 (pB b7)) 6 (pB b42)) 7 (.bool y269.1) ∧ Kp s0 s ∧ OwF Yp s [vy269_0] y269.2 62 ∧ BlF s b42 32 [vy269_0] 47 ∧ BlF s b7 32 [(.slice none 0 0)] 42) (fun Gj269 Kj269 => ?_) ?_))))
    ·
     refine cd rfl (fun h270 => ?_) (fun h270 => ?_)
     ·
      refine rg ?_
      have A271 := Bx57_b42.st p82 rfl
      refine Xw (es := [vx57_0]) A271 u32 z32 rfl (Xt fa36_3 rfl (Yb A111 u3 rfl (Xt fa36_4 rfl (Yb A111 u3 rfl (Xt fa36_1 rfl (Yb A111 u3 rfl (cl' rfl func30 rfl (spec_HeapClear.calls (Heap.mk x57) a1.Page a1.Slot a1.Lsn s82.w (mm [46] s82) vx57_0 A89.rd) ?_)))))))
      rintro r272 _ w272 m272 ⟨v272_0, rfl, f272_0, ky272⟩
      obtain ⟨s273, rfl, p273, n273⟩ := nwx s82 w272 63 ky272
      have Au272_0_0 := ap32 (f272_0.c n273)
      refine Xc rfl (Xc (v := (.agg #[v272_0])) rfl (Xc (v := (.bool r272.2)) rfl ?_))
      refine Xu (vs := [v272_0]) (A271.st p273 rfl) z32 rfl (Xb Au272_0_0.rd.one Xi) rfl (fun s276 p276 B276 => ?_)
      refine Xc rfl (dn ?_)
      obtain ⟨s279, hw279, p279, A279⟩ := (Au272_0_0.st p276 rfl).rc 62 rfl
      rw [hw279]
      exact Kj269 _ _ _ ⟨s279, _, v272_0, rfl, (ue (ue (ue rfl rfl) rfl) rfl), (Kx57.st (tr4 p82 p273 p276 p279) rfl), A279, (B276.st p279 rfl), (Bx57_b7.st (tr4 p82 p273 p276 p279) rfl)⟩
     refine sk ?_
     obtain ⟨s283, hw283, p283, A283⟩ := A89.rc 62 rfl
     rw [hw283]
     exact Kj269 _ _ _ ⟨s283, _, vx57_0, rfl, (ue (ue (ue rfl rfl) rfl) rfl), (Kx57.st (Xq p82 p283) rfl), A283, (Bx57_b42.st (Xq p82 p283) rfl), (Bx57_b7.st (Xq p82 p283) rfl)⟩
    rintro y269 _ _ ⟨s287, _, vy269_0, rfl, rfl, Ky269, Ay269_0, By269_b42, By269_b7⟩
    obtain ⟨s291, hw291, p291, A291⟩ := Ay269_0.rc 60 rfl
    rw [hw291]
    exact Kj255 _ _ _ ⟨s291, _, vy269_0, rfl, (ue (ue (ue rfl rfl) rfl) rfl), (Ky269.st p291 rfl), A291, (By269_b42.st p291 rfl), (By269_b7.st p291 rfl)⟩
   rintro y255 _ _ ⟨s295, _, vy255_0, rfl, rfl, Ky255, Ay255_0, By255_b42, By255_b7⟩
   obtain ⟨s299, hw299, p299, A299⟩ := Ay255_0.rc 53 rfl
   rw [hw299]
   exact Kj142 _ _ _ ⟨s299, _, vy255_0, rfl, (ue (ue (ue rfl rfl) rfl) rfl), (Ky255.st p299 rfl), A299, (By255_b42.st p299 rfl), (By255_b7.st p299 rfl)⟩
  rintro y142 _ _ ⟨s303, _, vy142_0, rfl, rfl, Ky142, Ay142_0, By142_b42, By142_b7⟩
  obtain ⟨s307, hw307, p307, A307⟩ := Ay142_0.rc 50 rfl
  rw [hw307]
  exact Kj112 _ _ _ ⟨s307, _, vy142_0, rfl, (ue (ue (ue rfl rfl) rfl) rfl), (Ky142.st p307 rfl), A307, (By142_b42.st p307 rfl), (By142_b7.st p307 rfl)⟩
 rintro y112 _ _ ⟨s311, _, vy112_0, rfl, rfl, Ky112, Ay112_0, By112_b42, By112_b7⟩
 refine ib (sq (sr (Xc rfl (Xc rfl (Xc rfl (ji [] (fun (y315 : Bool) e w => ∃ (s : St) (e0 : Env), w = s.w ∧ e = upd (upd (upd e0 4 (pB b7)) 6 (pB b42)) 129 (.bool y315) ∧ Kp s0 s ∧ BlF s b42 32 [vy112_0] 47 ∧ BlF s b7 32 [(.slice none 0 0)] 42 ∧ OwF Yp s [vy112_0] y112.2 50) (fun Gj315 Kj315 => ?_) ?_))))))
 ·
  rcases Yn (!y112.1) with hb315 | hb315
  ·
   refine Xy hb315 ?_
   rw [if_pos hb315]
   exact Xj rfl (Xj rfl (Xj rfl (Xc rfl (Kj315 _ _ _ ⟨s311, _, rfl, (ue (ue (ue rfl rfl) rfl) rfl), Ky112, By112_b42, By112_b7, Ay112_0⟩))))
  refine Xy hb315 ?_
  rw [if_neg (by rw [hb315]; decide)]
  refine Xw (es := [vy112_0]) By112_b42 u32 z32 rfl (Ym 64 rfl func24 rfl (spec_HeapOk.calls (Heap.mk y112.2) s311.w (mm [50] s311) vy112_0 Ay112_0.rd) (fun r316 s317 p317 n317 => ?_))
  refine Xc rfl (Xc rfl ?_)
  exact Kj315 _ _ _ ⟨s317, _, rfl, (ue (ue (ue rfl rfl) rfl) rfl), (Ky112.st p317 rfl), (By112_b42.st p317 rfl), (By112_b7.st p317 rfl), (Ay112_0.st p317 rfl)⟩
 rintro y315 _ _ ⟨s322, _, rfl, rfl, Ky315, By315_b42, By315_b7, Cy315_312⟩
 refine dn (cd rfl (fun h325 => ?_) (fun h325 => ?_))
 ·
  refine sr (bd' (cells := [(.slice none 0 0)]) pl32 o32 rfl rfl (Xu (vs := [(.slice none 0 0)]) By315_b7 z32 rfl (Xb rfl Xi) rfl (fun s326 p326 B326 => ?_)))
  refine Xc rfl (dn ?_)
  have A328 : OwF kd32 s326 [(.slice none 0 0)] (Heap.mk ([] : (List Page))) 65 := ow_z _ _ (Xz (fun x : Heap => (x.Pages)) (Heap.mk ([] : (List Page))) (Ya 59 kd59))
  have K330 := Ky315.st p326 rfl
  exact re rfl func7 rfl (r_b B326 u32 rfl z32 rfl (Xs rfl Xe)) rfl ⟨_, rfl, (.slice none 0 0), rfl, A328.fo K330 rfl z.l, z.ky K330⟩
 refine sk (sr (Xw (es := [vy112_0]) By315_b42 u32 z32 rfl (Xu (vs := [vy112_0]) By315_b7 z32 rfl (Xb Cy315_312.rd.one Xi) rfl (fun s331 p331 B331 => ?_))))
 refine Xc rfl (dn ?_)
 have A333 : OwF kd32 s331 [vy112_0] (Heap.mk y112.2) 50 := (Xo (fun x : Heap => (x.Pages)) (Heap.mk y112.2) (Cy315_312.st p331 rfl))
 have K336 := Ky315.st p331 rfl
 exact re rfl func7 rfl (r_b B331 u32 rfl z32 rfl (Xs rfl Xe)) rfl ⟨_, rfl, vy112_0, rfl, A333.fo K336 rfl z.l, z.ky K336⟩
def impl_areAll_impl_Page_1.f (a0 : Page) (a1 : (Page → Option Bool)) : Option (Bool) :=
 ((a1 a0).bind fun r8 => (some (!r8)))
def impl_areAll_impl_Page_1.Q (w : World) (F : Nat → Prop) (r : Bool) (v : Value) (w' : World) : Prop :=
 v = (.bool r) ∧ Ky [] w w'
theorem impl_areAll_impl_Page_1.calls (a0 : Page) (a1 : (Page → Option Bool)) (w : World) (F : Nat → Prop) (w0_0 : Value) (c1 : Nat) (f1 : Value) (h0_0 : (Kd.sl 25 Yo).rd w [w0_0] a0.Slots F) (hf1 : ∀ (x0 : Page) (u0_0 : Value) (w' : World), Ky [] w w' → (Kd.sl 25 Yo).rd w' [u0_0] x0.Slots (fun _ => True) → ∀ r, a1 x0 = some r → CallV prog f1 [(.agg #[(iI x0.Lsn), u0_0])] w' fun en w'' => ∃ v, en = .returned v ∧ v = (.bool r) ∧ Ky [] w' w'') (ho1 : f1.cells = #[f1]) (hb1 : BlW w c1 94 [f1]) (hp1 : F c1) (r : Bool) (m : impl_areAll_impl_Page_1.f a0 a1 = some r) :
  Calls prog 82 #[(.agg #[(iI a0.Lsn), w0_0]), (pB c1)] w (RT (impl_areAll_impl_Page_1.Q w F) r) := by
 obtain ⟨s0, rfl, kp0, z⟩ := Xk w F
 refine Xd (args := [(.agg #[(iI a0.Lsn), w0_0]), (pB c1)]) func82 ntmps82 rfl rfl m ?_
 unfold impl_areAll_impl_Page_1.f
 refine sr (bx' (cs := [(iI a0.Lsn), w0_0]) 40 rfl rfl (fun b3 s3 p3 B3 => ?_))
 refine Xc rfl (dn (sr ?_))
 refine Yb (BlF.st (z.b0 hb1 hp1) p3 rfl) u94 rfl (Xw (es := [(iI a0.Lsn), w0_0]) B3 u59 z59 rfl ?_)
 have K6 := kp0.st p3 rfl
 refine clv rfl rfl rfl rfl rfl rfl rfl (fun r8 m8 => hf1 a0 w0_0 s3.w (z.ky K6) (RdF.top ((z.rd h0_0).kp K6)) r8 m8) ?_
 rintro r8 _ w8 m8 ⟨rfl, ky8⟩
 obtain ⟨s9, rfl, p9, n9⟩ := nwx s3 w8 41 ky8
 refine Xc rfl (Xc rfl (dn ?_))
 exact re rfl func82 rfl (Xs rfl Xe) rfl ⟨_, rfl, rfl, z.ky (K6.st p9 rfl)⟩
def slices_IndexFunc_impl_Page_impl_Page.b0 (a0 : (List Page)) (a1 : (Page → Option Bool)) (x2 : Int) : Option (Int ⊕ Int) :=
 (if (decide (x2 < (a0.length : Int))) = true then (if 0 ≤ x2 ∧ x2 < (a0.length : Int) then ((a1 (at_ a0 x2)).bind fun r9 => (if r9 = true then (some (Sum.inr x2)) else (some (Sum.inl (IntKind.wrap .i64 (x2 + (1 : Int))))))) else none) else ((some (-1 : Int)).bind fun o => some (Sum.inr o)))
def slices_IndexFunc_impl_Page_impl_Page.f (a0 : (List Page)) (a1 : (Page → Option Bool)) : Option (Int) :=
 (iter (slices_IndexFunc_impl_Page_impl_Page.b0 a0 a1) (0 : Int))
def slices_IndexFunc_impl_Page_impl_Page.Q (w : World) (F : Nat → Prop) (r : Int) (v : Value) (w' : World) : Prop :=
 v = (iI r) ∧ Ky [] w w'
theorem slices_IndexFunc_impl_Page_impl_Page.calls (a0 : (List Page)) (a1 : (Page → Option Bool)) (w : World) (F : Nat → Prop) (w0_0 : Value) (f1 : Value) (h0_0 : Yp.rd w [w0_0] a0 F) (hf1 : ∀ (x0 : Page) (u0_0 : Value) (w' : World), Ky [] w w' → (Kd.sl 25 Yo).rd w' [u0_0] x0.Slots (fun _ => True) → ∀ r, a1 x0 = some r → CallV prog f1 [(.agg #[(iI x0.Lsn), u0_0])] w' fun en w'' => ∃ v, en = .returned v ∧ v = (.bool r) ∧ Ky [] w' w'') (ho1 : f1.cells = #[f1]) (r : Int) (m : slices_IndexFunc_impl_Page_impl_Page.f a0 a1 = some r) :
  Calls prog 107 #[w0_0, f1] w (RT (slices_IndexFunc_impl_Page_impl_Page.Q w F) r) := by
 obtain ⟨s0, rfl, kp0, z⟩ := Xk w F
 have A0_0 := z.rd h0_0
 refine Xd (args := [w0_0, f1]) func107 ntmps107 rfl rfl m ?_
 unfold slices_IndexFunc_impl_Page_impl_Page.f
 refine sr (Xc rfl (dn (sq (sr (Xx w0_0 rfl (Yl A0_0 u30 rfl (Xc rfl (dn (bl (lpI (fun (x2 : Int) e w => ∃ (s : St) (e0 : Env), w = s.w ∧ e = upd (upd (upd (upd e0 0 w0_0) 1 f1) 7 (iI (a0.length : Int))) 8 (iI x2) ∧ Kp s0 s) ⟨s0, _, rfl, (ue (ue (ue (ue rfl rfl) rfl) rfl) rfl), kp0⟩ (fun g2 ih2 => ?_)))))))))))
 rintro x2 _ _ ⟨s3, _, rfl, rfl, Kx2⟩
 unfold slices_IndexFunc_impl_Page_impl_Page.b0
 refine sr (Xc rfl (dn (sq (cd rfl (fun h4 => ?_) (fun h4 => ?_)))))
 ·
  refine sk (sq (bl (sr (Xc rfl (Xc rfl (dn (sr (Xx f1 rfl (Xx w0_0 rfl (Xc rfl ?_))))))))))
  refine ix' (A0_0.kp Kx2) u30 z59 rfl (fun ad6 es6 h0_6 h1_6 he6 ce6 ia6 => ?_)
  obtain ⟨v6_0, rfl, A6_0⟩ := op59 he6
  refine lca ce6 u59 z59 rfl rfl rfl rfl rfl rfl rfl (clv rfl rfl rfl rfl rfl rfl rfl (fun r9 m9 => hf1 (at_ a0 x2) v6_0 s3.w (z.ky Kx2) (RdF.top A6_0) r9 m9) ?_)
  rintro r9 _ w9 m9 ⟨rfl, ky9⟩
  obtain ⟨s10, rfl, p10, n10⟩ := nwx s3 w9 40 ky9
  refine dn (cd rfl (fun h11 => ?_) (fun h11 => ?_))
  ·
   refine sr (Xc rfl (Xc rfl (dn (sgi ?_))))
   exact re rfl func107 rfl (Xs rfl Xe) rfl ⟨_, rfl, rfl, z.ky (Kx2.st p10 rfl)⟩
  refine sk (ib (rg (Xc rfl (Xc rfl (dn ?_)))))
  exact lb ih2 ⟨s10, _, rfl, (ue (ue (ue (ue rfl rfl) rfl) rfl) rfl), (Kx2.st p10 rfl)⟩
 exact xt rfl (sgb (sr (Xc rfl (dn (re rfl func107 rfl (Xs rfl Xe) rfl ⟨_, rfl, rfl, z.ky Kx2⟩)))))
def slices_ContainsFunc_impl_Page_impl_Page.f (a0 : (List Page)) (a1 : (Page → Option Bool)) : Option (Bool) :=
 ((slices_IndexFunc_impl_Page_impl_Page.f a0 a1).bind fun r2 => (some (decide (r2 ≥ (0 : Int)))))
def slices_ContainsFunc_impl_Page_impl_Page.Q (w : World) (F : Nat → Prop) (r : Bool) (v : Value) (w' : World) : Prop :=
 v = (.bool r) ∧ Ky [] w w'
theorem slices_ContainsFunc_impl_Page_impl_Page.calls (a0 : (List Page)) (a1 : (Page → Option Bool)) (w : World) (F : Nat → Prop) (w0_0 : Value) (f1 : Value) (h0_0 : Yp.rd w [w0_0] a0 F) (hf1 : ∀ (x0 : Page) (u0_0 : Value) (w' : World), Ky [] w w' → (Kd.sl 25 Yo).rd w' [u0_0] x0.Slots (fun _ => True) → ∀ r, a1 x0 = some r → CallV prog f1 [(.agg #[(iI x0.Lsn), u0_0])] w' fun en w'' => ∃ v, en = .returned v ∧ v = (.bool r) ∧ Ky [] w' w'') (ho1 : f1.cells = #[f1]) (r : Bool) (m : slices_ContainsFunc_impl_Page_impl_Page.f a0 a1 = some r) :
  Calls prog 81 #[w0_0, f1] w (RT (slices_ContainsFunc_impl_Page_impl_Page.Q w F) r) := by
 obtain ⟨s0, rfl, kp0, z⟩ := Xk w F
 refine Xd (args := [w0_0, f1]) func81 ntmps81 rfl rfl m ?_
 unfold slices_ContainsFunc_impl_Page_impl_Page.f
 refine sr (Xc rfl (dn (sr (Xx w0_0 rfl (Xx f1 rfl (Ym 40 rfl func107 rfl (slices_IndexFunc_impl_Page_impl_Page.calls a0 a1 s0.w (mm [0] s0) w0_0 f1 (z.rd h0_0) (fun x0 u0_0 w' k h0 r m =>  hf1 x0 u0_0 w' (Ky.trans (z.ky kp0) k) h0 r m) ho1) (fun r2 s3 p3 n3 => ?_)))))))
 refine Xc rfl (Xc rfl (dn ?_))
 exact re rfl func81 rfl (Xs rfl Xe) rfl ⟨_, rfl, rfl, z.ky (kp0.st p3 rfl)⟩
def impl_areAll_impl_Page.f (a0 : (List Page)) (a1 : (Page → Option Bool)) : Option (Bool) :=
 ((slices_ContainsFunc_impl_Page_impl_Page.f a0 (fun x0 => impl_areAll_impl_Page_1.f x0 a1)).bind fun r6 => (some (!r6)))
def impl_areAll_impl_Page.Q (w : World) (F : Nat → Prop) (r : Bool) (v : Value) (w' : World) : Prop :=
 v = (.bool r) ∧ Ky [] w w'
theorem impl_areAll_impl_Page.calls (a0 : (List Page)) (a1 : (Page → Option Bool)) (w : World) (F : Nat → Prop) (w0_0 : Value) (f1 : Value) (h0_0 : Yp.rd w [w0_0] a0 F) (hf1 : ∀ (x0 : Page) (u0_0 : Value) (w' : World), Ky [] w w' → (Kd.sl 25 Yo).rd w' [u0_0] x0.Slots (fun _ => True) → ∀ r, a1 x0 = some r → CallV prog f1 [(.agg #[(iI x0.Lsn), u0_0])] w' fun en w'' => ∃ v, en = .returned v ∧ v = (.bool r) ∧ Ky [] w' w'') (ho1 : f1.cells = #[f1]) (r : Bool) (m : impl_areAll_impl_Page.f a0 a1 = some r) :
  Calls prog 53 #[w0_0, f1] w (RT (impl_areAll_impl_Page.Q w F) r) := by
 obtain ⟨s0, rfl, kp0, z⟩ := Xk w F
 refine Xd (args := [w0_0, f1]) func53 ntmps53 rfl rfl m ?_
 unfold impl_areAll_impl_Page.f
 refine sr (bx' (cs := [f1]) 40 rfl ho1 (fun b2 s2 p2 B2 => ?_))
 refine Xc rfl (dn (sr (Xx w0_0 rfl (mkf (fs := []) (cs := [(pB b2)]) rfl rfl rfl rfl rfl rfl rfl ?_))))
 have K4 := kp0.st p2 rfl
 refine Ym 41 rfl func81 rfl (slices_ContainsFunc_impl_Page_impl_Page.calls a0 (fun x0 => impl_areAll_impl_Page_1.f x0 a1) s2.w (mm [0] s2) w0_0 (.func (.func 82) (List.toArray []) (List.toArray [(pB b2)])) ((z.rd h0_0).kp K4) (fun x0 u0_0 w' k h0 r m =>  ⟨82, _, _, [], [(pB b2)], rfl, func82, rfl, rfl, (impl_areAll_impl_Page_1.calls x0 a1 w' (fun _ => True) u0_0 b2 f1 h0 (fun x0c u0_0c w'c kc h0c r m =>  hf1 x0c u0_0c w'c (Ky.trans (z.ky K4) (Ky.trans k kc)) h0c r m) ho1 (B2.ky k) trivial r m).mono fun en w2 hq => by obtain ⟨v, e, q⟩ := hq; exact ⟨v, e, q⟩⟩) rfl) (fun r6 s7 p7 n7 => ?_)
 refine Xc rfl (Xc rfl (dn ?_))
 exact re rfl func53 rfl (Xs rfl Xe) rfl ⟨_, rfl, rfl, z.ky (K4.st p7 rfl)⟩
def impl_within.f (a0 : Int) (a1 : Int) (a2 : Int) : Option (Bool) :=
 (some ((decide (a1 ≤ a0)) && (decide (a0 ≤ a2))))
def impl_within.Q (w : World) (F : Nat → Prop) (r : Bool) (v : Value) (w' : World) : Prop :=
 v = (.bool r) ∧ Ky [] w w'
theorem impl_within.calls (a0 : Int) (a1 : Int) (a2 : Int) (w : World) (F : Nat → Prop)   (r : Bool) (m : impl_within.f a0 a1 a2 = some r) :
  Calls prog 63 #[(iI a0), (iI a1), (iI a2)] w (RT (impl_within.Q w F) r) := by
 obtain ⟨s0, rfl, kp0, z⟩ := Xk w F
 refine Xd (args := [(iI a0), (iI a1), (iI a2)]) func63 ntmps63 rfl rfl m ?_
 unfold impl_within.f
 refine sr (Xc rfl (dn (sr (Xc rfl (Xc rfl (Xc rfl (Xc rfl (jy [10, 11, 12, 13, 14] [8] 14 (.bool ((decide (a1 ≤ a0)) && (decide (a0 ≤ a2)))) rfl (fun Kg1 => ?_) (fun j1 => ?_)))))))))
 ·
  rcases Yn (decide (a1 ≤ a0)) with hb1 | hb1
  ·
   exact Xy hb1 (Xc rfl (Xc rfl (Xc rfl (Xc rfl (Kg1 _ (Ag.put ((Ag.put ((Ag.put ((Ag.put (Ag.base rfl) rfl)) rfl)) rfl)) rfl) (by rw [hb1]; rfl))))))
  exact Xy hb1 (Xj rfl (Xj rfl (Xj rfl (Xc rfl (Kg1 _ (Ag.put ((Ag.put ((Ag.put ((Ag.put (Ag.base rfl) rfl)) rfl)) rfl)) rfl) (by rw [hb1]; rfl))))))
 exact Xc rfl (dn (re rfl func63 rfl (Xs rfl Xe) rfl ⟨_, rfl, rfl, z.ky kp0⟩))
def impl_PageUsed.b0 (a0 : Page) (x15 : Int × Int) : Option ((Int × Int) ⊕ Int) :=
 (if (decide (x15.2 < (a0.Slots.length : Int))) = true then (if 0 ≤ x15.2 ∧ x15.2 < (a0.Slots.length : Int) then (if (decide (((at_ a0.Slots x15.2).length : Int) > (92 : Int))) = true then (some (Sum.inr (-1 : Int))) else (some (Sum.inl ((IntKind.wrap .i64 (x15.1 + ((at_ a0.Slots x15.2).length : Int))), (IntKind.wrap .i64 (x15.2 + (1 : Int))))))) else none) else (((if (decide (x15.1 > (240 : Int))) = true then (some true) else ((if (decide ((a0.Slots.length : Int) > (0 : Int))) = true then (if 0 ≤ (IntKind.wrap .i64 ((a0.Slots.length : Int) - (1 : Int))) ∧ (IntKind.wrap .i64 ((a0.Slots.length : Int) - (1 : Int))) < (a0.Slots.length : Int) then (some (((at_ a0.Slots (IntKind.wrap .i64 ((a0.Slots.length : Int) - (1 : Int)))).length : Int) == (0 : Int))) else none) else (some false)).bind fun y26 => (some y26))).bind fun y24 => (if y24 = true then (some (-1 : Int)) else (some x15.1))).bind fun o => some (Sum.inr o)))
def impl_PageUsed.f (a0 : Page) : Option (Int) :=
 ((impl_within.f a0.Lsn (0 : Int) (1000000 : Int)).bind fun r4 => (if ((!r4) || (decide ((a0.Slots.length : Int) > (16 : Int)))) = true then (some (-1 : Int)) else (iter (impl_PageUsed.b0 a0) ((IntKind.wrap .i64 ((1 : Int) + (a0.Slots.length : Int))), (0 : Int)))))
def impl_PageUsed.Q (w : World) (F : Nat → Prop) (r : Int) (v : Value) (w' : World) : Prop :=
 v = (iI r) ∧ Ky [] w w'
theorem impl_PageUsed.calls (a0 : Page) (w : World) (F : Nat → Prop) (w0_0 : Value) (h0_0 : (Kd.sl 25 Yo).rd w [w0_0] a0.Slots F) (r : Int) (m : impl_PageUsed.f a0 = some r) :
  Calls prog 55 #[(.agg #[(iI a0.Lsn), w0_0])] w (RT (impl_PageUsed.Q w F) r) := by
 obtain ⟨s0, rfl, kp0, z⟩ := Xk w F
 have A0_0 := z.rd h0_0
 refine Xd (args := [(.agg #[(iI a0.Lsn), w0_0])]) func55 ntmps55 rfl rfl m ?_
 unfold impl_PageUsed.f
 refine sr (bx' (cs := [(iI a0.Lsn), w0_0]) 40 rfl rfl (fun b2 s2 p2 B2 => ?_))
 refine Xc rfl (dn (sq (sr (Xt fa59_0 rfl (Yb B2 u3 rfl (Ym 41 rfl func63 rfl (impl_within.calls a0.Lsn (0 : Int) (1000000 : Int) s2.w (mm [] s2)) (fun r4 s5 p5 n5 => ?_)))))))
 refine Xc rfl (Xc rfl (jy [10, 11, 12, 13, 14, 15] [] 15 (.bool ((!r4) || (decide ((a0.Slots.length : Int) > (16 : Int))))) rfl (fun Kg6 => ?_) (fun j6 => ?_)))
 ·
  rcases Yn (!r4) with hb6 | hb6
  ·
   exact Xy hb6 (Xj rfl (Xj rfl (Xj rfl (Xj rfl (Xc rfl (Kg6 _ (Ag.put ((Ag.put ((Ag.put ((Ag.put ((Ag.put (Ag.base rfl) rfl)) rfl)) rfl)) rfl)) rfl) (by rw [hb6]; rfl)))))))
  refine Xy hb6 (Xt fa59_1 rfl ?_)
  exact Yb (B2.st p5 rfl) u57 rfl (Yl (A0_0.kp (kp0.st (Xq p2 p5) rfl)) u57 rfl (Xc rfl (Xc rfl (Kg6 _ (Ag.put ((Ag.put ((Ag.put ((Ag.put ((Ag.put (Ag.base rfl) rfl)) rfl)) rfl)) rfl)) rfl) (by rw [hb6]; rfl)))))
 refine dn (cd rfl (fun h10 => ?_) (fun h10 => ?_))
 ·
  refine sr (Xc rfl (dn ?_))
  exact re rfl func55 rfl (Xs rfl Xe) rfl ⟨_, rfl, rfl, z.ky (kp0.st (Xq p2 p5) rfl)⟩
 refine sk (sr (Xt fa59_1 rfl ?_))
 have A12 := B2.st p5 rfl
 refine Yb A12 u57 rfl ?_
 have K13 := kp0.st (Xq p2 p5) rfl
 have A14 := A0_0.kp K13
 refine Yl A14 u57 rfl (Xc rfl (Xc rfl (dn (sq (sr (Xt fa59_1 rfl (Yb A12 u57 rfl (Yl A14 u57 rfl (Xc rfl (dn (bl (lpI (fun (x15 : Int × Int) e w => ∃ (s : St) (e0 : Env), w = s.w ∧ e = upd (upd (upd (upd (upd e0 1 (pB b2)) 3 (iI x15.1)) 21 w0_0) 22 (iI (a0.Slots.length : Int))) 23 (iI x15.2) ∧ Kp s0 s ∧ BlF s b2 59 [(iI a0.Lsn), w0_0] 40) ⟨s5, _, rfl, (ue (ue (ue (ue (ue rfl rfl) rfl) rfl) rfl) rfl), K13, A12⟩ (fun g15 ih15 => ?_)))))))))))))
 rintro x15 _ _ ⟨s16, _, rfl, rfl, Kx15, Bx15_b2⟩
 unfold impl_PageUsed.b0
 refine sr (Xc rfl (dn (sq (cd rfl (fun h18 => ?_) (fun h18 => ?_)))))
 ·
  refine sk (sq (bl (sr ?_)))
  refine ix' (A0_0.kp Kx15) u57 z25 rfl (fun ad20 es20 h0_20 h1_20 he20 ce20 ia20 => ?_)
  obtain ⟨v20, rfl, he20'⟩ := he20
  have A20 : RdF Yo s16 [v20] (at_ a0.Slots x15.2) [0] := ⟨v20, rfl, he20'⟩
  refine lc0' ce20 u25 rfl (Yd v20 rfl (dn (sq (sr (Xx v20 rfl (Yl A20 u25 rfl (Xc rfl (dn (cd rfl (fun h23 => ?_) (fun h23 => ?_))))))))))
  ·
   exact sr (Xc rfl (dn (sgi (re rfl func55 rfl (Xs rfl Xe) rfl ⟨_, rfl, rfl, z.ky Kx15⟩))))
  exact sk (rg (Xc rfl (Xx v20 rfl (Yl A20 u25 rfl (Xc rfl (Xc rfl (dn (ib (rg (Xc rfl (Xc rfl (dn (lb ih15 ⟨s16, _, rfl, (ue (ue (ue (ue (ue rfl rfl) rfl) rfl) rfl) rfl), Kx15, Bx15_b2⟩)))))))))))))
 refine xt rfl (sgb (sq (sr (Xc rfl (Xc rfl (Xc rfl (ji [] (fun (y24 : Bool) e w => ∃ (s : St) (e0 : Env), w = s.w ∧ e = upd (upd e0 3 (iI x15.1)) 54 (.bool y24) ∧ Kp s0 s) (fun Gj24 Kj24 => ?_) ?_)))))))
 ·
  rcases Yn (decide (x15.1 > (240 : Int))) with hb24 | hb24
  ·
   refine Xy hb24 ?_
   rw [if_pos hb24]
   refine Xj rfl (Xj rfl (Xj rfl (Xj rfl (Xj rfl (Xj rfl (Xj rfl (Xj rfl (Xj rfl (Xj rfl (Xj rfl (Xj rfl (Xj rfl (Xj rfl (Xj rfl ?_))))))))))))))
   exact Xj rfl (Xc rfl (Kj24 _ _ _ ⟨s16, _, rfl, (ue (ue rfl rfl) rfl), Kx15⟩))
  refine Xy hb24 ?_
  rw [if_neg (by rw [hb24]; decide)]
  refine Xt fa59_1 rfl (Yb Bx15_b2 u57 rfl ?_)
  have A25 := A0_0.kp Kx15
  refine Yl A25 u57 rfl (Xc rfl (Xc rfl (ji [19] (fun (y26 : Bool) e w => ∃ (s : St) (e0 : Env), w = s.w ∧ e = upd (upd (upd e0 3 (iI x15.1)) 37 (.bool false)) 53 (.bool y26) ∧ Kp s0 s) (fun Gj26 Kj26 => ?_) ?_)))
  ·
   rcases Yn (decide ((a0.Slots.length : Int) > (0 : Int))) with hb26 | hb26
   ·
    refine Xy hb26 ?_
    rw [if_pos hb26]
    refine Xt fa59_1 rfl (Yb Bx15_b2 u57 rfl (Xt fa59_1 rfl (Yb Bx15_b2 u57 rfl (Yl A25 u57 rfl (Xc rfl (ix' A25 u57 z25 rfl (fun ad27 es27 h0_27 h1_27 he27 ce27 ia27 => ?_)))))))
    obtain ⟨v27, rfl, he27'⟩ := he27
    have A27 : RdF Yo s16 [v27] (at_ a0.Slots (IntKind.wrap .i64 ((a0.Slots.length : Int) - (1 : Int)))) [0] := ⟨v27, rfl, he27'⟩
    exact lc0' ce27 u25 rfl (Yl A27 u25 rfl (Xc rfl (Xc rfl (Kj26 _ _ _ ⟨s16, _, rfl, (ue (ue (ue rfl rfl) rfl) rfl), Kx15⟩))))
   refine Xy hb26 ?_
   rw [if_neg (by rw [hb26]; decide)]
   exact Xj rfl (Xj rfl (Xj rfl (Xj rfl (Xj rfl (Xj rfl (Xj rfl (Xj rfl (Xj rfl (Xj rfl (Xc rfl (Kj26 _ _ _ ⟨s16, _, rfl, (ue (ue (ue rfl rfl) rfl) rfl), Kx15⟩)))))))))))
  rintro y26 _ _ ⟨s30, _, rfl, rfl, Ky26⟩
  exact Xc rfl (Kj24 _ _ _ ⟨s30, _, rfl, (ue (ue rfl rfl) rfl), Ky26⟩)
 rintro y24 _ _ ⟨s31, _, rfl, rfl, Ky24⟩
 refine dn (cd rfl (fun h32 => ?_) (fun h32 => ?_))
 ·
  exact sr (Xc rfl (dn (re rfl func55 rfl (Xs rfl Xe) rfl ⟨_, rfl, rfl, z.ky Ky24⟩)))
 exact sk (sr (Xc rfl (Xc rfl (dn (re rfl func55 rfl (Xs rfl Xe) rfl ⟨_, rfl, rfl, z.ky Ky24⟩)))))
def impl_areAll_byte_1.f (a0 : (List Int)) (a1 : ((List Int) → Option Bool)) : Option (Bool) :=
 ((a1 a0).bind fun r3 => (some (!r3)))
def impl_areAll_byte_1.Q (w : World) (F : Nat → Prop) (r : Bool) (v : Value) (w' : World) : Prop :=
 v = (.bool r) ∧ Ky [] w w'
theorem impl_areAll_byte_1.calls (a0 : (List Int)) (a1 : ((List Int) → Option Bool)) (w : World) (F : Nat → Prop) (w0_0 : Value) (c1 : Nat) (f1 : Value) (h0_0 : Yo.rd w [w0_0] a0 F) (hf1 : ∀ (x0 : (List Int)) (u0_0 : Value) (w' : World), Ky [] w w' → Yo.rd w' [u0_0] x0 (fun _ => True) → ∀ r, a1 x0 = some r → CallV prog f1 [u0_0] w' fun en w'' => ∃ v, en = .returned v ∧ v = (.bool r) ∧ Ky [] w' w'') (ho1 : f1.cells = #[f1]) (hb1 : BlW w c1 93 [f1]) (hp1 : F c1) (r : Bool) (m : impl_areAll_byte_1.f a0 a1 = some r) :
  Calls prog 84 #[w0_0, (pB c1)] w (RT (impl_areAll_byte_1.Q w F) r) := by
 obtain ⟨s0, rfl, kp0, z⟩ := Xk w F
 refine Xd (args := [w0_0, (pB c1)]) func84 ntmps84 rfl rfl m ?_
 unfold impl_areAll_byte_1.f
 refine sr (Xc rfl (dn (sr (Yb (z.b0 hb1 hp1) u93 rfl (Xx w0_0 rfl (clv rfl rfl rfl rfl rfl rfl rfl (fun r3 m3 => hf1 a0 w0_0 s0.w (z.ky kp0) (RdF.top (z.rd h0_0)) r3 m3) ?_))))))
 rintro r3 _ w3 m3 ⟨rfl, ky3⟩
 obtain ⟨s4, rfl, p4, n4⟩ := nwx s0 w3 40 ky3
 refine Xc rfl (Xc rfl (dn ?_))
 exact re rfl func84 rfl (Xs rfl Xe) rfl ⟨_, rfl, rfl, z.ky (kp0.st p4 rfl)⟩
def slices_IndexFunc_byte_byte.b0 (a0 : (List (List Int))) (a1 : ((List Int) → Option Bool)) (x2 : Int) : Option (Int ⊕ Int) :=
 (if (decide (x2 < (a0.length : Int))) = true then (if 0 ≤ x2 ∧ x2 < (a0.length : Int) then ((a1 (at_ a0 x2)).bind fun r9 => (if r9 = true then (some (Sum.inr x2)) else (some (Sum.inl (IntKind.wrap .i64 (x2 + (1 : Int))))))) else none) else ((some (-1 : Int)).bind fun o => some (Sum.inr o)))
def slices_IndexFunc_byte_byte.f (a0 : (List (List Int))) (a1 : ((List Int) → Option Bool)) : Option (Int) :=
 (iter (slices_IndexFunc_byte_byte.b0 a0 a1) (0 : Int))
def slices_IndexFunc_byte_byte.Q (w : World) (F : Nat → Prop) (r : Int) (v : Value) (w' : World) : Prop :=
 v = (iI r) ∧ Ky [] w w'
theorem slices_IndexFunc_byte_byte.calls (a0 : (List (List Int))) (a1 : ((List Int) → Option Bool)) (w : World) (F : Nat → Prop) (w0_0 : Value) (f1 : Value) (h0_0 : (Kd.sl 25 Yo).rd w [w0_0] a0 F) (hf1 : ∀ (x0 : (List Int)) (u0_0 : Value) (w' : World), Ky [] w w' → Yo.rd w' [u0_0] x0 (fun _ => True) → ∀ r, a1 x0 = some r → CallV prog f1 [u0_0] w' fun en w'' => ∃ v, en = .returned v ∧ v = (.bool r) ∧ Ky [] w' w'') (ho1 : f1.cells = #[f1]) (r : Int) (m : slices_IndexFunc_byte_byte.f a0 a1 = some r) :
  Calls prog 108 #[w0_0, f1] w (RT (slices_IndexFunc_byte_byte.Q w F) r) := by
 obtain ⟨s0, rfl, kp0, z⟩ := Xk w F
 have A0_0 := z.rd h0_0
 refine Xd (args := [w0_0, f1]) func108 ntmps108 rfl rfl m ?_
 unfold slices_IndexFunc_byte_byte.f
 refine sr (Xc rfl (dn (sq (sr (Xx w0_0 rfl (Yl A0_0 u57 rfl (Xc rfl (dn (bl (lpI (fun (x2 : Int) e w => ∃ (s : St) (e0 : Env), w = s.w ∧ e = upd (upd (upd (upd e0 0 w0_0) 1 f1) 7 (iI (a0.length : Int))) 8 (iI x2) ∧ Kp s0 s) ⟨s0, _, rfl, (ue (ue (ue (ue rfl rfl) rfl) rfl) rfl), kp0⟩ (fun g2 ih2 => ?_)))))))))))
 rintro x2 _ _ ⟨s3, _, rfl, rfl, Kx2⟩
 unfold slices_IndexFunc_byte_byte.b0
 refine sr (Xc rfl (dn (sq (cd rfl (fun h4 => ?_) (fun h4 => ?_)))))
 ·
  refine sk (sq (bl (sr (Xc rfl (Xc rfl (dn (sr (Xx f1 rfl (Xx w0_0 rfl (Xc rfl ?_))))))))))
  refine ix' (A0_0.kp Kx2) u57 z25 rfl (fun ad6 es6 h0_6 h1_6 he6 ce6 ia6 => ?_)
  obtain ⟨v6, rfl, he6'⟩ := he6
  have A6 : RdF Yo s3 [v6] (at_ a0 x2) [0] := ⟨v6, rfl, he6'⟩
  refine lc0' ce6 u25 rfl (clv rfl rfl rfl rfl rfl rfl rfl (fun r9 m9 => hf1 (at_ a0 x2) v6 s3.w (z.ky Kx2) (RdF.top A6) r9 m9) ?_)
  rintro r9 _ w9 m9 ⟨rfl, ky9⟩
  obtain ⟨s10, rfl, p10, n10⟩ := nwx s3 w9 40 ky9
  refine dn (cd rfl (fun h11 => ?_) (fun h11 => ?_))
  ·
   refine sr (Xc rfl (Xc rfl (dn (sgi ?_))))
   exact re rfl func108 rfl (Xs rfl Xe) rfl ⟨_, rfl, rfl, z.ky (Kx2.st p10 rfl)⟩
  refine sk (ib (rg (Xc rfl (Xc rfl (dn ?_)))))
  exact lb ih2 ⟨s10, _, rfl, (ue (ue (ue (ue rfl rfl) rfl) rfl) rfl), (Kx2.st p10 rfl)⟩
 exact xt rfl (sgb (sr (Xc rfl (dn (re rfl func108 rfl (Xs rfl Xe) rfl ⟨_, rfl, rfl, z.ky Kx2⟩)))))
def slices_ContainsFunc_byte_byte.f (a0 : (List (List Int))) (a1 : ((List Int) → Option Bool)) : Option (Bool) :=
 ((slices_IndexFunc_byte_byte.f a0 a1).bind fun r2 => (some (decide (r2 ≥ (0 : Int)))))
def slices_ContainsFunc_byte_byte.Q (w : World) (F : Nat → Prop) (r : Bool) (v : Value) (w' : World) : Prop :=
 v = (.bool r) ∧ Ky [] w w'
theorem slices_ContainsFunc_byte_byte.calls (a0 : (List (List Int))) (a1 : ((List Int) → Option Bool)) (w : World) (F : Nat → Prop) (w0_0 : Value) (f1 : Value) (h0_0 : (Kd.sl 25 Yo).rd w [w0_0] a0 F) (hf1 : ∀ (x0 : (List Int)) (u0_0 : Value) (w' : World), Ky [] w w' → Yo.rd w' [u0_0] x0 (fun _ => True) → ∀ r, a1 x0 = some r → CallV prog f1 [u0_0] w' fun en w'' => ∃ v, en = .returned v ∧ v = (.bool r) ∧ Ky [] w' w'') (ho1 : f1.cells = #[f1]) (r : Bool) (m : slices_ContainsFunc_byte_byte.f a0 a1 = some r) :
  Calls prog 83 #[w0_0, f1] w (RT (slices_ContainsFunc_byte_byte.Q w F) r) := by
 obtain ⟨s0, rfl, kp0, z⟩ := Xk w F
 refine Xd (args := [w0_0, f1]) func83 ntmps83 rfl rfl m ?_
 unfold slices_ContainsFunc_byte_byte.f
 refine sr (Xc rfl (dn (sr (Xx w0_0 rfl (Xx f1 rfl (Ym 40 rfl func108 rfl (slices_IndexFunc_byte_byte.calls a0 a1 s0.w (mm [0] s0) w0_0 f1 (z.rd h0_0) (fun x0 u0_0 w' k h0 r m =>  hf1 x0 u0_0 w' (Ky.trans (z.ky kp0) k) h0 r m) ho1) (fun r2 s3 p3 n3 => ?_)))))))
 refine Xc rfl (Xc rfl (dn ?_))
 exact re rfl func83 rfl (Xs rfl Xe) rfl ⟨_, rfl, rfl, z.ky (kp0.st p3 rfl)⟩
def impl_areAll_byte.f (a0 : (List (List Int))) (a1 : ((List Int) → Option Bool)) : Option (Bool) :=
 ((slices_ContainsFunc_byte_byte.f a0 (fun x0 => impl_areAll_byte_1.f x0 a1)).bind fun r6 => (some (!r6)))
def impl_areAll_byte.Q (w : World) (F : Nat → Prop) (r : Bool) (v : Value) (w' : World) : Prop :=
 v = (.bool r) ∧ Ky [] w w'
theorem impl_areAll_byte.calls (a0 : (List (List Int))) (a1 : ((List Int) → Option Bool)) (w : World) (F : Nat → Prop) (w0_0 : Value) (f1 : Value) (h0_0 : (Kd.sl 25 Yo).rd w [w0_0] a0 F) (hf1 : ∀ (x0 : (List Int)) (u0_0 : Value) (w' : World), Ky [] w w' → Yo.rd w' [u0_0] x0 (fun _ => True) → ∀ r, a1 x0 = some r → CallV prog f1 [u0_0] w' fun en w'' => ∃ v, en = .returned v ∧ v = (.bool r) ∧ Ky [] w' w'') (ho1 : f1.cells = #[f1]) (r : Bool) (m : impl_areAll_byte.f a0 a1 = some r) :
  Calls prog 56 #[w0_0, f1] w (RT (impl_areAll_byte.Q w F) r) := by
 obtain ⟨s0, rfl, kp0, z⟩ := Xk w F
 refine Xd (args := [w0_0, f1]) func56 ntmps56 rfl rfl m ?_
 unfold impl_areAll_byte.f
 refine sr (bx' (cs := [f1]) 40 rfl ho1 (fun b2 s2 p2 B2 => ?_))
 refine Xc rfl (dn (sr (Xx w0_0 rfl (mkf (fs := []) (cs := [(pB b2)]) rfl rfl rfl rfl rfl rfl rfl ?_))))
 have K4 := kp0.st p2 rfl
 refine Ym 41 rfl func83 rfl (slices_ContainsFunc_byte_byte.calls a0 (fun x0 => impl_areAll_byte_1.f x0 a1) s2.w (mm [0] s2) w0_0 (.func (.func 84) (List.toArray []) (List.toArray [(pB b2)])) ((z.rd h0_0).kp K4) (fun x0 u0_0 w' k h0 r m =>  ⟨84, _, _, [], [(pB b2)], rfl, func84, rfl, rfl, (impl_areAll_byte_1.calls x0 a1 w' (fun _ => True) u0_0 b2 f1 h0 (fun x0c u0_0c w'c kc h0c r m =>  hf1 x0c u0_0c w'c (Ky.trans (z.ky K4) (Ky.trans k kc)) h0c r m) ho1 (B2.ky k) trivial r m).mono fun en w2 hq => by obtain ⟨v, e, q⟩ := hq; exact ⟨v, e, q⟩⟩) rfl) (fun r6 s7 p7 n7 => ?_)
 refine Xc rfl (Xc rfl (dn ?_))
 exact re rfl func56 rfl (Xs rfl Xe) rfl ⟨_, rfl, rfl, z.ky (K4.st p7 rfl)⟩
def impl_hasBytes.f (a0 : (List Int)) (a1 : Int) (a2 : Int) : Option (Bool) :=
 ((impl_within.f a1 (0 : Int) (a0.length : Int)).bind fun r2 => (some (r2 && (decide (a2 ≤ (IntKind.wrap .i64 ((a0.length : Int) - a1)))))))
def impl_hasBytes.Q (w : World) (F : Nat → Prop) (r : Bool) (v : Value) (w' : World) : Prop :=
 v = (.bool r) ∧ Ky [] w w'
theorem impl_hasBytes.calls (a0 : (List Int)) (a1 : Int) (a2 : Int) (w : World) (F : Nat → Prop) (w0_0 : Value) (h0_0 : Yo.rd w [w0_0] a0 F) (r : Bool) (m : impl_hasBytes.f a0 a1 a2 = some r) :
  Calls prog 92 #[w0_0, (iI a1), (iI a2)] w (RT (impl_hasBytes.Q w F) r) := by
 obtain ⟨s0, rfl, kp0, z⟩ := Xk w F
 have A0_0 := z.rd h0_0
 refine Xd (args := [w0_0, (iI a1), (iI a2)]) func92 ntmps92 rfl rfl m ?_
 unfold impl_hasBytes.f
 refine sr (Xc rfl (dn (sr (Xc rfl (Xx w0_0 rfl (Yl A0_0 u25 rfl (Ym 40 rfl func63 rfl (impl_within.calls a1 (0 : Int) (a0.length : Int) s0.w (mm [] s0)) (fun r2 s3 p3 n3 => ?_))))))))
 refine Xc rfl (jy [11, 12, 13, 14, 15, 16, 17, 18] [12] 18 (.bool (r2 && (decide (a2 ≤ (IntKind.wrap .i64 ((a0.length : Int) - a1)))))) rfl (fun Kg4 => ?_) (fun j4 => ?_))
 ·
  rcases Yn r2 with hb4 | hb4
  ·
   refine Xy hb4 (Xc rfl (Xx w0_0 rfl ?_))
   exact Yl (A0_0.kp (kp0.st p3 rfl)) u25 rfl (Xc rfl (Xc rfl (Xc rfl (Xc rfl (Kg4 _ (Ag.put ((Ag.put ((Ag.put ((Ag.put ((Ag.put ((Ag.put ((Ag.put (Ag.base rfl) rfl)) rfl)) rfl)) rfl)) rfl)) rfl)) rfl) (by rw [hb4]; rfl))))))
  exact Xy hb4 (Xj rfl (Xj rfl (Xj rfl (Xj rfl (Xj rfl (Xj rfl (Xc rfl (Kg4 _ (Ag.put ((Ag.put ((Ag.put ((Ag.put ((Ag.put ((Ag.put ((Ag.put (Ag.base rfl) rfl)) rfl)) rfl)) rfl)) rfl)) rfl)) rfl) (by rw [hb4]; rfl)))))))))
 refine Xc rfl (dn ?_)
 exact re rfl func92 rfl (Xs rfl Xe) rfl ⟨_, rfl, rfl, z.ky (kp0.st p3 rfl)⟩
def impl_GetNum.b0 (a0 : (List Int)) (a1 : Int) (x13 : Int × Int) : Option ((Int × Int) ⊕ (Int × Bool)) :=
 (if (decide (x13.2 ≥ (0 : Int))) = true then (if 0 ≤ (IntKind.wrap .i64 (a1 + x13.2)) ∧ (IntKind.wrap .i64 (a1 + x13.2)) < (a0.length : Int) then (some (Sum.inl ((ior .u64 (ishl .u64 x13.1 (8 : Int)) (IntKind.wrap .u64 (at_ a0 (IntKind.wrap .i64 (a1 + x13.2))))), (IntKind.wrap .i64 (x13.2 - (1 : Int)))))) else none) else ((if (decide (x13.1 ≥ (9223372036854775808 : Int))) = true then (some ((0 : Int), false)) else (some ((IntKind.wrap .i64 x13.1), true))).bind fun o => some (Sum.inr o)))
def impl_GetNum.f (a0 : (List Int)) (a1 : Int) (a2 : Int) : Option (Int × Bool) :=
 ((impl_within.f a2 (1 : Int) (8 : Int)).bind fun r2 => ((if (!r2) = true then (some true) else ((impl_hasBytes.f a0 a1 a2).bind fun r8 => (some (!r8)))).bind fun y4 => (if y4 = true then (some ((0 : Int), false)) else (iter (impl_GetNum.b0 a0 a1) ((0 : Int), (IntKind.wrap .i64 (a2 - (1 : Int))))))))
def impl_GetNum.Q (w : World) (F : Nat → Prop) (r : Int × Bool) (v : Value) (w' : World) : Prop :=
 v = .tuple #[(iI r.1), (.bool r.2)] ∧ Ky [] w w'
theorem impl_GetNum.calls (a0 : (List Int)) (a1 : Int) (a2 : Int) (w : World) (F : Nat → Prop) (w0_0 : Value) (h0_0 : Yo.rd w [w0_0] a0 F) (r : Int × Bool) (m : impl_GetNum.f a0 a1 a2 = some r) :
  Calls prog 85 #[w0_0, (iI a1), (iI a2)] w (RT (impl_GetNum.Q w F) r) := by
 obtain ⟨s0, rfl, kp0, z⟩ := Xk w F
 have A0_0 := z.rd h0_0
 refine Xd (args := [w0_0, (iI a1), (iI a2)]) func85 ntmps85 rfl rfl m ?_
 unfold impl_GetNum.f
 refine sr (Xc rfl (Xc rfl (dn (sq (sr (Xc rfl (Ym 40 rfl func63 rfl (impl_within.calls a2 (1 : Int) (8 : Int) s0.w (mm [] s0)) (fun r2 s3 p3 n3 => ?_))))))))
 refine Xc rfl (Xc rfl (ji [] (fun (y4 : Bool) e w => ∃ (s : St) (e0 : Env), w = s.w ∧ e = upd (upd (upd (upd e0 0 w0_0) 1 (iI a1)) 2 (iI a2)) 19 (.bool y4) ∧ Kp s0 s) (fun Gj4 Kj4 => ?_) ?_))
 ·
  rcases Yn (!r2) with hb4 | hb4
  ·
   refine Xy hb4 ?_
   rw [if_pos hb4]
   refine Xj rfl (Xj rfl (Xj rfl (Xj rfl (Xj rfl (Xc rfl ?_)))))
   exact Kj4 _ _ _ ⟨s3, _, rfl, (ue (ue (ue (ue rfl rfl) rfl) rfl) rfl), (kp0.st p3 rfl)⟩
  refine Xy hb4 ?_
  rw [if_neg (by rw [hb4]; decide)]
  refine Xx w0_0 rfl (Xc rfl (Xc rfl ?_))
  have K6 := kp0.st p3 rfl
  refine Ym 41 rfl func92 rfl (impl_hasBytes.calls a0 a1 a2 s3.w (mm [0] s3) w0_0 (A0_0.kp K6)) (fun r8 s9 p9 n9 => ?_)
  refine Xc rfl (Xc rfl ?_)
  exact Kj4 _ _ _ ⟨s9, _, rfl, (ue (ue (ue (ue rfl rfl) rfl) rfl) rfl), (K6.st p9 rfl)⟩
 rintro y4 _ _ ⟨s11, _, rfl, rfl, Ky4⟩
 refine dn (cd rfl (fun h12 => ?_) (fun h12 => ?_))
 ·
  exact sr (Xc rfl (Xc rfl (dn (re rfl func85 rfl (Xs rfl (Xs rfl Xe)) rfl ⟨_, rfl, rfl, z.ky Ky4⟩))))
 refine sk (sr (Xc rfl (dn (sq (sr (Xc rfl (Xc rfl (Xc rfl (dn (bl (lpI (fun (x13 : Int × Int) e w => ∃ (s : St) (e0 : Env), w = s.w ∧ e = upd (upd (upd (upd e0 0 w0_0) 1 (iI a1)) 8 (.int .u64 x13.1)) 9 (iI x13.2) ∧ Kp s0 s) ⟨s11, _, rfl, (ue (ue (ue (ue rfl rfl) rfl) rfl) rfl), Ky4⟩ (fun g13 ih13 => ?_))))))))))))
 rintro x13 _ _ ⟨s14, _, rfl, rfl, Kx13⟩
 unfold impl_GetNum.b0
 refine sq (sr (Xc rfl (Xc rfl (dn (cd rfl (fun h15 => ?_) (fun h15 => ?_))))))
 ·
  refine sk (sq (bl (rg (Xc rfl (shlK rfl rfl rfl rfl rfl rfl rfl rfl (Xx w0_0 rfl (Xc rfl (Xc rfl (Xc rfl ?_)))))))))
  refine ix' (A0_0.kp Kx13) u25 z5 rfl (fun ad17 es17 h0_17 h1_17 he17 ce17 ia17 => ?_)
  obtain rfl := he17
  exact lc0' ce17 u5 rfl (cv' u111 u5 rfl (Xc rfl (Xc rfl (dn (ib (rg (Xc rfl (Xc rfl (Xc rfl (dn (lb ih13 ⟨s14, _, rfl, (ue (ue (ue (ue rfl rfl) rfl) rfl) rfl), Kx13⟩)))))))))))
 refine xt rfl (sgb (sq (sr (Xc rfl (Xc rfl (dn (cd rfl (fun h19 => ?_) (fun h19 => ?_))))))))
 ·
  exact sr (Xc rfl (Xc rfl (dn (re rfl func85 rfl (Xs rfl (Xs rfl Xe)) rfl ⟨_, rfl, rfl, z.ky Kx13⟩))))
 exact sk (sr (Xc rfl (cv' u3 u111 rfl (Xc rfl (Xc rfl (dn (re rfl func85 rfl (Xs rfl (Xs rfl Xe)) rfl ⟨_, rfl, rfl, z.ky Kx13⟩)))))))
def slices_Clone_byte_byte.f (a0 : (List Int)) : Option ((List Int)) :=
 (if ([] : (List Int)).length + a0.length ≤ Lim then (some (([] : (List Int)) ++ a0)) else none)
def slices_Clone_byte_byte.Q (w : World) (F : Nat → Prop) (r : (List Int)) (v : Value) (w' : World) : Prop :=
 FO Yo w w' [v] r ∧ Ky [] w w'
theorem slices_Clone_byte_byte.calls (a0 : (List Int)) (w : World) (F : Nat → Prop) (w0_0 : Value) (h0_0 : Yo.rd w [w0_0] a0 F) (r : (List Int)) (m : slices_Clone_byte_byte.f a0 = some r) :
  Calls prog 64 #[w0_0] w (RT (slices_Clone_byte_byte.Q w F) r) := by
 obtain ⟨s0, rfl, kp0, z⟩ := Xk w F
 have A0_0 := z.rd h0_0
 refine Xd (args := [w0_0]) func64 ntmps64 rfl rfl m ?_
 unfold slices_Clone_byte_byte.f
 refine sr (Xc rfl (dn (sq (sr (Xx w0_0 rfl (nq A0_0 u25 rfl rfl rfl rfl rfl rfl rfl (fun nb2 hn2 => ?_)))))))
 refine dn (cdb rfl (fun h3 => ?_) (fun h3 => ?_))
 ·
  obtain rfl := hn2 h3
  exact mg fun _ => (sr (Xc rfl (dn (re rfl func64 rfl (Xs rfl Xe) rfl ⟨_, rfl, (Yk 5 (Kd.int .u8) s0 40).fo kp0 rfl z.l, z.ky kp0⟩))))
 refine sk (sr (lt0 (K := (Kd.int .u8)) 40 u25 z5 rfl rfl rfl rfl rfl (fun v4 s4 p4 A4 => ?_)))
 refine Xx w0_0 rfl ?_
 have K6 := kp0.st p4 rfl
 refine apF' Xv sl25 A4 (A0_0.kp K6) rfl (fun v8 s8 p8 A8 => ?_)
 refine Yd v8 rfl (dn ?_)
 have K10 := K6.st p8 rfl
 exact re rfl func64 rfl (Xs rfl Xe) rfl ⟨_, rfl, A8.fo K10 rfl z.l, z.ky K10⟩
def impl_fromHigh.b0 (a0 : (List Int)) (x2 : Int × Int) : Option ((Int × Int) ⊕ Int) :=
 (if (decide (x2.2 < (a0.length : Int))) = true then (if 0 ≤ x2.2 ∧ x2.2 < (a0.length : Int) then (some (Sum.inl ((ior .u64 (ishl .u64 x2.1 (8 : Int)) (IntKind.wrap .u64 (at_ a0 x2.2))), (IntKind.wrap .i64 (x2.2 + (1 : Int)))))) else none) else ((some x2.1).bind fun o => some (Sum.inr o)))
def impl_fromHigh.f (a0 : (List Int)) : Option (Int) :=
 (iter (impl_fromHigh.b0 a0) ((0 : Int), (0 : Int)))
def impl_fromHigh.Q (w : World) (F : Nat → Prop) (r : Int) (v : Value) (w' : World) : Prop :=
 v = (.int .u64 r) ∧ Ky [] w w'
theorem impl_fromHigh.calls (a0 : (List Int)) (w : World) (F : Nat → Prop) (w0_0 : Value) (h0_0 : Yo.rd w [w0_0] a0 F) (r : Int) (m : impl_fromHigh.f a0 = some r) :
  Calls prog 122 #[w0_0] w (RT (impl_fromHigh.Q w F) r) := by
 obtain ⟨s0, rfl, kp0, z⟩ := Xk w F
 have A0_0 := z.rd h0_0
 refine Xd (args := [w0_0]) func122 ntmps122 rfl rfl m ?_
 unfold impl_fromHigh.f
 refine sr (Xc rfl (dn (sr (Xc rfl (dn (sq (sr (Xx w0_0 rfl (Yl A0_0 u25 rfl (Xc rfl (dn (bl (lpI (fun (x2 : Int × Int) e w => ∃ (s : St) (e0 : Env), w = s.w ∧ e = upd (upd (upd (upd e0 3 (.int .u64 x2.1)) 6 w0_0) 7 (iI (a0.length : Int))) 8 (iI x2.2) ∧ Kp s0 s) ⟨s0, _, rfl, (ue (ue (ue (ue rfl rfl) rfl) rfl) rfl), kp0⟩ (fun g2 ih2 => ?_))))))))))))))
 rintro x2 _ _ ⟨s3, _, rfl, rfl, Kx2⟩
 unfold impl_fromHigh.b0
 refine sr (Xc rfl (dn (sq (cd rfl (fun h4 => ?_) (fun h4 => ?_)))))
 ·
  refine sk (sq (bl (sr ?_)))
  refine ix' (A0_0.kp Kx2) u25 z5 rfl (fun ad6 es6 h0_6 h1_6 he6 ce6 ia6 => ?_)
  obtain rfl := he6
  refine lc0' ce6 u5 rfl (Xc rfl (dn (rg (Xc rfl (shlK rfl rfl rfl rfl rfl rfl rfl rfl (Xc rfl (cv' u111 u5 rfl (Xc rfl (Xc rfl (dn (ib (rg (Xc rfl (Xc rfl ?_))))))))))))))
  exact dn (lb ih2 ⟨s3, _, rfl, (ue (ue (ue (ue rfl rfl) rfl) rfl) rfl), Kx2⟩)
 exact xt rfl (sgb (sr (Xc rfl (Xc rfl (dn (re rfl func122 rfl (Xs rfl Xe) rfl ⟨_, rfl, rfl, z.ky Kx2⟩))))))
def impl_readItem.f (a0 : (List Int)) (a1 : (Int → Option Nat)) : Option (Item) :=
 (if ((a0.length : Int) == (0 : Int)) = true then (some (Item.mk (0 : Int) (0 : Int) (0 : Nat) ([] : (List Int)))) else (if 0 ≤ (0 : Int) ∧ (0 : Int) < (a0.length : Int) then (if 0 ≤ (1 : Int) ∧ (1 : Int) ≤ (a0.length : Int) then ((if ((IntKind.wrap .i64 (at_ a0 (0 : Int))) == (3 : Int)) = true then ((slices_Clone_byte_byte.f (a0.drop ((1 : Int)).toNat)).bind fun r24 => (some (Sum.inl ((0 : Int), (0 : Nat), r24)))) else (if (((a0.drop ((1 : Int)).toNat).length : Int) != (8 : Int)) = true then (some (Sum.inr (Item.mk (0 : Int) (0 : Int) (0 : Nat) ([] : (List Int))))) else ((if ((IntKind.wrap .i64 (at_ a0 (0 : Int))) == (1 : Int)) = true then ((impl_fromHigh.f (a0.drop ((1 : Int)).toNat)).bind fun r42 => (some ((IntKind.wrap .i64 (IntKind.wrap .u64 (r42 - (9223372036854775808 : Int)))), (0 : Nat)))) else ((if ((IntKind.wrap .i64 (at_ a0 (0 : Int))) == (2 : Int)) = true then ((impl_fromHigh.f (a0.drop ((1 : Int)).toNat)).bind fun r51 => ((a1 r51).bind fun r54 => (some r54))) else (some (0 : Nat))).bind fun y49 => (some ((0 : Int), y49)))).bind fun y40 => (some (Sum.inl (y40.1, y40.2, ([] : (List Int)))))))).bind (sel fun y22 => (some (Item.mk (IntKind.wrap .i64 (at_ a0 (0 : Int))) y22.1 y22.2.1 y22.2.2)))) else none) else none))
def impl_readItem.Q (w : World) (F : Nat → Prop) (r : Item) (v : Value) (w' : World) : Prop :=
 ∃ (v0 : Value) (v1 : Value), v = (.agg #[(iI r.Kind), (iI r.N), v0, v1]) ∧ FO kd77 w w' [(iI r.Kind), (iI r.N), v0, v1] r ∧ Ky [] w w'
theorem impl_readItem.calls (a0 : (List Int)) (a1 : (Int → Option Nat)) (w : World) (F : Nat → Prop) (w0_0 : Value) (f1 : Value) (h0_0 : Yo.rd w [w0_0] a0 F) (hf1 : ∀ (x0 : Int) (w' : World), Ky [] w w' → ∀ r, a1 x0 = some r → CallV prog f1 [(.int .u64 x0)] w' fun en w'' => ∃ v, en = .returned v ∧ FL v r ∧ Ky [] w' w'') (ho1 : f1.cells = #[f1]) (r : Item) (m : impl_readItem.f a0 a1 = some r) :
  Calls prog 109 #[w0_0, f1] w (RT (impl_readItem.Q w F) r) := by
 obtain ⟨s0, rfl, kp0, z⟩ := Xk w F
 have A0_0 := z.rd h0_0
 refine Xd (args := [w0_0, f1]) func109 ntmps109 rfl rfl m ?_
 unfold impl_readItem.f
 refine sr (al' (cs := [(iI 0), (iI 0), (.float .f64 0), (.slice none 0 0)]) 40 rfl o77 rfl (fun b2 s2 p2 B2 => ?_))
 refine dn (sq (sr (Xx w0_0 rfl ?_)))
 have K4 := kp0.st p2 rfl
 have A5 := A0_0.kp K4
 refine Yl A5 u25 rfl (Xc rfl (dn (cd rfl (fun h6 => ?_) (fun h6 => ?_))))
 ·
  refine sr (bd' (cells := [(iI 0), (iI 0), (.float .f64 0), (.slice none 0 0)]) pl77 o77 rfl rfl (Xu (vs := [(iI 0), (iI 0), (.float .f64 0), (.slice none 0 0)]) B2 z77 rfl (Xb rfl (Xb rfl (Xb (FL.one (Yh rfl)) (Xb rfl Xi)))) rfl (fun s7 p7 B7 => ?_)))
  refine dn ?_
  have A9 : OwF kd77 s7 [(iI 0), (iI 0), (.float .f64 0), (.slice none 0 0)] (Item.mk (0 : Int) (0 : Int) (0 : Nat) ([] : (List Int))) 41 := ow_z _ _ (Xz (fun x : Item => (x.Kind, x.N, x.F, x.T)) (Item.mk (0 : Int) (0 : Int) (0 : Nat) ([] : (List Int))) (Xh (Xf .i64 (0 : Int)) (Xh (Xf .i64 (0 : Int)) (Xh (Yj (Yh rfl)) (Ya 5 (Kd.int .u8))))))
  have K11 := K4.st p7 rfl
  exact re rfl func109 rfl (r_b B7 u77 rfl z77 rfl Xe) rfl ⟨_, rfl, (.float .f64 0), (.slice none 0 0), rfl, A9.fo K11 rfl z.l, z.ky K11⟩
 refine sk (sr (Xx w0_0 rfl (ix' A5 u25 z5 rfl (fun ad12 es12 h0_12 h1_12 he12 ce12 ia12 => ?_))))
 obtain rfl := he12
 refine lc0' ce12 u5 rfl (cv' u3 u5 rfl (bd' (cells := [(iI (IntKind.wrap .i64 (at_ a0 (0 : Int)))), (iI 0), (.float .f64 0), (.slice none 0 0)]) pl77 o77 rfl rfl (al' (cs := [(iI 0), (iI 0), (.float .f64 0), (.slice none 0 0)]) 42 rfl o77 rfl (fun b14 s14 p14 B14 => ?_))))
 refine Xu (vs := [(iI (IntKind.wrap .i64 (at_ a0 (0 : Int)))), (iI 0), (.float .f64 0), (.slice none 0 0)]) B14 z77 rfl (Xb rfl (Xb rfl (Xb (FL.one (Yh rfl)) (Xb rfl Xi)))) rfl (fun s16 p16 B16 => ?_)
 refine dn (sr (Xx w0_0 rfl ?_))
 have K18 := K4.st (Xq p14 p16) rfl
 refine sla (A0_0.kp K18) u25 z5 rfl rfl rfl rfl rfl rfl rfl (fun v20 A20 => ?_)
 refine Yd v20 rfl (dn (sq (bl (sr (Xt fa77_0 rfl (Yb B16 u3 rfl (Xc rfl (Xc rfl (dn (jr (fun (y22 : Int × Nat × (List Int)) e w => ∃ (s : St) (e0 : Env) (vy22_0 uy22_0 : Value), w = s.w ∧ e = upd (upd e0 4 (pB b2)) 5 (pB b14) ∧ Kp s0 s ∧ OwF Yo s [vy22_0] y22.2.2 43 ∧ FL uy22_0 y22.2.1 ∧ BlF s b14 77 [(iI (IntKind.wrap .i64 (at_ a0 (0 : Int)))), (iI y22.1), uy22_0, vy22_0] 42 ∧ BlF s b2 77 [(iI 0), (iI 0), (.float .f64 0), (.slice none 0 0)] 40) (fun Gj22 Kj22 hG22 => ?_) ?_))))))))))
 ·
  refine cd rfl (fun h23 => ?_) (fun h23 => ?_)
  ·
   refine rg (Xx v20 rfl (clO 43 rfl func64 rfl (slices_Clone_byte_byte.calls (a0.drop ((1 : Int)).toNat) s16.w (mm [0] s16) v20 A20) (fun r24 v24_0 s25 p25 A24_0 => ?_)))
   refine Xt fa77_3 rfl (sv' (B16.st p25 rfl) z25 rfl A24_0.rd.one rfl (fun s28 p28 B28 => ?_))
   exact dn (Kj22 _ _ _ ⟨s28, _, v24_0, (.float .f64 0), rfl, (ue (ue rfl rfl) rfl), (K18.st (Xq p25 p28) rfl), (A24_0.st p28 rfl), (Yh rfl), B28, (B2.st (tr4 p14 p16 p25 p28) rfl)⟩)
  refine sr (Xx v20 rfl (Yl A20 u25 rfl (Xc rfl (Xc rfl (dn (cd rfl (fun h33 => ?_) (fun h33 => ?_)))))))
  ·
   refine sr (bd' (cells := [(iI 0), (iI 0), (.float .f64 0), (.slice none 0 0)]) pl77 o77 rfl rfl ?_)
   refine Xu (vs := [(iI 0), (iI 0), (.float .f64 0), (.slice none 0 0)]) (B2.st (Xq p14 p16) rfl) z77 rfl (Xb rfl (Xb rfl (Xb (FL.one (Yh rfl)) (Xb rfl Xi)))) rfl (fun s35 p35 B35 => ?_)
   refine dn (jri hG22 ?_)
   have A37 : OwF kd77 s35 [(iI 0), (iI 0), (.float .f64 0), (.slice none 0 0)] (Item.mk (0 : Int) (0 : Int) (0 : Nat) ([] : (List Int))) 44 := ow_z _ _ (Xz (fun x : Item => (x.Kind, x.N, x.F, x.T)) (Item.mk (0 : Int) (0 : Int) (0 : Nat) ([] : (List Int))) (Xh (Xf .i64 (0 : Int)) (Xh (Xf .i64 (0 : Int)) (Xh (Yj (Yh rfl)) (Ya 5 (Kd.int .u8))))))
   have K39 := K18.st p35 rfl
   exact re rfl func109 rfl (r_b B35 u77 rfl z77 rfl Xe) rfl ⟨_, rfl, (.float .f64 0), (.slice none 0 0), rfl, A37.fo K39 rfl z.l, z.ky K39⟩
  refine sr (Xt fa77_0 rfl (Yb B16 u3 rfl (Xc rfl (Xc rfl (dn (jc (fun (y40 : Int × Nat) e w => ∃ (s : St) (e0 : Env) (uy40_0 : Value), w = s.w ∧ e = upd (upd e0 4 (pB b2)) 5 (pB b14) ∧ Kp s0 s ∧ FL uy40_0 y40.2 ∧ BlF s b14 77 [(iI (IntKind.wrap .i64 (at_ a0 (0 : Int)))), (iI y40.1), uy40_0, (.slice none 0 0)] 42 ∧ BlF s b2 77 [(iI 0), (iI 0), (.float .f64 0), (.slice none 0 0)] 40) (fun Gj40 Kj40 => ?_) ?_))))))
  ·
   refine cd rfl (fun h41 => ?_) (fun h41 => ?_)
   ·
    refine rg (Xx v20 rfl (Ym 45 rfl func122 rfl (impl_fromHigh.calls (a0.drop ((1 : Int)).toNat) s16.w (mm [0] s16) v20 A20) (fun r42 s43 p43 n43 => ?_)))
    refine Xc rfl (cv' u3 u111 rfl (Xt fa77_1 rfl ?_))
    refine sv' (B16.st p43 rfl) z3 rfl rfl rfl (fun s45 p45 B45 => ?_)
    exact dn (Kj40 _ _ _ ⟨s45, _, (.float .f64 0), rfl, (ue (ue rfl rfl) rfl), (K18.st (Xq p43 p45) rfl), (Yh rfl), B45, (B2.st (tr4 p14 p16 p43 p45) rfl)⟩)
   refine sr (Xt fa77_0 rfl (Yb B16 u3 rfl (Xc rfl (Xc rfl (dn (jc (fun (y49 : Nat) e w => ∃ (s : St) (e0 : Env) (uy49_0 : Value), w = s.w ∧ e = upd (upd e0 4 (pB b2)) 5 (pB b14) ∧ Kp s0 s ∧ FL uy49_0 y49 ∧ BlF s b14 77 [(iI (IntKind.wrap .i64 (at_ a0 (0 : Int)))), (iI 0), uy49_0, (.slice none 0 0)] 42 ∧ BlF s b2 77 [(iI 0), (iI 0), (.float .f64 0), (.slice none 0 0)] 40) (fun Gj49 Kj49 => ?_) ?_))))))
   ·
    refine cd rfl (fun h50 => ?_) (fun h50 => ?_)
    ·
     refine rg (Xx f1 rfl (Xx v20 rfl (Ym 46 rfl func122 rfl (impl_fromHigh.calls (a0.drop ((1 : Int)).toNat) s16.w (mm [0] s16) v20 A20) (fun r51 s52 p52 n52 => ?_))))
     have K53 := K18.st p52 rfl
     refine clv rfl rfl rfl rfl rfl rfl rfl (fun r54 m54 => hf1 r51 s52.w (z.ky K53)  r54 m54) ?_
     rintro r54 v54_0 w54 m54 ⟨f54_0, ky54⟩
     obtain ⟨s55, rfl, p55, n55⟩ := nwx s52 w54 47 ky54
     refine Xt fa77_2 rfl (sv' (B16.st (Xq p52 p55) rfl) z75 rfl (FL.one f54_0) rfl (fun s57 p57 B57 => ?_))
     exact dn (Kj49 _ _ _ ⟨s57, _, v54_0, rfl, (ue (ue rfl rfl) rfl), (K53.st (Xq p55 p57) rfl), f54_0, B57, (B2.st (tr5 p14 p16 p52 p55 p57) rfl)⟩)
    exact sk (Kj49 _ _ _ ⟨s16, _, (.float .f64 0), rfl, (ue (ue rfl rfl) rfl), K18, (Yh rfl), B16, (B2.st (Xq p14 p16) rfl)⟩)
   rintro y49 _ _ ⟨s62, _, uy49_0, rfl, rfl, Ky49, Fy49_0, By49_b14, By49_b2⟩
   exact Kj40 _ _ _ ⟨s62, _, uy49_0, rfl, (ue (ue rfl rfl) rfl), Ky49, Fy49_0, By49_b14, By49_b2⟩
  rintro y40 _ _ ⟨s65, _, uy40_0, rfl, rfl, Ky40, Fy40_0, By40_b14, By40_b2⟩
  exact Kj22 _ _ _ ⟨s65, _, (.slice none 0 0), uy40_0, rfl, (ue (ue rfl rfl) rfl), Ky40, (Yk 5 (Kd.int .u8) _ 43), Fy40_0, By40_b14, By40_b2⟩
 rintro y22 _ _ ⟨s68, _, vy22_0, uy22_0, rfl, rfl, Ky22, Ay22_0, Fy22_0, By22_b14, By22_b2⟩
 refine ib (sr (Xw (es := [(iI (IntKind.wrap .i64 (at_ a0 (0 : Int)))), (iI y22.1), uy22_0, vy22_0]) By22_b14 u77 z77 rfl (Xu (vs := [(iI (IntKind.wrap .i64 (at_ a0 (0 : Int)))), (iI y22.1), uy22_0, vy22_0]) By22_b2 z77 rfl (Xb rfl (Xb rfl (Xb (FL.one Fy22_0) (Xb Ay22_0.rd.one Xi)))) rfl (fun s72 p72 B72 => ?_))))
 refine dn ?_
 have A74 : OwF kd77 s72 [(iI (IntKind.wrap .i64 (at_ a0 (0 : Int)))), (iI y22.1), uy22_0, vy22_0] (Item.mk (IntKind.wrap .i64 (at_ a0 (0 : Int))) y22.1 y22.2.1 y22.2.2) 43 := (Xo (fun x : Item => (x.Kind, x.N, x.F, x.T)) (Item.mk (IntKind.wrap .i64 (at_ a0 (0 : Int))) y22.1 y22.2.1 y22.2.2) (Yg (Xf .i64 (IntKind.wrap .i64 (at_ a0 (0 : Int)))) (Yg (Xf .i64 y22.1) (Yg (Yj Fy22_0) (Ay22_0.st p72 rfl)))))
 have K77 := Ky22.st p72 rfl
 exact re rfl func109 rfl (r_b B72 u77 rfl z77 rfl Xe) rfl ⟨_, rfl, uy22_0, vy22_0, rfl, A74.fo K77 rfl z.l, z.ky K77⟩
def math_NaN.f  : Option (Nat) :=
 (some (cn ((9221120237041090561 : Int)).toNat))
def math_NaN.Q (w : World) (F : Nat → Prop) (r : Nat) (v : Value) (w' : World) : Prop :=
 FL v r ∧ Ky [] w w'
theorem math_NaN.calls  (w : World) (F : Nat → Prop)   (r : Nat) (m : math_NaN.f  = some r) :
  Calls prog 124 #[] w (RT (math_NaN.Q w F) r) := by
 obtain ⟨s0, rfl, kp0, z⟩ := Xk w F
 refine Xd (args := []) func124 ntmps124 rfl rfl m ?_
 unfold math_NaN.f
 refine sr (Yd (.float .f64 0) rfl (dn (sr (ffb rfl rfl rfl rfl rfl func123 rfl rfl xn123 xf123 rfl (fun v1 A1 => ?_)))))
 exact Yd v1 rfl (dn (re rfl func124 rfl (Xs rfl Xe) rfl ⟨_, rfl, A1, z.ky kp0⟩))
def impl_FloatRank.f (a0 : Nat) : Option (Int) :=
 (if (fcmp .f64 a0 a0 != some .eq) = true then (some (18446744073709551615 : Int)) else (if (fcmp .f64 a0 (0 : Nat) == some .eq) = true then (some (9223372036854775808 : Int)) else (if (fcmp .f64 a0 (0 : Nat) == some .gt) = true then (if isN a0 = false then (some (ior .u64 (a0 : Int) (9223372036854775808 : Int))) else none) else (if isN a0 = false then (some (ixor .u64 (IntKind.max .u64) (a0 : Int))) else none))))
def impl_FloatRank.Q (w : World) (F : Nat → Prop) (r : Int) (v : Value) (w' : World) : Prop :=
 v = (.int .u64 r) ∧ Ky [] w w'
theorem impl_FloatRank.calls (a0 : Nat) (w : World) (F : Nat → Prop) (w0_0 : Value) (h0_0 : Kd.flt.rd w [w0_0] a0 F) (r : Int) (m : impl_FloatRank.f a0 = some r) :
  Calls prog 125 #[w0_0] w (RT (impl_FloatRank.Q w F) r) := by
 obtain ⟨s0, rfl, kp0, z⟩ := Xk w F
 have A0_0 := fl_of h0_0
 refine Xd (args := [w0_0]) func125 ntmps125 rfl rfl m ?_
 unfold impl_FloatRank.f
 refine sr (Xc rfl (dn (sq (bl (sr (Xx w0_0 rfl (Xx w0_0 rfl (fq_ A0_0 A0_0 rfl rfl rfl rfl rfl rfl rfl rfl (Xc rfl (dn (cd rfl (fun h1 => ?_) (fun h1 => ?_))))))))))))
 ·
  exact sr (Xc rfl (dn (re rfl func125 rfl (Xs rfl Xe) rfl ⟨_, rfl, rfl, z.ky kp0⟩)))
 refine sr (Xx w0_0 rfl (fq_ A0_0 (Yh rfl) rfl rfl rfl rfl rfl rfl rfl rfl (Xc rfl (dn (cd rfl (fun h2 => ?_) (fun h2 => ?_))))))
 ·
  exact sr (Xc rfl (dn (re rfl func125 rfl (Xs rfl Xe) rfl ⟨_, rfl, rfl, z.ky kp0⟩)))
 refine sr (Xx w0_0 rfl (fq_ A0_0 (Yh rfl) rfl rfl rfl rfl rfl rfl rfl rfl (Xc rfl (dn (cd rfl (fun h3 => ?_) (fun h3 => ?_))))))
 ·
  exact sr (Xx w0_0 rfl (fb_ A0_0 rfl rfl rfl rfl rfl func126 rfl rfl xn126 xf126 rfl (Xc rfl (Xc rfl (dn (re rfl func125 rfl (Xs rfl Xe) rfl ⟨_, rfl, rfl, z.ky kp0⟩))))))
 exact sk (ib (sr (Xx w0_0 rfl (fb_ A0_0 rfl rfl rfl rfl rfl func126 rfl rfl xn126 xf126 rfl (Xc rfl (Xc rfl (dn (re rfl func125 rfl (Xs rfl Xe) rfl ⟨_, rfl, rfl, z.ky kp0⟩))))))))
def impl_FloatUnrank.f (a0 : Int) : Option (Nat × Bool) :=
 ((if (decide (a0 < (9223372036854775808 : Int))) = true then (some (ixor .u64 (IntKind.max .u64) a0)) else (some (iandn .u64 a0 (9223372036854775808 : Int)))).bind fun y1 => (if (a0 == (18446744073709551615 : Int)) = true then ((math_NaN.f).bind fun r6 => (some (r6, true))) else ((if (fcmp .f64 (cn (y1).toNat) (cn (y1).toNat) != some .eq) = true then (some true) else ((impl_FloatRank.f (cn (y1).toNat)).bind fun r10 => (some (r10 != a0)))).bind fun y9 => (if y9 = true then (some ((0 : Nat), false)) else (some ((cn (y1).toNat), true))))))
def impl_FloatUnrank.Q (w : World) (F : Nat → Prop) (r : Nat × Bool) (v : Value) (w' : World) : Prop :=
 ∃ (v0 : Value), v = .tuple #[v0, (.bool r.2)] ∧ FL v0 r.1 ∧ Ky [] w w'
theorem impl_FloatUnrank.calls (a0 : Int) (w : World) (F : Nat → Prop)   (r : Nat × Bool) (m : impl_FloatUnrank.f a0 = some r) :
  Calls prog 111 #[(.int .u64 a0)] w (RT (impl_FloatUnrank.Q w F) r) := by
 obtain ⟨s0, rfl, kp0, z⟩ := Xk w F
 refine Xd (args := [(.int .u64 a0)]) func111 ntmps111 rfl rfl m ?_
 unfold impl_FloatUnrank.f
 refine sr (Yd (.float .f64 0) rfl (Xc rfl (dn (sr (Xc rfl (Xc rfl (Xc rfl (dn (sq (sr (Xc rfl (Xc rfl (dn (jc (fun (y1 : Int) e w => ∃ (s : St) (e0 : Env), w = s.w ∧ e = upd (upd e0 0 (.int .u64 a0)) 4 (.int .u64 y1) ∧ Kp s0 s) (fun Gj1 Kj1 => ?_) ?_))))))))))))))
 ·
  refine cd rfl (fun h2 => ?_) (fun h2 => ?_)
  ·
   exact rg (Xc rfl (Xc rfl (Xc rfl (dn (Kj1 _ _ _ ⟨s0, _, rfl, (ue (ue rfl rfl) rfl), kp0⟩)))))
  exact sk (Kj1 _ _ _ ⟨s0, _, rfl, (ue (ue rfl rfl) rfl), kp0⟩)
 rintro y1 _ _ ⟨s3, _, rfl, rfl, Ky1⟩
 refine sr (Xc rfl (ffb rfl rfl rfl rfl rfl func123 rfl rfl xn123 xf123 rfl (fun v4 A4 => ?_)))
 refine Yd v4 rfl (dn (sq (bl (sr (Xc rfl (Xc rfl (Xc rfl (dn (cd rfl (fun h5 => ?_) (fun h5 => ?_))))))))))
 ·
  refine sr (cl' rfl func124 rfl (math_NaN.calls  s3.w (mm [] s3)) ?_)
  rintro r6 v6_0 w6 m6 ⟨f6_0, ky6⟩
  obtain ⟨s7, rfl, p7, n7⟩ := nwx s3 w6 40 ky6
  refine Yd v6_0 rfl (Xc rfl (dn ?_))
  exact re rfl func111 rfl (Xs rfl (Xs rfl Xe)) rfl ⟨_, rfl, v6_0, rfl, f6_0, z.ky (Ky1.st p7 rfl)⟩
 refine sr (Xx v4 rfl (Xx v4 rfl (fq_ A4 A4 rfl rfl rfl rfl rfl rfl rfl rfl (Xc rfl (ji [9] (fun (y9 : Bool) e w => ∃ (s : St) (e0 : Env), w = s.w ∧ e = upd (upd e0 5 v4) 27 (.bool y9) ∧ Kp s0 s) (fun Gj9 Kj9 => ?_) ?_)))))
 ·
  rcases Yn (fcmp .f64 (cn (y1).toNat) (cn (y1).toNat) != some .eq) with hb9 | hb9
  ·
   refine Xy hb9 ?_
   rw [if_pos hb9]
   exact Xj rfl (Xj rfl (Xj rfl (Xj rfl (Xc rfl (Kj9 _ _ _ ⟨s3, _, rfl, (ue (ue rfl rfl) rfl), Ky1⟩)))))
  refine Xy hb9 ?_
  rw [if_neg (by rw [hb9]; decide)]
  refine Xx v4 rfl (Ym 41 rfl func125 rfl (impl_FloatRank.calls (cn (y1).toNat) s3.w (mm [] s3) v4 (Ye (s := s3) A4)) (fun r10 s11 p11 n11 => ?_))
  refine Xc rfl (Xc rfl (Xc rfl ?_))
  exact Kj9 _ _ _ ⟨s11, _, rfl, (ue (ue rfl rfl) rfl), (Ky1.st p11 rfl)⟩
 rintro y9 _ _ ⟨s13, _, rfl, rfl, Ky9⟩
 refine Xc rfl (dn (cd rfl (fun h14 => ?_) (fun h14 => ?_)))
 ·
  exact sr (Yd (.float .f64 0) rfl (Xc rfl (dn (re rfl func111 rfl (Xs rfl (Xs rfl Xe)) rfl ⟨_, rfl, (.float .f64 0), rfl, (Yh rfl), z.ky Ky9⟩))))
 exact sk (ib (sr (Xx v4 rfl (Yd v4 rfl (Xc rfl (dn (re rfl func111 rfl (Xs rfl (Xs rfl Xe)) rfl ⟨_, rfl, v4, rfl, A4, z.ky Ky9⟩)))))))
def impl_KeyRead_1.f (a0 : Int) : Option (Nat) :=
 ((impl_FloatUnrank.f a0).bind fun r1 => (some r1.1))
def impl_KeyRead_1.Q (w : World) (F : Nat → Prop) (r : Nat) (v : Value) (w' : World) : Prop :=
 FL v r ∧ Ky [] w w'
theorem impl_KeyRead_1.calls (a0 : Int) (w : World) (F : Nat → Prop)   (r : Nat) (m : impl_KeyRead_1.f a0 = some r) :
  Calls prog 110 #[(.int .u64 a0)] w (RT (impl_KeyRead_1.Q w F) r) := by
 obtain ⟨s0, rfl, kp0, z⟩ := Xk w F
 refine Xd (args := [(.int .u64 a0)]) func110 ntmps110 rfl rfl m ?_
 unfold impl_KeyRead_1.f
 refine sr (Yd (.float .f64 0) rfl (dn (sr (Xc rfl (cl' rfl func111 rfl (impl_FloatUnrank.calls a0 s0.w (mm [] s0)) ?_)))))
 rintro r1 _ w1 m1 ⟨v1_0, rfl, f1_0, ky1⟩
 obtain ⟨s2, rfl, p2, n2⟩ := nwx s0 w1 40 ky1
 refine Xc rfl (Xc (v := v1_0) rfl (Xc (v := (.bool r1.2)) rfl (Yd v1_0 rfl (Xc rfl (dn (sr (Xx v1_0 rfl (Yd v1_0 rfl (dn ?_)))))))))
 exact re rfl func110 rfl (Xs rfl Xe) rfl ⟨_, rfl, f1_0, z.ky (kp0.st p2 rfl)⟩
def impl_ItemOk.f (a0 : Item) : Option (Bool) :=
 ((impl_within.f a0.Kind (0 : Int) (3 : Int)).bind fun r4 => (some (((r4 && ((a0.N == (0 : Int)) || (a0.Kind == (1 : Int)))) && (((a0.F : Int) == 0) || (a0.Kind == (2 : Int)))) && (((a0.T.length : Int) == (0 : Int)) || ((a0.Kind == (3 : Int)) && (decide ((a0.T.length : Int) ≤ (40 : Int))))))))
def impl_ItemOk.Q (w : World) (F : Nat → Prop) (r : Bool) (v : Value) (w' : World) : Prop :=
 v = (.bool r) ∧ Ky [] w w'
theorem impl_ItemOk.calls (a0 : Item) (w : World) (F : Nat → Prop) (w0_0 : Value) (w0_1 : Value) (h0_0 : Kd.flt.rd w [w0_0] a0.F F) (h0_1 : Yo.rd w [w0_1] a0.T F) (r : Bool) (m : impl_ItemOk.f a0 = some r) :
  Calls prog 115 #[(.agg #[(iI a0.Kind), (iI a0.N), w0_0, w0_1])] w (RT (impl_ItemOk.Q w F) r) := by
 obtain ⟨s0, rfl, kp0, z⟩ := Xk w F
 refine Xd (args := [(.agg #[(iI a0.Kind), (iI a0.N), w0_0, w0_1])]) func115 ntmps115 rfl rfl m ?_
 unfold impl_ItemOk.f
 refine sr (bx' (cs := [(iI a0.Kind), (iI a0.N), w0_0, w0_1]) 40 rfl rfl (fun b2 s2 p2 B2 => ?_))
 refine Xc rfl (dn (sr (Xt fa77_0 rfl (Yb B2 u3 rfl (Ym 41 rfl func63 rfl (impl_within.calls a0.Kind (0 : Int) (3 : Int) s2.w (mm [] s2)) (fun r4 s5 p5 n5 => ?_))))))
 refine Xc rfl (jy [6, 7, 8, 9, 10, 11, 12, 13, 14, 15] [13, 14, 15, 16, 17, 18, 19, 20, 21, 22, 23, 24, 25, 26, 27, 28, 29, 30, 31, 32, 33, 34, 35, 36, 37, 38, 39, 40, 41] 15 (.bool (r4 && ((a0.N == (0 : Int)) || (a0.Kind == (1 : Int))))) rfl (fun Kg6 => ?_) (fun j6 => ?_))
 ·
  rcases Yn r4 with hb6 | hb6
  ·
   refine Xy hb6 (Xt fa77_1 rfl ?_)
   have A7 := B2.st p5 rfl
   refine Yb A7 u3 rfl (Xc rfl (Xc rfl (jy [10, 11, 12, 13, 14] [12, 13, 14, 15, 16, 17, 18, 19, 20, 21, 22, 23, 24, 25, 26, 27, 28, 29, 30, 31, 32, 33, 34, 35, 36, 37, 38, 39, 40, 41] 14 (.bool ((a0.N == (0 : Int)) || (a0.Kind == (1 : Int)))) rfl (fun Kg8 => ?_) (fun j8 => ?_))))
   ·
    rcases Yn (a0.N == (0 : Int)) with hb8 | hb8
    ·
     exact Xy hb8 (Xj rfl (Xj rfl (Xj rfl (Xc rfl (Kg8 _ (Ag.put ((Ag.put ((Ag.put ((Ag.put (Ag.base rfl) rfl)) rfl)) rfl)) rfl) (by rw [hb8]; rfl))))))
    exact Xy hb8 (Xt fa77_0 rfl (Yb A7 u3 rfl (Xc rfl (Xc rfl (Kg8 _ (Ag.put ((Ag.put ((Ag.put ((Ag.put (Ag.base rfl) rfl)) rfl)) rfl)) rfl) (by rw [hb8]; rfl))))))
   exact Xc rfl (Kg6 _ (Ag.put ((Ag.put ((Ag.ov ((Ag.put ((Ag.put ((Ag.put ((Ag.put (Ag.base rfl) rfl)) rfl)) rfl)) rfl)) rfl)) rfl)) rfl) (by rw [hb6]; rfl))
  exact Xy hb6 (Xj rfl (Xj rfl (Xj rfl (Xj rfl (Xj rfl (Xj rfl (Xj rfl (Xj rfl (Xc rfl (Kg6 _ (Ag.put ((Ag.put ((Ag.put ((Ag.put ((Ag.put ((Ag.put ((Ag.put ((Ag.put ((Ag.put (Ag.base rfl) rfl)) rfl)) rfl)) rfl)) rfl)) rfl)) rfl)) rfl)) rfl) (by rw [hb6]; rfl)))))))))))
 refine Xc rfl (jy [16, 17, 18, 19, 20, 21, 22, 23, 24, 25, 26] [24, 25, 26, 27, 28, 29, 30, 31, 32, 33, 34, 35, 36, 37, 38, 39, 40, 41] 26 (.bool ((r4 && ((a0.N == (0 : Int)) || (a0.Kind == (1 : Int)))) && (((a0.F : Int) == 0) || (a0.Kind == (2 : Int))))) rfl (fun Kg9 => ?_) (fun j9 => ?_))
 ·
  rcases Yn (r4 && ((a0.N == (0 : Int)) || (a0.Kind == (1 : Int)))) with hb9 | hb9
  ·
   refine Xy hb9 (Xt fa77_2 rfl ?_)
   have A10 := B2.st p5 rfl
   refine Yb A10 u75 rfl (fbu (fl_of h0_0) rfl rfl rfl rfl rfl func126 rfl rfl xn126 xf126 rfl (fun b11 A11 => ?_))
   refine fz0 A11 rfl rfl rfl rfl rfl rfl rfl (Xc rfl (jy [21, 22, 23, 24, 25] [23, 24, 25, 26, 27, 28, 29, 30, 31, 32, 33, 34, 35, 36, 37, 38, 39, 40, 41] 25 (.bool (((a0.F : Int) == 0) || (a0.Kind == (2 : Int)))) rfl (fun Kg12 => ?_) (fun j12 => ?_)))
   ·
    rcases Yn ((a0.F : Int) == 0) with hb12 | hb12
    ·
     exact Xy hb12 (Xj rfl (Xj rfl (Xj rfl (Xc rfl (Kg12 _ (Ag.put ((Ag.put ((Ag.put ((Ag.put (Ag.base rfl) rfl)) rfl)) rfl)) rfl) (by rw [hb12]; rfl))))))
    exact Xy hb12 (Xt fa77_0 rfl (Yb A10 u3 rfl (Xc rfl (Xc rfl (Kg12 _ (Ag.put ((Ag.put ((Ag.put ((Ag.put (Ag.base rfl) rfl)) rfl)) rfl)) rfl) (by rw [hb12]; rfl))))))
   exact Xc rfl (Kg9 _ (Ag.put ((Ag.put ((Ag.ov ((Ag.put ((Ag.put ((Ag.put ((Ag.put ((Ag.put (Ag.base rfl) rfl)) rfl)) rfl)) rfl)) rfl)) rfl)) rfl)) rfl) (by rw [hb9]; rfl))
  exact Xy hb9 (Xj rfl (Xj rfl (Xj rfl (Xj rfl (Xj rfl (Xj rfl (Xj rfl (Xj rfl (Xj rfl (Xc rfl (Kg9 _ (Ag.put ((Ag.put ((Ag.put ((Ag.put ((Ag.put ((Ag.put ((Ag.put ((Ag.put ((Ag.put ((Ag.put (Ag.base rfl) rfl)) rfl)) rfl)) rfl)) rfl)) rfl)) rfl)) rfl)) rfl)) rfl) (by rw [hb9]; rfl))))))))))))
 refine Xc rfl (jy [27, 28, 29, 30, 31, 32, 33, 34, 35, 36, 37, 38, 39, 40, 41, 42, 43] [41] 43 (.bool (((r4 && ((a0.N == (0 : Int)) || (a0.Kind == (1 : Int)))) && (((a0.F : Int) == 0) || (a0.Kind == (2 : Int)))) && (((a0.T.length : Int) == (0 : Int)) || ((a0.Kind == (3 : Int)) && (decide ((a0.T.length : Int) ≤ (40 : Int))))))) rfl (fun Kg13 => ?_) (fun j13 => ?_))
 ·
  rcases Yn ((r4 && ((a0.N == (0 : Int)) || (a0.Kind == (1 : Int)))) && (((a0.F : Int) == 0) || (a0.Kind == (2 : Int)))) with hb13 | hb13
  ·
   refine Xy hb13 (Xt fa77_3 rfl ?_)
   have A14 := B2.st p5 rfl
   refine Yb A14 u25 rfl ?_
   have A16 := (z.rd h0_1).kp (kp0.st (Xq p2 p5) rfl)
   refine Yl A16 u25 rfl (Xc rfl (Xc rfl (jy [32, 33, 34, 35, 36, 37, 38, 39, 40, 41, 42] [40, 41] 42 (.bool (((a0.T.length : Int) == (0 : Int)) || ((a0.Kind == (3 : Int)) && (decide ((a0.T.length : Int) ≤ (40 : Int)))))) rfl (fun Kg17 => ?_) (fun j17 => ?_))))
   ·
    rcases Yn ((a0.T.length : Int) == (0 : Int)) with hb17 | hb17
    ·
     exact Xy hb17 (Xj rfl (Xj rfl (Xj rfl (Xj rfl (Xj rfl (Xj rfl (Xj rfl (Xj rfl (Xj rfl (Xc rfl (Kg17 _ (Ag.put ((Ag.put ((Ag.put ((Ag.put ((Ag.put ((Ag.put ((Ag.put ((Ag.put ((Ag.put ((Ag.put (Ag.base rfl) rfl)) rfl)) rfl)) rfl)) rfl)) rfl)) rfl)) rfl)) rfl)) rfl) (by rw [hb17]; rfl))))))))))))
    refine Xy hb17 (Xt fa77_0 rfl (Yb A14 u3 rfl (Xc rfl (Xc rfl (jy [36, 37, 38, 39, 40, 41] [39, 40, 41] 41 (.bool ((a0.Kind == (3 : Int)) && (decide ((a0.T.length : Int) ≤ (40 : Int))))) rfl (fun Kg18 => ?_) (fun j18 => ?_))))))
    ·
     rcases Yn (a0.Kind == (3 : Int)) with hb18 | hb18
     ·
      exact Xy hb18 (Xt fa77_3 rfl (Yb A14 u25 rfl (Yl A16 u25 rfl (Xc rfl (Xc rfl (Kg18 _ (Ag.put ((Ag.put ((Ag.put ((Ag.put ((Ag.put (Ag.base rfl) rfl)) rfl)) rfl)) rfl)) rfl) (by rw [hb18]; rfl)))))))
     exact Xy hb18 (Xj rfl (Xj rfl (Xj rfl (Xj rfl (Xc rfl (Kg18 _ (Ag.put ((Ag.put ((Ag.put ((Ag.put ((Ag.put (Ag.base rfl) rfl)) rfl)) rfl)) rfl)) rfl) (by rw [hb18]; rfl)))))))
    exact Xc rfl (Kg17 _ (Ag.put ((Ag.put ((Ag.ov ((Ag.put ((Ag.put ((Ag.put ((Ag.put (Ag.base rfl) rfl)) rfl)) rfl)) rfl)) rfl)) rfl)) rfl) (by rw [hb17]; rfl))
   exact Xc rfl (Kg13 _ (Ag.put ((Ag.put ((Ag.ov ((Ag.put ((Ag.put ((Ag.put ((Ag.put ((Ag.put (Ag.base rfl) rfl)) rfl)) rfl)) rfl)) rfl)) rfl)) rfl)) rfl) (by rw [hb13]; rfl))
  refine Xy hb13 (Xj rfl (Xj rfl (Xj rfl (Xj rfl (Xj rfl (Xj rfl (Xj rfl (Xj rfl (Xj rfl (Xj rfl (Xj rfl (Xj rfl (Xj rfl (Xj rfl ?_))))))))))))))
  exact Xj rfl (Xc rfl (Kg13 _ (Ag.put ((Ag.put ((Ag.put ((Ag.put ((Ag.put ((Ag.put ((Ag.put ((Ag.put ((Ag.put ((Ag.put ((Ag.put ((Ag.put ((Ag.put ((Ag.put ((Ag.put ((Ag.put (Ag.base rfl) rfl)) rfl)) rfl)) rfl)) rfl)) rfl)) rfl)) rfl)) rfl)) rfl)) rfl)) rfl)) rfl)) rfl)) rfl)) rfl) (by rw [hb13]; rfl)))
 refine Xc rfl (dn ?_)
 exact re rfl func115 rfl (Xs rfl Xe) rfl ⟨_, rfl, rfl, z.ky (kp0.st (Xq p2 p5) rfl)⟩
def impl_KeyOk.f (a0 : Item) : Option (Bool) :=
 ((impl_ItemOk.f a0).bind fun r6 => (some ((r6 && (a0.Kind != (0 : Int))) && ((fcmp .f64 a0.F (0 : Nat) != some .eq) || ((a0.F : Int) == 0)))))
def impl_KeyOk.Q (w : World) (F : Nat → Prop) (r : Bool) (v : Value) (w' : World) : Prop :=
 v = (.bool r) ∧ Ky [] w w'
theorem impl_KeyOk.calls (a0 : Item) (w : World) (F : Nat → Prop) (w0_0 : Value) (w0_1 : Value) (h0_0 : Kd.flt.rd w [w0_0] a0.F F) (h0_1 : Yo.rd w [w0_1] a0.T F) (r : Bool) (m : impl_KeyOk.f a0 = some r) :
  Calls prog 112 #[(.agg #[(iI a0.Kind), (iI a0.N), w0_0, w0_1])] w (RT (impl_KeyOk.Q w F) r) := by
 obtain ⟨s0, rfl, kp0, z⟩ := Xk w F
 have A0_0 := fl_of h0_0
 refine Xd (args := [(.agg #[(iI a0.Kind), (iI a0.N), w0_0, w0_1])]) func112 ntmps112 rfl rfl m ?_
 unfold impl_KeyOk.f
 refine sr (bx' (cs := [(iI a0.Kind), (iI a0.N), w0_0, w0_1]) 40 rfl rfl (fun b2 s2 p2 B2 => ?_))
 refine Xc rfl (dn (sr (Xw (es := [(iI a0.Kind), (iI a0.N), w0_0, w0_1]) B2 u77 z77 rfl ?_)))
 have K4 := kp0.st p2 rfl
 refine Ym 41 rfl func115 rfl (impl_ItemOk.calls a0 s2.w (mm [0] s2) w0_0 w0_1 ((Ye (s := s2) A0_0).sub (D := [0]) rfl) ((z.rd h0_1).kp K4)) (fun r6 s7 p7 n7 => ?_)
 refine Xc rfl (jy [5, 6, 7, 8, 9] [7, 8, 9, 10, 11, 12, 13, 14, 15, 16, 17, 18] 9 (.bool (r6 && (a0.Kind != (0 : Int)))) rfl (fun Kg8 => ?_) (fun j8 => ?_))
 ·
  rcases Yn r6 with hb8 | hb8
  ·
   refine Xy hb8 (Xt fa77_0 rfl ?_)
   exact Yb (B2.st p7 rfl) u3 rfl (Xc rfl (Xc rfl (Kg8 _ (Ag.put ((Ag.put ((Ag.put ((Ag.put (Ag.base rfl) rfl)) rfl)) rfl)) rfl) (by rw [hb8]; rfl))))
  exact Xy hb8 (Xj rfl (Xj rfl (Xj rfl (Xc rfl (Kg8 _ (Ag.put ((Ag.put ((Ag.put ((Ag.put (Ag.base rfl) rfl)) rfl)) rfl)) rfl) (by rw [hb8]; rfl))))))
 refine Xc rfl (jy [10, 11, 12, 13, 14, 15, 16, 17, 18, 19, 20] [18] 20 (.bool ((r6 && (a0.Kind != (0 : Int))) && ((fcmp .f64 a0.F (0 : Nat) != some .eq) || ((a0.F : Int) == 0)))) rfl (fun Kg10 => ?_) (fun j10 => ?_))
 ·
  rcases Yn (r6 && (a0.Kind != (0 : Int))) with hb10 | hb10
  ·
   refine Xy hb10 (Xt fa77_2 rfl ?_)
   have A11 := B2.st p7 rfl
   refine Yb A11 u75 rfl (fq_ A0_0 (Yh rfl) rfl rfl rfl rfl rfl rfl rfl rfl (Xc rfl (jy [14, 15, 16, 17, 18, 19] [17, 18] 19 (.bool ((fcmp .f64 a0.F (0 : Nat) != some .eq) || ((a0.F : Int) == 0))) rfl (fun Kg12 => ?_) (fun j12 => ?_))))
   ·
    rcases Yn (fcmp .f64 a0.F (0 : Nat) != some .eq) with hb12 | hb12
    ·
     exact Xy hb12 (Xj rfl (Xj rfl (Xj rfl (Xj rfl (Xc rfl (Kg12 _ (Ag.put ((Ag.put ((Ag.put ((Ag.put ((Ag.put (Ag.base rfl) rfl)) rfl)) rfl)) rfl)) rfl) (by rw [hb12]; rfl)))))))
    refine Xy hb12 (Xt fa77_2 rfl (Yb A11 u75 rfl (fbu A0_0 rfl rfl rfl rfl rfl func126 rfl rfl xn126 xf126 rfl (fun b13 A13 => ?_))))
    exact fz0 A13 rfl rfl rfl rfl rfl rfl rfl (Xc rfl (Kg12 _ (Ag.put ((Ag.put ((Ag.put ((Ag.put ((Ag.put (Ag.base rfl) rfl)) rfl)) rfl)) rfl)) rfl) (by rw [hb12]; rfl)))
   exact Xc rfl (Kg10 _ (Ag.put ((Ag.put ((Ag.ov ((Ag.put ((Ag.put ((Ag.put ((Ag.put (Ag.base rfl) rfl)) rfl)) rfl)) rfl)) rfl)) rfl)) rfl) (by rw [hb10]; rfl))
  exact Xy hb10 (Xj rfl (Xj rfl (Xj rfl (Xj rfl (Xj rfl (Xj rfl (Xj rfl (Xj rfl (Xj rfl (Xc rfl (Kg10 _ (Ag.put ((Ag.put ((Ag.put ((Ag.put ((Ag.put ((Ag.put ((Ag.put ((Ag.put ((Ag.put ((Ag.put (Ag.base rfl) rfl)) rfl)) rfl)) rfl)) rfl)) rfl)) rfl)) rfl)) rfl)) rfl) (by rw [hb10]; rfl))))))))))))
 refine Xc rfl (dn ?_)
 exact re rfl func112 rfl (Xs rfl Xe) rfl ⟨_, rfl, rfl, z.ky (K4.st p7 rfl)⟩
def impl_highFirst.b0 (a0 : Int) (x1 : (List Int) × Int) : Option (((List Int) × Int) ⊕ (List Int)) :=
 (if (decide (x1.2 ≥ (0 : Int))) = true then (if 0 ≤ x1.2 then (if x1.1.length + ([(IntKind.wrap .u8 (ishr .u64 a0 x1.2))]).length ≤ Lim then (some (Sum.inl ((x1.1 ++ [(IntKind.wrap .u8 (ishr .u64 a0 x1.2))]), (IntKind.wrap .i64 (x1.2 - (8 : Int)))))) else none) else none) else ((some x1.1).bind fun o => some (Sum.inr o)))
def impl_highFirst.f (a0 : Int) : Option ((List Int)) :=
 (iter (impl_highFirst.b0 a0) (([] : (List Int)), (56 : Int)))
def impl_highFirst.Q (w : World) (F : Nat → Prop) (r : (List Int)) (v : Value) (w' : World) : Prop :=
 FO Yo w w' [v] r ∧ Ky [] w w'
theorem impl_highFirst.calls (a0 : Int) (w : World) (F : Nat → Prop)   (r : (List Int)) (m : impl_highFirst.f a0 = some r) :
  Calls prog 130 #[(.int .u64 a0)] w (RT (impl_highFirst.Q w F) r) := by
 obtain ⟨s0, rfl, kp0, z⟩ := Xk w F
 refine Xd (args := [(.int .u64 a0)]) func130 ntmps130 rfl rfl m ?_
 unfold impl_highFirst.f
 refine sr (Xc rfl (dn (sr (Xc rfl (dn (sq (sr (Xc rfl (dn (bl (lpI (fun (x1 : (List Int) × Int) e w => ∃ (s : St) (e0 : Env) (vx1_0 : Value), w = s.w ∧ e = upd (upd (upd e0 0 (.int .u64 a0)) 3 vx1_0) 4 (iI x1.2) ∧ Kp s0 s ∧ OwF Yo s [vx1_0] x1.1 40) ⟨s0, _, (.slice none 0 0), rfl, (ue (ue (ue rfl rfl) rfl) rfl), kp0, (Yk 5 (Kd.int .u8) _ 40)⟩ (fun g1 ih1 => ?_))))))))))))
 rintro x1 _ _ ⟨s2, _, vx1_0, rfl, rfl, Kx1, Ax1_0⟩
 unfold impl_highFirst.b0
 refine sq (sr (Xc rfl (Xc rfl (dn (cd rfl (fun h4 => ?_) (fun h4 => ?_))))))
 ·
  refine sk (sq (bl (rg (Xx vx1_0 rfl (Xc rfl (Xc rfl (shr_ rfl rfl rfl rfl rfl rfl rfl (cv' u5 u111 rfl (ltF' (K := (Kd.int .u8)) (cells := [(.int .u8 (IntKind.wrap .u8 (ishr .u64 a0 x1.2)))]) [(IntKind.wrap .u8 (ishr .u64 a0 x1.2))] 41 Xv u25 z5 o5 (fun w => (Yf _ _ _)) rfl (fun v5 s5 p5 A5 => ?_))))))))))
  refine apF' Xv sl25 (Ax1_0.st p5 rfl) A5.rd rfl (fun v8 s8 p8 A8 => ?_)
  refine Yd v8 rfl (dn (ib (rg (Xc rfl (Xc rfl (Xc rfl (dn ?_)))))))
  exact lb ih1 ⟨s8, _, v8, rfl, (ue (ue (ue rfl rfl) rfl) rfl), (Kx1.st (Xq p5 p8) rfl), A8⟩
 exact xt rfl (sgb (sr (Xx vx1_0 rfl (Yd vx1_0 rfl (dn (re rfl func130 rfl (Xs rfl Xe) rfl ⟨_, rfl, Ax1_0.fo Kx1 rfl z.l, z.ky Kx1⟩))))))
def impl_itemBytes.f (a0 : Item) (a1 : Int) : Option ((List Int)) :=
 (if (a0.Kind == (1 : Int)) = true then ((impl_highFirst.f (IntKind.wrap .u64 ((IntKind.wrap .u64 a0.N) + (9223372036854775808 : Int)))).bind fun r8 => (if ([(IntKind.wrap .u8 a0.Kind)]).length + r8.length ≤ Lim then (some ([(IntKind.wrap .u8 a0.Kind)] ++ r8)) else none)) else (if (a0.Kind == (2 : Int)) = true then ((impl_highFirst.f a1).bind fun r16 => (if ([(IntKind.wrap .u8 a0.Kind)]).length + r16.length ≤ Lim then (some ([(IntKind.wrap .u8 a0.Kind)] ++ r16)) else none)) else (if ([(IntKind.wrap .u8 a0.Kind)]).length + a0.T.length ≤ Lim then (some ([(IntKind.wrap .u8 a0.Kind)] ++ a0.T)) else none)))
def impl_itemBytes.Q (w : World) (F : Nat → Prop) (r : (List Int)) (v : Value) (w' : World) : Prop :=
 FO Yo w w' [v] r ∧ Ky [] w w'
theorem impl_itemBytes.calls (a0 : Item) (a1 : Int) (w : World) (F : Nat → Prop) (w0_0 : Value) (w0_1 : Value) (h0_0 : Kd.flt.rd w [w0_0] a0.F F) (h0_1 : Yo.rd w [w0_1] a0.T F) (r : (List Int)) (m : impl_itemBytes.f a0 a1 = some r) :
  Calls prog 127 #[(.agg #[(iI a0.Kind), (iI a0.N), w0_0, w0_1]), (.int .u64 a1)] w (RT (impl_itemBytes.Q w F) r) := by
 obtain ⟨s0, rfl, kp0, z⟩ := Xk w F
 refine Xd (args := [(.agg #[(iI a0.Kind), (iI a0.N), w0_0, w0_1]), (.int .u64 a1)]) func127 ntmps127 rfl rfl m ?_
 unfold impl_itemBytes.f
 refine sr (bx' (cs := [(iI a0.Kind), (iI a0.N), w0_0, w0_1]) 40 rfl rfl (fun b2 s2 p2 B2 => ?_))
 refine Xc rfl (dn (sr (Xt fa77_0 rfl (Yb B2 u3 rfl (cv' u5 u3 rfl (ltF' (K := (Kd.int .u8)) (cells := [(.int .u8 (IntKind.wrap .u8 a0.Kind))]) [(IntKind.wrap .u8 a0.Kind)] 41 Xv u25 z5 o5 (fun w => (Yf _ _ _)) rfl (fun v4 s4 p4 A4 => ?_)))))))
 refine Yd v4 rfl (dn (sq (sr (Xt fa77_0 rfl ?_))))
 have A6 := B2.st p4 rfl
 refine Yb A6 u3 rfl (dn (bl (sr (Xc rfl (Xc rfl (dn (cd rfl (fun h7 => ?_) (fun h7 => ?_))))))))
 ·
  refine sr (Xx v4 rfl (Xt fa77_1 rfl (Yb A6 u3 rfl (cv' u111 u3 rfl (Xc rfl (clO 42 rfl func130 rfl (impl_highFirst.calls (IntKind.wrap .u64 ((IntKind.wrap .u64 a0.N) + (9223372036854775808 : Int))) s4.w (mm [] s4)) (fun r8 v8_0 s9 p9 A8_0 => ?_)))))))
  refine apF' Xv sl25 (A4.st p9 rfl) A8_0.rd rfl (fun v12 s12 p12 A12 => ?_)
  refine Yd v12 rfl (dn ?_)
  have K14 := kp0.st (tr4 p2 p4 p9 p12) rfl
  exact re rfl func127 rfl (Xs rfl Xe) rfl ⟨_, rfl, A12.fo K14 rfl z.l, z.ky K14⟩
 refine sr (Xc rfl (Xc rfl (dn (cd rfl (fun h15 => ?_) (fun h15 => ?_)))))
 ·
  refine sr (Xx v4 rfl (Xc rfl (clO 43 rfl func130 rfl (impl_highFirst.calls a1 s4.w (mm [] s4)) (fun r16 v16_0 s17 p17 A16_0 => ?_))))
  refine apF' Xv sl25 (A4.st p17 rfl) A16_0.rd rfl (fun v20 s20 p20 A20 => ?_)
  refine Yd v20 rfl (dn ?_)
  have K22 := kp0.st (tr4 p2 p4 p17 p20) rfl
  exact re rfl func127 rfl (Xs rfl Xe) rfl ⟨_, rfl, A20.fo K22 rfl z.l, z.ky K22⟩
 refine sk (ib (sr (Xx v4 rfl (Xt fa77_3 rfl (Yb A6 u25 rfl ?_)))))
 have K23 := kp0.st (Xq p2 p4) rfl
 refine apF' Xv sl25 A4 ((z.rd h0_1).kp K23) rfl (fun v25 s25 p25 A25 => ?_)
 refine Yd v25 rfl (dn ?_)
 have K27 := K23.st p25 rfl
 exact re rfl func127 rfl (Xs rfl Xe) rfl ⟨_, rfl, A25.fo K27 rfl z.l, z.ky K27⟩
def impl_KeyBytes.f (a0 : Item) : Option ((List Int)) :=
 ((impl_KeyOk.f a0).bind fun r6 => (if (!r6) = true then (some ([] : (List Int))) else ((impl_FloatRank.f a0.F).bind fun r19 => ((impl_itemBytes.f a0 r19).bind fun r25 => (some r25)))))
def impl_KeyBytes.Q (w : World) (F : Nat → Prop) (r : (List Int)) (v : Value) (w' : World) : Prop :=
 FO Yo w w' [v] r ∧ Ky [] w w'
theorem impl_KeyBytes.calls (a0 : Item) (w : World) (F : Nat → Prop) (w0_0 : Value) (w0_1 : Value) (h0_0 : Kd.flt.rd w [w0_0] a0.F F) (h0_1 : Yo.rd w [w0_1] a0.T F) (r : (List Int)) (m : impl_KeyBytes.f a0 = some r) :
  Calls prog 113 #[(.agg #[(iI a0.Kind), (iI a0.N), w0_0, w0_1])] w (RT (impl_KeyBytes.Q w F) r) := by
 obtain ⟨s0, rfl, kp0, z⟩ := Xk w F
 have A0_0 := fl_of h0_0
 have A0_1 := z.rd h0_1
 refine Xd (args := [(.agg #[(iI a0.Kind), (iI a0.N), w0_0, w0_1])]) func113 ntmps113 rfl rfl m ?_
 unfold impl_KeyBytes.f
 refine sr (bx' (cs := [(iI a0.Kind), (iI a0.N), w0_0, w0_1]) 40 rfl rfl (fun b2 s2 p2 B2 => ?_))
 refine Xc rfl (dn (sq (sr (Xw (es := [(iI a0.Kind), (iI a0.N), w0_0, w0_1]) B2 u77 z77 rfl ?_))))
 have K4 := kp0.st p2 rfl
 refine Ym 41 rfl func112 rfl (impl_KeyOk.calls a0 s2.w (mm [0] s2) w0_0 w0_1 ((Ye (s := s2) A0_0).sub (D := [0]) rfl) (A0_1.kp K4)) (fun r6 s7 p7 n7 => ?_)
 refine Xc rfl (dn (cd rfl (fun h8 => ?_) (fun h8 => ?_)))
 ·
  refine sr (Xc rfl (dn ?_))
  have K9 := K4.st p7 rfl
  exact re rfl func113 rfl (Xs rfl Xe) rfl ⟨_, rfl, (Yk 5 (Kd.int .u8) s7 40).fo K9 rfl z.l, z.ky K9⟩
 refine sk (sq (zdraw [[], [], [1], [2], [0, 3, 3], [4, 4, 0, 1, 2, 3, 4]] [some 6, some 7, some 8, some 9, some 10, some 2] [[1], [1], [7], [8], [6, 9], [10]] [0, 1, 2, 3, 4, 5] ⟨by kernel_rfl, by kernel_rfl, by kernel_rfl⟩ (by kernel_rfl) (fun s10 p10 l10 tb10 zd10 => ?_)))
 refine Yc 3 [some 6] tb10 (((zd10.add 0 6 (.agg #[(iI a0.Kind), (iI a0.N), w0_0, w0_1]) rfl).add 1 7 (pO b2 2) rfl).add 2 8 w0_0 rfl) (Xa (Xp (B2.st (Xq p7 p10) rfl) u75 rfl) rfl (Xa (Xr fa77_2 rfl) rfl (Xa (lda_q' (es := [(iI a0.Kind), (iI a0.N), w0_0, w0_1]) (B2.st (Xq p7 p10) rfl) u77 z77 rfl) rfl Xg))) (by kernel_rfl) rfl (fun l16 e16 zd16 => ?_)
 refine Ym 42 rfl func125 rfl (impl_FloatRank.calls a0.F s10.w (mm [] s10) w0_0 (Ye (s := s10) A0_0)) (fun r19 s20 p20 n20 => ?_)
 refine Xl (L' := [0]) (D' := [1, 2, 3]) zd16 rfl (fun zd21 => ?_)
 refine zfin [4, 5] tb10 zd21 (Xa (lda_q' (es := [(iI a0.Kind), (iI a0.N), w0_0, w0_1]) (B2.st (Yi p7 p10 p20) rfl) u77 z77 rfl) rfl Xg) (by kernel_rfl) (by decide) ?_
 have K23 := K4.st (Yi p7 p10 p20) rfl
 refine clO 43 rfl func127 rfl (impl_itemBytes.calls a0 r19 s20.w (mm [0] s20) w0_0 w0_1 ((Ye (s := s20) A0_0).sub (D := [0]) rfl) (A0_1.kp K23)) (fun r25 v25_0 s26 p26 A25_0 => ?_)
 refine Yd v25_0 rfl (dn ?_)
 have K28 := K23.st p26 rfl
 exact re rfl func113 rfl (Xs rfl Xe) rfl ⟨_, rfl, A25_0.fo K28 rfl z.l, z.ky K28⟩
def bytes_Equal.f (a0 : (List Int)) (a1 : (List Int)) : Option (Bool) :=
 (some ((str a0).toList == (str a1).toList))
def bytes_Equal.Q (w : World) (F : Nat → Prop) (r : Bool) (v : Value) (w' : World) : Prop :=
 v = (.bool r) ∧ Ky [] w w'
theorem bytes_Equal.calls (a0 : (List Int)) (a1 : (List Int)) (w : World) (F : Nat → Prop) (w0_0 : Value) (w1_0 : Value) (h0_0 : Yo.rd w [w0_0] a0 F) (h1_0 : Yo.rd w [w1_0] a1 F) (r : Bool) (m : bytes_Equal.f a0 a1 = some r) :
  Calls prog 89 #[w0_0, w1_0] w (RT (bytes_Equal.Q w F) r) := by
 obtain ⟨s0, rfl, kp0, z⟩ := Xk w F
 refine Xd (args := [w0_0, w1_0]) func89 ntmps89 rfl rfl m ?_
 unfold bytes_Equal.f
 exact sr (Xc rfl (dn (sr (Xx w0_0 rfl (b2s (z.rd h0_0) u25 u9 u5 rfl rfl rfl rfl rfl rfl (Xx w1_0 rfl (b2s (z.rd h1_0) u25 u9 u5 rfl rfl rfl rfl rfl rfl (Xc rfl (Xc rfl (dn (re rfl func89 rfl (Xs rfl Xe) rfl ⟨_, rfl, rfl, z.ky kp0⟩)))))))))))
def impl_KeyRead.f (a0 : (List Int)) : Option (Item × Bool) :=
 ((impl_readItem.f a0 impl_KeyRead_1.f).bind fun r6 => ((impl_KeyOk.f r6).bind fun r15 => ((if (!r15) = true then (some true) else ((impl_KeyBytes.f r6).bind fun r24 => ((bytes_Equal.f r24 a0).bind fun r29 => (some (!r29))))).bind fun y17 => (if y17 = true then (some ((Item.mk (0 : Int) (0 : Int) (0 : Nat) ([] : (List Int))), false)) else (some (r6, true))))))
def impl_KeyRead.Q (w : World) (F : Nat → Prop) (r : Item × Bool) (v : Value) (w' : World) : Prop :=
 ∃ (v0 : Value) (v1 : Value), v = .tuple #[(.agg #[(iI r.1.Kind), (iI r.1.N), v0, v1]), (.bool r.2)] ∧ FO kd77 w w' [(iI r.1.Kind), (iI r.1.N), v0, v1] r.1 ∧ Ky [] w w'
theorem impl_KeyRead.calls (a0 : (List Int)) (w : World) (F : Nat → Prop) (w0_0 : Value) (h0_0 : Yo.rd w [w0_0] a0 F) (r : Item × Bool) (m : impl_KeyRead.f a0 = some r) :
  Calls prog 86 #[w0_0] w (RT (impl_KeyRead.Q w F) r) := by
 obtain ⟨s0, rfl, kp0, z⟩ := Xk w F
 have A0_0 := z.rd h0_0
 refine Xd (args := [w0_0]) func86 ntmps86 rfl rfl m ?_
 unfold impl_KeyRead.f
 refine sr (al' (cs := [(iI 0), (iI 0), (.float .f64 0), (.slice none 0 0)]) 40 rfl o77 rfl (fun b2 s2 p2 B2 => ?_))
 refine Xc rfl (dn (sr (Xx w0_0 rfl ?_)))
 have K4 := kp0.st p2 rfl
 refine cl' rfl func109 rfl (impl_readItem.calls a0 impl_KeyRead_1.f s2.w (mm [0] s2) w0_0 (.func (.func 110) #[] #[]) (A0_0.kp K4) (fun x0 w' k  r m =>  ⟨110, _, _, [], [], rfl, func110, rfl, rfl, (impl_KeyRead_1.calls x0 w' (fun _ => True)  r m).mono fun en w2 hq => by obtain ⟨v, e, q⟩ := hq; exact ⟨v, e, q⟩⟩) rfl) ?_
 rintro r6 _ w6 m6 ⟨v6_0, v6_1, rfl, f6_0, ky6⟩
 obtain ⟨s7, rfl, p7, n7⟩ := nwx s2 w6 41 ky6
 obtain ⟨hu6_0_0, Au6_0_1⟩ := ap77 (f6_0.c n7)
 refine al' (cs := [(iI 0), (iI 0), (.float .f64 0), (.slice none 0 0)]) 42 rfl o77 rfl (fun b9 s9 p9 B9 => ?_)
 have A11 := Au6_0_1.st p9 rfl
 refine Xu (vs := [(iI r6.Kind), (iI r6.N), v6_0, v6_1]) B9 z77 rfl (Xb rfl (Xb rfl (Xb (FL.one hu6_0_0) (Xb A11.rd.one Xi)))) rfl (fun s12 p12 B12 => ?_)
 refine dn (sq (sr (Xw (es := [(iI r6.Kind), (iI r6.N), v6_0, v6_1]) B12 u77 z77 rfl ?_)))
 have A14 := A11.st p12 rfl
 refine Ym 43 rfl func112 rfl (impl_KeyOk.calls r6 s12.w (mm [41] s12) v6_0 v6_1 ((Ye (s := s12) hu6_0_0).sub (D := [41]) rfl) A14.rd) (fun r15 s16 p16 n16 => ?_)
 refine Xc rfl (Xc rfl (ji [] (fun (y17 : Bool) e w => ∃ (s : St) (e0 : Env), w = s.w ∧ e = upd (upd (upd e0 2 (pB b2)) 4 (pB b9)) 16 (.bool y17) ∧ Kp s0 s ∧ BlF s b9 77 [(iI r6.Kind), (iI r6.N), v6_0, v6_1] 42 ∧ BlF s b2 77 [(iI 0), (iI 0), (.float .f64 0), (.slice none 0 0)] 40 ∧ OwF Yo s [v6_1] r6.T 41) (fun Gj17 Kj17 => ?_) ?_))
 ·
  rcases Yn (!r15) with hb17 | hb17
  ·
   refine Xy hb17 ?_
   rw [if_pos hb17]
   refine Xj rfl (Xj rfl (Xj rfl (Xj rfl (Xj rfl (Xc rfl ?_)))))
   exact Kj17 _ _ _ ⟨s16, _, rfl, (ue (ue (ue rfl rfl) rfl) rfl), (K4.st (tr4 p7 p9 p12 p16) rfl), (B12.st p16 rfl), (B2.st (tr4 p7 p9 p12 p16) rfl), (A14.st p16 rfl)⟩
  refine Xy hb17 ?_
  rw [if_neg (by rw [hb17]; decide)]
  have A22 := B12.st p16 rfl
  refine Xw (es := [(iI r6.Kind), (iI r6.N), v6_0, v6_1]) A22 u77 z77 rfl ?_
  have A23 := A14.st p16 rfl
  refine clO 44 rfl func113 rfl (impl_KeyBytes.calls r6 s16.w (mm [41] s16) v6_0 v6_1 ((Ye (s := s16) hu6_0_0).sub (D := [41]) rfl) A23.rd) (fun r24 v24_0 s25 p25 A24_0 => ?_)
  refine Xx w0_0 rfl ?_
  have K27 := K4.st (tr5 p7 p9 p12 p16 p25) rfl
  refine Ym 45 rfl func89 rfl (bytes_Equal.calls r24 a0 s25.w (mm [44, 0] s25) v24_0 w0_0 (A24_0.rd.sub (D := [44, 0]) rfl) ((A0_0.kp K27).sub (D := [44, 0]) rfl)) (fun r29 s30 p30 n30 => ?_)
  refine Xc rfl (Xc rfl ?_)
  exact Kj17 _ _ _ ⟨s30, _, rfl, (ue (ue (ue rfl rfl) rfl) rfl), (K27.st p30 rfl), (A22.st (Xq p25 p30) rfl), (B2.st (tr6 p7 p9 p12 p16 p25 p30) rfl), (A23.st (Xq p25 p30) rfl)⟩
 rintro y17 _ _ ⟨s35, _, rfl, rfl, Ky17, By17_b9, By17_b2, Cy17_8⟩
 refine dn (cd rfl (fun h38 => ?_) (fun h38 => ?_))
 ·
  refine sr (bd' (cells := [(iI 0), (iI 0), (.float .f64 0), (.slice none 0 0)]) pl77 o77 rfl rfl (Xu (vs := [(iI 0), (iI 0), (.float .f64 0), (.slice none 0 0)]) By17_b2 z77 rfl (Xb rfl (Xb rfl (Xb (FL.one (Yh rfl)) (Xb rfl Xi)))) rfl (fun s39 p39 B39 => ?_)))
  refine Xc rfl (dn ?_)
  have A41 : OwF kd77 s39 [(iI 0), (iI 0), (.float .f64 0), (.slice none 0 0)] (Item.mk (0 : Int) (0 : Int) (0 : Nat) ([] : (List Int))) 46 := ow_z _ _ (Xz (fun x : Item => (x.Kind, x.N, x.F, x.T)) (Item.mk (0 : Int) (0 : Int) (0 : Nat) ([] : (List Int))) (Xh (Xf .i64 (0 : Int)) (Xh (Xf .i64 (0 : Int)) (Xh (Yj (Yh rfl)) (Ya 5 (Kd.int .u8))))))
  have K43 := Ky17.st p39 rfl
  exact re rfl func86 rfl (r_b B39 u77 rfl z77 rfl (Xs rfl Xe)) rfl ⟨_, rfl, (.float .f64 0), (.slice none 0 0), rfl, A41.fo K43 rfl z.l, z.ky K43⟩
 refine sk (sr (Xw (es := [(iI r6.Kind), (iI r6.N), v6_0, v6_1]) By17_b9 u77 z77 rfl (Xu (vs := [(iI r6.Kind), (iI r6.N), v6_0, v6_1]) By17_b2 z77 rfl (Xb rfl (Xb rfl (Xb (FL.one hu6_0_0) (Xb Cy17_8.rd.one Xi)))) rfl (fun s44 p44 B44 => ?_))))
 refine Xc rfl (dn ?_)
 have A46 : OwF kd77 s44 [(iI r6.Kind), (iI r6.N), v6_0, v6_1] r6 41 := (Xo (fun x : Item => (x.Kind, x.N, x.F, x.T)) r6 (Yg (Xf .i64 r6.Kind) (Yg (Xf .i64 r6.N) (Yg (Yj hu6_0_0) (Cy17_8.st p44 rfl)))))
 have K49 := Ky17.st p44 rfl
 exact re rfl func86 rfl (r_b B44 u77 rfl z77 rfl (Xs rfl Xe)) rfl ⟨_, rfl, v6_0, v6_1, rfl, A46.fo K49 rfl z.l, z.ky K49⟩
def impl_FloatOf.f (a0 : Int) : Option (Nat) :=
 (some (cn (a0).toNat))
def impl_FloatOf.Q (w : World) (F : Nat → Prop) (r : Nat) (v : Value) (w' : World) : Prop :=
 FL v r ∧ Ky [] w w'
theorem impl_FloatOf.calls (a0 : Int) (w : World) (F : Nat → Prop)   (r : Nat) (m : impl_FloatOf.f a0 = some r) :
  Calls prog 114 #[(.int .u64 a0)] w (RT (impl_FloatOf.Q w F) r) := by
 obtain ⟨s0, rfl, kp0, z⟩ := Xk w F
 refine Xd (args := [(.int .u64 a0)]) func114 ntmps114 rfl rfl m ?_
 unfold impl_FloatOf.f
 refine sr (Yd (.float .f64 0) rfl (dn (sr (Xc rfl (ffb rfl rfl rfl rfl rfl func123 rfl rfl xn123 xf123 rfl (fun v1 A1 => ?_))))))
 exact Yd v1 rfl (dn (re rfl func114 rfl (Xs rfl Xe) rfl ⟨_, rfl, A1, z.ky kp0⟩))
def impl_FloatBits.f (a0 : Nat) : Option (Int) :=
 (if (fcmp .f64 a0 a0 != some .eq) = true then (some (9221120237041090560 : Int)) else (if isN a0 = false then (some (a0 : Int)) else none))
def impl_FloatBits.Q (w : World) (F : Nat → Prop) (r : Int) (v : Value) (w' : World) : Prop :=
 v = (.int .u64 r) ∧ Ky [] w w'
theorem impl_FloatBits.calls (a0 : Nat) (w : World) (F : Nat → Prop) (w0_0 : Value) (h0_0 : Kd.flt.rd w [w0_0] a0 F) (r : Int) (m : impl_FloatBits.f a0 = some r) :
  Calls prog 128 #[w0_0] w (RT (impl_FloatBits.Q w F) r) := by
 obtain ⟨s0, rfl, kp0, z⟩ := Xk w F
 have A0_0 := fl_of h0_0
 refine Xd (args := [w0_0]) func128 ntmps128 rfl rfl m ?_
 unfold impl_FloatBits.f
 refine sr (Xc rfl (dn (sq (sr (Xx w0_0 rfl (Xx w0_0 rfl (fq_ A0_0 A0_0 rfl rfl rfl rfl rfl rfl rfl rfl (dn (cd rfl (fun h1 => ?_) (fun h1 => ?_))))))))))
 ·
  exact sr (Xc rfl (dn (re rfl func128 rfl (Xs rfl Xe) rfl ⟨_, rfl, rfl, z.ky kp0⟩)))
 exact sk (sr (Xx w0_0 rfl (fb_ A0_0 rfl rfl rfl rfl rfl func126 rfl rfl xn126 xf126 rfl (Xc rfl (dn (re rfl func128 rfl (Xs rfl Xe) rfl ⟨_, rfl, rfl, z.ky kp0⟩))))))
def impl_ValueBytes.f (a0 : Item) : Option ((List Int)) :=
 ((impl_ItemOk.f a0).bind fun r6 => (if ((!r6) || (a0.Kind == (0 : Int))) = true then (some ([] : (List Int))) else ((impl_FloatBits.f a0.F).bind fun r21 => ((impl_itemBytes.f a0 r21).bind fun r27 => (some r27)))))
def impl_ValueBytes.Q (w : World) (F : Nat → Prop) (r : (List Int)) (v : Value) (w' : World) : Prop :=
 FO Yo w w' [v] r ∧ Ky [] w w'
theorem impl_ValueBytes.calls (a0 : Item) (w : World) (F : Nat → Prop) (w0_0 : Value) (w0_1 : Value) (h0_0 : Kd.flt.rd w [w0_0] a0.F F) (h0_1 : Yo.rd w [w0_1] a0.T F) (r : (List Int)) (m : impl_ValueBytes.f a0 = some r) :
  Calls prog 116 #[(.agg #[(iI a0.Kind), (iI a0.N), w0_0, w0_1])] w (RT (impl_ValueBytes.Q w F) r) := by
 obtain ⟨s0, rfl, kp0, z⟩ := Xk w F
 have A0_0 := fl_of h0_0
 have A0_1 := z.rd h0_1
 refine Xd (args := [(.agg #[(iI a0.Kind), (iI a0.N), w0_0, w0_1])]) func116 ntmps116 rfl rfl m ?_
 unfold impl_ValueBytes.f
 refine sr (bx' (cs := [(iI a0.Kind), (iI a0.N), w0_0, w0_1]) 40 rfl rfl (fun b2 s2 p2 B2 => ?_))
 refine Xc rfl (dn (sq (sr (Xw (es := [(iI a0.Kind), (iI a0.N), w0_0, w0_1]) B2 u77 z77 rfl ?_))))
 have K4 := kp0.st p2 rfl
 refine Ym 41 rfl func115 rfl (impl_ItemOk.calls a0 s2.w (mm [0] s2) w0_0 w0_1 ((Ye (s := s2) A0_0).sub (D := [0]) rfl) (A0_1.kp K4)) (fun r6 s7 p7 n7 => ?_)
 refine Xc rfl (Xc rfl (jy [6, 7, 8, 9, 10] [] 10 (.bool ((!r6) || (a0.Kind == (0 : Int)))) rfl (fun Kg8 => ?_) (fun j8 => ?_)))
 ·
  rcases Yn (!r6) with hb8 | hb8
  ·
   exact Xy hb8 (Xj rfl (Xj rfl (Xj rfl (Xc rfl (Kg8 _ (Ag.put ((Ag.put ((Ag.put ((Ag.put (Ag.base rfl) rfl)) rfl)) rfl)) rfl) (by rw [hb8]; rfl))))))
  refine Xy hb8 (Xt fa77_0 rfl ?_)
  exact Yb (B2.st p7 rfl) u3 rfl (Xc rfl (Xc rfl (Kg8 _ (Ag.put ((Ag.put ((Ag.put ((Ag.put (Ag.base rfl) rfl)) rfl)) rfl)) rfl) (by rw [hb8]; rfl))))
 refine dn (cd rfl (fun h10 => ?_) (fun h10 => ?_))
 ·
  refine sr (Xc rfl (dn ?_))
  have K11 := K4.st p7 rfl
  exact re rfl func116 rfl (Xs rfl Xe) rfl ⟨_, rfl, (Yk 5 (Kd.int .u8) s7 40).fo K11 rfl z.l, z.ky K11⟩
 refine sk (sq (zdraw [[], [], [1], [2], [0, 3, 3], [4, 4, 0, 1, 2, 3, 4]] [some 11, some 12, some 13, some 14, some 15, some 2] [[1], [1], [12], [13], [11, 14], [15]] [0, 1, 2, 3, 4, 5] ⟨by kernel_rfl, by kernel_rfl, by kernel_rfl⟩ (by kernel_rfl) (fun s12 p12 l12 tb12 zd12 => ?_)))
 refine Yc 3 [some 11] tb12 (((zd12.add 0 11 (.agg #[(iI a0.Kind), (iI a0.N), w0_0, w0_1]) rfl).add 1 12 (pO b2 2) rfl).add 2 13 w0_0 rfl) (Xa (Xp (B2.st (Xq p7 p12) rfl) u75 rfl) rfl (Xa (Xr fa77_2 rfl) rfl (Xa (lda_q' (es := [(iI a0.Kind), (iI a0.N), w0_0, w0_1]) (B2.st (Xq p7 p12) rfl) u77 z77 rfl) rfl Xg))) (by kernel_rfl) rfl (fun l18 e18 zd18 => ?_)
 refine Ym 42 rfl func128 rfl (impl_FloatBits.calls a0.F s12.w (mm [] s12) w0_0 (Ye (s := s12) A0_0)) (fun r21 s22 p22 n22 => ?_)
 refine Xl (L' := [0]) (D' := [1, 2, 3]) zd18 rfl (fun zd23 => ?_)
 refine zfin [4, 5] tb12 zd23 (Xa (lda_q' (es := [(iI a0.Kind), (iI a0.N), w0_0, w0_1]) (B2.st (Yi p7 p12 p22) rfl) u77 z77 rfl) rfl Xg) (by kernel_rfl) (by decide) ?_
 have K25 := K4.st (Yi p7 p12 p22) rfl
 refine clO 43 rfl func127 rfl (impl_itemBytes.calls a0 r21 s22.w (mm [0] s22) w0_0 w0_1 ((Ye (s := s22) A0_0).sub (D := [0]) rfl) (A0_1.kp K25)) (fun r27 v27_0 s28 p28 A27_0 => ?_)
 refine Yd v27_0 rfl (dn ?_)
 have K30 := K25.st p28 rfl
 exact re rfl func116 rfl (Xs rfl Xe) rfl ⟨_, rfl, A27_0.fo K30 rfl z.l, z.ky K30⟩
def impl_ValueRead.f (a0 : (List Int)) : Option (Item × Bool) :=
 ((impl_readItem.f a0 impl_FloatOf.f).bind fun r6 => ((impl_ItemOk.f r6).bind fun r15 => ((if ((!r15) || (r6.Kind == (0 : Int))) = true then (some true) else ((impl_ValueBytes.f r6).bind fun r26 => ((bytes_Equal.f r26 a0).bind fun r31 => (some (!r31))))).bind fun y19 => (if y19 = true then (some ((Item.mk (0 : Int) (0 : Int) (0 : Nat) ([] : (List Int))), false)) else (some (r6, true))))))
def impl_ValueRead.Q (w : World) (F : Nat → Prop) (r : Item × Bool) (v : Value) (w' : World) : Prop :=
 ∃ (v0 : Value) (v1 : Value), v = .tuple #[(.agg #[(iI r.1.Kind), (iI r.1.N), v0, v1]), (.bool r.2)] ∧ FO kd77 w w' [(iI r.1.Kind), (iI r.1.N), v0, v1] r.1 ∧ Ky [] w w'
theorem impl_ValueRead.calls (a0 : (List Int)) (w : World) (F : Nat → Prop) (w0_0 : Value) (h0_0 : Yo.rd w [w0_0] a0 F) (r : Item × Bool) (m : impl_ValueRead.f a0 = some r) :
  Calls prog 87 #[w0_0] w (RT (impl_ValueRead.Q w F) r) := by
 obtain ⟨s0, rfl, kp0, z⟩ := Xk w F
 have A0_0 := z.rd h0_0
 refine Xd (args := [w0_0]) func87 ntmps87 rfl rfl m ?_
 unfold impl_ValueRead.f
 refine sr (al' (cs := [(iI 0), (iI 0), (.float .f64 0), (.slice none 0 0)]) 40 rfl o77 rfl (fun b2 s2 p2 B2 => ?_))
 refine Xc rfl (dn (sr (Xx w0_0 rfl ?_)))
 have K4 := kp0.st p2 rfl
 refine cl' rfl func109 rfl (impl_readItem.calls a0 impl_FloatOf.f s2.w (mm [0] s2) w0_0 (.func (.func 114) #[] #[]) (A0_0.kp K4) (fun x0 w' k  r m =>  ⟨114, _, _, [], [], rfl, func114, rfl, rfl, (impl_FloatOf.calls x0 w' (fun _ => True)  r m).mono fun en w2 hq => by obtain ⟨v, e, q⟩ := hq; exact ⟨v, e, q⟩⟩) rfl) ?_
 rintro r6 _ w6 m6 ⟨v6_0, v6_1, rfl, f6_0, ky6⟩
 obtain ⟨s7, rfl, p7, n7⟩ := nwx s2 w6 41 ky6
 obtain ⟨hu6_0_0, Au6_0_1⟩ := ap77 (f6_0.c n7)
 refine al' (cs := [(iI 0), (iI 0), (.float .f64 0), (.slice none 0 0)]) 42 rfl o77 rfl (fun b9 s9 p9 B9 => ?_)
 have A11 := Au6_0_1.st p9 rfl
 refine Xu (vs := [(iI r6.Kind), (iI r6.N), v6_0, v6_1]) B9 z77 rfl (Xb rfl (Xb rfl (Xb (FL.one hu6_0_0) (Xb A11.rd.one Xi)))) rfl (fun s12 p12 B12 => ?_)
 refine dn (sq (sr (Xw (es := [(iI r6.Kind), (iI r6.N), v6_0, v6_1]) B12 u77 z77 rfl ?_)))
 have A14 := A11.st p12 rfl
 refine Ym 43 rfl func115 rfl (impl_ItemOk.calls r6 s12.w (mm [41] s12) v6_0 v6_1 ((Ye (s := s12) hu6_0_0).sub (D := [41]) rfl) A14.rd) (fun r15 s16 p16 n16 => ?_)
 refine Xc rfl (Xc rfl (jy [10, 11, 12, 13, 14] [8, 9, 10, 11, 12, 13, 14] 14 (.bool ((!r15) || (r6.Kind == (0 : Int)))) rfl (fun Kg17 => ?_) (fun j17 => ?_)))
 ·
  rcases Yn (!r15) with hb17 | hb17
  ·
   exact Xy hb17 (Xj rfl (Xj rfl (Xj rfl (Xc rfl (Kg17 _ (Ag.put ((Ag.put ((Ag.put ((Ag.put (Ag.base rfl) rfl)) rfl)) rfl)) rfl) (by rw [hb17]; rfl))))))
  refine Xy hb17 (Xt fa77_0 rfl ?_)
  exact Yb (B12.st p16 rfl) u3 rfl (Xc rfl (Xc rfl (Kg17 _ (Ag.put ((Ag.put ((Ag.put ((Ag.put (Ag.base rfl) rfl)) rfl)) rfl)) rfl) (by rw [hb17]; rfl))))
 refine Xc rfl (ji [] (fun (y19 : Bool) e w => ∃ (s : St) (e0 : Env), w = s.w ∧ e = upd (upd (upd e0 2 (pB b2)) 4 (pB b9)) 21 (.bool y19) ∧ Kp s0 s ∧ BlF s b9 77 [(iI r6.Kind), (iI r6.N), v6_0, v6_1] 42 ∧ BlF s b2 77 [(iI 0), (iI 0), (.float .f64 0), (.slice none 0 0)] 40 ∧ OwF Yo s [v6_1] r6.T 41) (fun Gj19 Kj19 => ?_) ?_)
 ·
  rcases Yn ((!r15) || (r6.Kind == (0 : Int))) with hb19 | hb19
  ·
   refine Xy hb19 ?_
   rw [if_pos hb19]
   refine Xj rfl (Xj rfl (Xj rfl (Xj rfl (Xj rfl (Xc rfl ?_)))))
   exact Kj19 _ _ _ ⟨s16, _, rfl, (ue (ue (ue rfl rfl) rfl) rfl), (K4.st (tr4 p7 p9 p12 p16) rfl), (B12.st p16 rfl), (B2.st (tr4 p7 p9 p12 p16) rfl), (A14.st p16 rfl)⟩
  refine Xy hb19 ?_
  rw [if_neg (by rw [hb19]; decide)]
  have A24 := B12.st p16 rfl
  refine Xw (es := [(iI r6.Kind), (iI r6.N), v6_0, v6_1]) A24 u77 z77 rfl ?_
  have A25 := A14.st p16 rfl
  refine clO 44 rfl func116 rfl (impl_ValueBytes.calls r6 s16.w (mm [41] s16) v6_0 v6_1 ((Ye (s := s16) hu6_0_0).sub (D := [41]) rfl) A25.rd) (fun r26 v26_0 s27 p27 A26_0 => ?_)
  refine Xx w0_0 rfl ?_
  have K29 := K4.st (tr5 p7 p9 p12 p16 p27) rfl
  refine Ym 45 rfl func89 rfl (bytes_Equal.calls r26 a0 s27.w (mm [44, 0] s27) v26_0 w0_0 (A26_0.rd.sub (D := [44, 0]) rfl) ((A0_0.kp K29).sub (D := [44, 0]) rfl)) (fun r31 s32 p32 n32 => ?_)
  refine Xc rfl (Xc rfl ?_)
  exact Kj19 _ _ _ ⟨s32, _, rfl, (ue (ue (ue rfl rfl) rfl) rfl), (K29.st p32 rfl), (A24.st (Xq p27 p32) rfl), (B2.st (tr6 p7 p9 p12 p16 p27 p32) rfl), (A25.st (Xq p27 p32) rfl)⟩
 rintro y19 _ _ ⟨s37, _, rfl, rfl, Ky19, By19_b9, By19_b2, Cy19_8⟩
 refine dn (cd rfl (fun h40 => ?_) (fun h40 => ?_))
 ·
  refine sr (bd' (cells := [(iI 0), (iI 0), (.float .f64 0), (.slice none 0 0)]) pl77 o77 rfl rfl (Xu (vs := [(iI 0), (iI 0), (.float .f64 0), (.slice none 0 0)]) By19_b2 z77 rfl (Xb rfl (Xb rfl (Xb (FL.one (Yh rfl)) (Xb rfl Xi)))) rfl (fun s41 p41 B41 => ?_)))
  refine Xc rfl (dn ?_)
  have A43 : OwF kd77 s41 [(iI 0), (iI 0), (.float .f64 0), (.slice none 0 0)] (Item.mk (0 : Int) (0 : Int) (0 : Nat) ([] : (List Int))) 46 := ow_z _ _ (Xz (fun x : Item => (x.Kind, x.N, x.F, x.T)) (Item.mk (0 : Int) (0 : Int) (0 : Nat) ([] : (List Int))) (Xh (Xf .i64 (0 : Int)) (Xh (Xf .i64 (0 : Int)) (Xh (Yj (Yh rfl)) (Ya 5 (Kd.int .u8))))))
  have K45 := Ky19.st p41 rfl
  exact re rfl func87 rfl (r_b B41 u77 rfl z77 rfl (Xs rfl Xe)) rfl ⟨_, rfl, (.float .f64 0), (.slice none 0 0), rfl, A43.fo K45 rfl z.l, z.ky K45⟩
 refine sk (sr (Xw (es := [(iI r6.Kind), (iI r6.N), v6_0, v6_1]) By19_b9 u77 z77 rfl (Xu (vs := [(iI r6.Kind), (iI r6.N), v6_0, v6_1]) By19_b2 z77 rfl (Xb rfl (Xb rfl (Xb (FL.one hu6_0_0) (Xb Cy19_8.rd.one Xi)))) rfl (fun s46 p46 B46 => ?_))))
 refine Xc rfl (dn ?_)
 have A48 : OwF kd77 s46 [(iI r6.Kind), (iI r6.N), v6_0, v6_1] r6 41 := (Xo (fun x : Item => (x.Kind, x.N, x.F, x.T)) r6 (Yg (Xf .i64 r6.Kind) (Yg (Xf .i64 r6.N) (Yg (Yj hu6_0_0) (Cy19_8.st p46 rfl)))))
 have K51 := Ky19.st p46 rfl
 exact re rfl func87 rfl (r_b B46 u77 rfl z77 rfl (Xs rfl Xe)) rfl ⟨_, rfl, v6_0, v6_1, rfl, A48.fo K51 rfl z.l, z.ky K51⟩
def impl_isXid.f (a0 : Int) : Option (Bool) :=
 ((impl_within.f a0 (1 : Int) (400 : Int)).bind fun r1 => (some r1))
def impl_isXid.Q (w : World) (F : Nat → Prop) (r : Bool) (v : Value) (w' : World) : Prop :=
 v = (.bool r) ∧ Ky [] w w'
theorem impl_isXid.calls (a0 : Int) (w : World) (F : Nat → Prop)   (r : Bool) (m : impl_isXid.f a0 = some r) :
  Calls prog 62 #[(iI a0)] w (RT (impl_isXid.Q w F) r) := by
 obtain ⟨s0, rfl, kp0, z⟩ := Xk w F
 refine Xd (args := [(iI a0)]) func62 ntmps62 rfl rfl m ?_
 unfold impl_isXid.f
 refine sr (Xc rfl (dn (sr (Xc rfl (Ym 40 rfl func63 rfl (impl_within.calls a0 (1 : Int) (400 : Int) s0.w (mm [] s0)) (fun r1 s2 p2 n2 => ?_))))))
 refine Xc rfl (dn ?_)
 exact re rfl func62 rfl (Xs rfl Xe) rfl ⟨_, rfl, rfl, z.ky (kp0.st p2 rfl)⟩
def impl_TupleOk.f (a0 : Tuple) : Option (Bool) :=
 ((impl_isXid.f a0.Xmin).bind fun r5 => ((if r5 = true then ((impl_within.f a0.Xmax (0 : Int) (400 : Int)).bind fun r9 => (some r9)) else (some false)).bind fun y7 => ((if y7 = true then ((impl_KeyOk.f a0.Key).bind fun r19 => (some r19)) else (some false)).bind fun y17 => ((if y17 = true then ((impl_ItemOk.f a0.Value).bind fun r27 => (some r27)) else (some false)).bind fun y25 => (some (y25 && (a0.Value.Kind != (0 : Int))))))))
def impl_TupleOk.Q (w : World) (F : Nat → Prop) (r : Bool) (v : Value) (w' : World) : Prop :=
 v = (.bool r) ∧ Ky [] w w'
theorem impl_TupleOk.calls (a0 : Tuple) (w : World) (F : Nat → Prop) (w0_0 : Value) (w0_1 : Value) (w0_2 : Value) (w0_3 : Value) (h0_0 : Kd.flt.rd w [w0_0] a0.Key.F F) (h0_1 : Yo.rd w [w0_1] a0.Key.T F) (h0_2 : Kd.flt.rd w [w0_2] a0.Value.F F) (h0_3 : Yo.rd w [w0_3] a0.Value.T F) (r : Bool) (m : impl_TupleOk.f a0 = some r) :
  Calls prog 88 #[(.agg #[(iI a0.Xmin), (iI a0.Xmax), (iI a0.Key.Kind), (iI a0.Key.N), w0_0, w0_1, (iI a0.Value.Kind), (iI a0.Value.N), w0_2, w0_3])] w (RT (impl_TupleOk.Q w F) r) := by
 obtain ⟨s0, rfl, kp0, z⟩ := Xk w F
 refine Xd (args := [(.agg #[(iI a0.Xmin), (iI a0.Xmax), (iI a0.Key.Kind), (iI a0.Key.N), w0_0, w0_1, (iI a0.Value.Kind), (iI a0.Value.N), w0_2, w0_3])]) func88 ntmps88 rfl rfl m ?_
 unfold impl_TupleOk.f
 refine sr (bx' (cs := [(iI a0.Xmin), (iI a0.Xmax), (iI a0.Key.Kind), (iI a0.Key.N), w0_0, w0_1, (iI a0.Value.Kind), (iI a0.Value.N), w0_2, w0_3]) 40 rfl rfl (fun b3 s3 p3 B3 => ?_))
 refine Xc rfl (dn (sr (Xt fa79_0 rfl (Yb B3 u3 rfl (Ym 41 rfl func62 rfl (impl_isXid.calls a0.Xmin s3.w (mm [] s3)) (fun r5 s6 p6 n6 => ?_))))))
 refine Xc rfl (ji [8, 9, 10, 11, 12, 13, 14, 15, 16, 17, 18, 19, 20, 21, 22, 23, 24] (fun (y7 : Bool) e w => ∃ (s : St) (e0 : Env), w = s.w ∧ e = upd (upd e0 1 (pB b3)) 10 (.bool y7) ∧ Kp s0 s ∧ BlF s b3 79 [(iI a0.Xmin), (iI a0.Xmax), (iI a0.Key.Kind), (iI a0.Key.N), w0_0, w0_1, (iI a0.Value.Kind), (iI a0.Value.N), w0_2, w0_3] 40) (fun Gj7 Kj7 => ?_) ?_)
 ·
  rcases Yn r5 with hb7 | hb7
  ·
   refine Xy hb7 ?_
   rw [if_pos hb7]
   refine Xt fa79_1 rfl ?_
   have A8 := B3.st p6 rfl
   refine Yb A8 u3 rfl (Ym 42 rfl func63 rfl (impl_within.calls a0.Xmax (0 : Int) (400 : Int) s6.w (mm [] s6)) (fun r9 s10 p10 n10 => ?_))
   exact Xc rfl (Kj7 _ _ _ ⟨s10, _, rfl, (ue (ue rfl rfl) rfl), (kp0.st (Yi p3 p6 p10) rfl), (A8.st p10 rfl)⟩)
  refine Xy hb7 ?_
  rw [if_neg (by rw [hb7]; decide)]
  refine Xj rfl (Xj rfl (Xj rfl (Xc rfl ?_)))
  exact Kj7 _ _ _ ⟨s6, _, rfl, (ue (ue rfl rfl) rfl), (kp0.st (Xq p3 p6) rfl), (B3.st p6 rfl)⟩
 rintro y7 _ _ ⟨s15, _, rfl, rfl, Ky7, By7_b3⟩
 refine Xc rfl (ji [13, 14, 15, 16, 17, 18, 19, 20, 21, 22, 23, 24] (fun (y17 : Bool) e w => ∃ (s : St) (e0 : Env), w = s.w ∧ e = upd (upd e0 1 (pB b3)) 15 (.bool y17) ∧ Kp s0 s ∧ BlF s b3 79 [(iI a0.Xmin), (iI a0.Xmax), (iI a0.Key.Kind), (iI a0.Key.N), w0_0, w0_1, (iI a0.Value.Kind), (iI a0.Value.N), w0_2, w0_3] 40) (fun Gj17 Kj17 => ?_) ?_)
 ·
  rcases Yn y7 with hb17 | hb17
  ·
   refine Xy hb17 ?_
   rw [if_pos hb17]
   refine Xt fa79_2 rfl (Xw (es := [(iI a0.Key.Kind), (iI a0.Key.N), w0_0, w0_1]) By7_b3 u77 z77 rfl ?_)
   refine Ym 43 rfl func112 rfl (impl_KeyOk.calls a0.Key s15.w (mm [0] s15) w0_0 w0_1 ((Ye (s := s15) (fl_of h0_0)).sub (D := [0]) rfl) ((z.rd h0_1).kp Ky7)) (fun r19 s20 p20 n20 => ?_)
   exact Xc rfl (Kj17 _ _ _ ⟨s20, _, rfl, (ue (ue rfl rfl) rfl), (Ky7.st p20 rfl), (By7_b3.st p20 rfl)⟩)
  refine Xy hb17 ?_
  rw [if_neg (by rw [hb17]; decide)]
  exact Xj rfl (Xj rfl (Xj rfl (Xc rfl (Kj17 _ _ _ ⟨s15, _, rfl, (ue (ue rfl rfl) rfl), Ky7, By7_b3⟩))))
 rintro y17 _ _ ⟨s23, _, rfl, rfl, Ky17, By17_b3⟩
 refine Xc rfl (ji [18, 19, 20, 21, 22, 23, 24] (fun (y25 : Bool) e w => ∃ (s : St) (e0 : Env), w = s.w ∧ e = upd (upd e0 1 (pB b3)) 20 (.bool y25) ∧ Kp s0 s ∧ BlF s b3 79 [(iI a0.Xmin), (iI a0.Xmax), (iI a0.Key.Kind), (iI a0.Key.N), w0_0, w0_1, (iI a0.Value.Kind), (iI a0.Value.N), w0_2, w0_3] 40) (fun Gj25 Kj25 => ?_) ?_)
 ·
  rcases Yn y17 with hb25 | hb25
  ·
   refine Xy hb25 ?_
   rw [if_pos hb25]
   refine Xt fa79_3 rfl (Xw (es := [(iI a0.Value.Kind), (iI a0.Value.N), w0_2, w0_3]) By17_b3 u77 z77 rfl ?_)
   refine Ym 44 rfl func115 rfl (impl_ItemOk.calls a0.Value s23.w (mm [0] s23) w0_2 w0_3 ((Ye (s := s23) (fl_of h0_2)).sub (D := [0]) rfl) ((z.rd h0_3).kp Ky17)) (fun r27 s28 p28 n28 => ?_)
   exact Xc rfl (Kj25 _ _ _ ⟨s28, _, rfl, (ue (ue rfl rfl) rfl), (Ky17.st p28 rfl), (By17_b3.st p28 rfl)⟩)
  refine Xy hb25 ?_
  rw [if_neg (by rw [hb25]; decide)]
  exact Xj rfl (Xj rfl (Xj rfl (Xc rfl (Kj25 _ _ _ ⟨s23, _, rfl, (ue (ue rfl rfl) rfl), Ky17, By17_b3⟩))))
 rintro y25 _ _ ⟨s31, _, rfl, rfl, Ky25, By25_b3⟩
 refine Xc rfl (jy [21, 22, 23, 24, 25, 26] [24] 26 (.bool (y25 && (a0.Value.Kind != (0 : Int)))) rfl (fun Kg33 => ?_) (fun j33 => ?_))
 ·
  rcases Yn y25 with hb33 | hb33
  ·
   exact Xy hb33 (Xt fa79_3 rfl (Xt fa77_0 rfl (Yb By25_b3 u3 rfl (Xc rfl (Xc rfl (Kg33 _ (Ag.put ((Ag.put ((Ag.put ((Ag.put ((Ag.put (Ag.base rfl) rfl)) rfl)) rfl)) rfl)) rfl) (by rw [hb33]; rfl)))))))
  exact Xy hb33 (Xj rfl (Xj rfl (Xj rfl (Xj rfl (Xc rfl (Kg33 _ (Ag.put ((Ag.put ((Ag.put ((Ag.put ((Ag.put (Ag.base rfl) rfl)) rfl)) rfl)) rfl)) rfl) (by rw [hb33]; rfl)))))))
 exact Xc rfl (dn (re rfl func88 rfl (Xs rfl Xe) rfl ⟨_, rfl, rfl, z.ky Ky25⟩))
def impl_PutNum.b0 (a1 : Int) (x12 : Int × (List Int) × Int) : Option ((Int × (List Int) × Int) ⊕ (List Int)) :=
 (if (decide (x12.2.2 < a1)) = true then (if x12.2.1.length + ([(IntKind.wrap .u8 x12.1)]).length ≤ Lim then (some (Sum.inl ((ishr .i64 x12.1 (8 : Int)), (x12.2.1 ++ [(IntKind.wrap .u8 x12.1)]), (IntKind.wrap .i64 (x12.2.2 + (1 : Int)))))) else none) else ((some x12.2.1).bind fun o => some (Sum.inr o)))
def impl_PutNum.f (a0 : Int) (a1 : Int) : Option ((List Int)) :=
 ((impl_within.f a1 (1 : Int) (8 : Int)).bind fun r1 => ((if ((!r1) || (decide (a0 < (0 : Int)))) = true then (some true) else ((if (decide (a1 < (8 : Int))) = true then (if 0 ≤ (IntKind.wrap .i64 ((8 : Int) * a1)) then (some ((ishr .i64 a0 (IntKind.wrap .i64 ((8 : Int) * a1))) != (0 : Int))) else none) else (some false)).bind fun y6 => (some y6))).bind fun y4 => (if y4 = true then (some ([] : (List Int))) else (iter (impl_PutNum.b0 a1) (a0, ([] : (List Int)), (0 : Int))))))
def impl_PutNum.Q (w : World) (F : Nat → Prop) (r : (List Int)) (v : Value) (w' : World) : Prop :=
 FO Yo w w' [v] r ∧ Ky [] w w'
theorem impl_PutNum.calls (a0 : Int) (a1 : Int) (w : World) (F : Nat → Prop)   (r : (List Int)) (m : impl_PutNum.f a0 a1 = some r) :
  Calls prog 118 #[(iI a0), (iI a1)] w (RT (impl_PutNum.Q w F) r) := by
 obtain ⟨s0, rfl, kp0, z⟩ := Xk w F
 refine Xd (args := [(iI a0), (iI a1)]) func118 ntmps118 rfl rfl m ?_
 unfold impl_PutNum.f
 refine sr (Xc rfl (dn (sq (sr (Xc rfl (Ym 40 rfl func63 rfl (impl_within.calls a1 (1 : Int) (8 : Int) s0.w (mm [] s0)) (fun r1 s2 p2 n2 => ?_)))))))
 refine Xc rfl (Xc rfl (jy [9, 10, 11, 12] [7, 8, 9, 10, 11, 12, 13, 14, 15, 16, 17] 12 (.bool ((!r1) || (decide (a0 < (0 : Int))))) rfl (fun Kg3 => ?_) (fun j3 => ?_)))
 ·
  rcases Yn (!r1) with hb3 | hb3
  ·
   exact Xy hb3 (Xj rfl (Xj rfl (Xc rfl (Kg3 _ (Ag.put ((Ag.put ((Ag.put (Ag.base rfl) rfl)) rfl)) rfl) (by rw [hb3]; rfl)))))
  exact Xy hb3 (Xc rfl (Xc rfl (Xc rfl (Kg3 _ (Ag.put ((Ag.put ((Ag.put (Ag.base rfl) rfl)) rfl)) rfl) (by rw [hb3]; rfl)))))
 refine Xc rfl (ji [] (fun (y4 : Bool) e w => ∃ (s : St) (e0 : Env), w = s.w ∧ e = upd (upd (upd e0 0 (iI a0)) 1 (iI a1)) 23 (.bool y4) ∧ Kp s0 s) (fun Gj4 Kj4 => ?_) ?_)
 ·
  rcases Yn ((!r1) || (decide (a0 < (0 : Int)))) with hb4 | hb4
  ·
   refine Xy hb4 ?_
   rw [if_pos hb4]
   refine Xj rfl (Xj rfl (Xj rfl (Xj rfl (Xj rfl (Xj rfl (Xj rfl (Xj rfl (Xj rfl (Xc rfl ?_)))))))))
   exact Kj4 _ _ _ ⟨s2, _, rfl, (ue (ue (ue rfl rfl) rfl) rfl), (kp0.st p2 rfl)⟩
  refine Xy hb4 ?_
  rw [if_neg (by rw [hb4]; decide)]
  refine Xc rfl (Xc rfl (Xc rfl (ji [17] (fun (y6 : Bool) e w => ∃ (s : St) (e0 : Env), w = s.w ∧ e = upd (upd (upd (upd e0 0 (iI a0)) 1 (iI a1)) 13 (.bool false)) 22 (.bool y6) ∧ Kp s0 s) (fun Gj6 Kj6 => ?_) ?_)))
  ·
   rcases Yn (decide (a1 < (8 : Int))) with hb6 | hb6
   ·
    refine Xy hb6 ?_
    rw [if_pos hb6]
    refine Xc rfl (Xc rfl (Xc rfl (shr_ rfl rfl rfl rfl rfl rfl rfl (Xc rfl (Xc rfl ?_)))))
    exact Kj6 _ _ _ ⟨s2, _, rfl, (ue (ue (ue (ue rfl rfl) rfl) rfl) rfl), (kp0.st p2 rfl)⟩
   refine Xy hb6 ?_
   rw [if_neg (by rw [hb6]; decide)]
   refine Xj rfl (Xj rfl (Xj rfl (Xj rfl (Xj rfl (Xc rfl ?_)))))
   exact Kj6 _ _ _ ⟨s2, _, rfl, (ue (ue (ue (ue rfl rfl) rfl) rfl) rfl), (kp0.st p2 rfl)⟩
  rintro y6 _ _ ⟨s9, _, rfl, rfl, Ky6⟩
  exact Xc rfl (Kj4 _ _ _ ⟨s9, _, rfl, (ue (ue (ue rfl rfl) rfl) rfl), Ky6⟩)
 rintro y4 _ _ ⟨s10, _, rfl, rfl, Ky4⟩
 refine dn (cd rfl (fun h11 => ?_) (fun h11 => ?_))
 ·
  exact sr (Xc rfl (dn (re rfl func118 rfl (Xs rfl Xe) rfl ⟨_, rfl, (Yk 5 (Kd.int .u8) s10 40).fo Ky4 rfl z.l, z.ky Ky4⟩)))
 refine sk (sr (Xc rfl (dn (sq (sr (Xc rfl (Xc rfl (dn (bl (lpI (fun (x12 : Int × (List Int) × Int) e w => ∃ (s : St) (e0 : Env) (vx12_0 : Value), w = s.w ∧ e = upd (upd (upd (upd e0 0 (iI x12.1)) 5 vx12_0) 24 (iI a1)) 25 (iI x12.2.2) ∧ Kp s0 s ∧ OwF Yo s [vx12_0] x12.2.1 41) ⟨s10, _, (.slice none 0 0), rfl, (ue (ue (ue (ue rfl rfl) rfl) rfl) rfl), Ky4, (Yk 5 (Kd.int .u8) _ 41)⟩ (fun g12 ih12 => ?_)))))))))))
 rintro x12 _ _ ⟨s13, _, vx12_0, rfl, rfl, Kx12, Ax12_0⟩
 unfold impl_PutNum.b0
 refine sr (Xc rfl (dn (sq (cd rfl (fun h15 => ?_) (fun h15 => ?_)))))
 ·
  refine sk (sq (bl (sr (Xx vx12_0 rfl (Xc rfl (cv' u5 u3 rfl (ltF' (K := (Kd.int .u8)) (cells := [(.int .u8 (IntKind.wrap .u8 x12.1))]) [(IntKind.wrap .u8 x12.1)] 42 Xv u25 z5 o5 (fun w => (Yf _ _ _)) rfl (fun v16 s16 p16 A16 => ?_))))))))
  refine apF' Xv sl25 (Ax12_0.st p16 rfl) A16.rd rfl (fun v19 s19 p19 A19 => ?_)
  refine Yd v19 rfl (dn (rg (Xc rfl (shrK rfl rfl rfl rfl rfl rfl rfl rfl (Xc rfl (dn (ib (rg (Xc rfl (Xc rfl (dn ?_)))))))))))
  exact lb ih12 ⟨s19, _, v19, rfl, (ue (ue (ue (ue rfl rfl) rfl) rfl) rfl), (Kx12.st (Xq p16 p19) rfl), A19⟩
 exact xt rfl (sgb (sr (Xx vx12_0 rfl (Yd vx12_0 rfl (dn (re rfl func118 rfl (Xs rfl Xe) rfl ⟨_, rfl, Ax12_0.fo Kx12 rfl z.l, z.ky Kx12⟩))))))
def slices_Grow_byte_byte_nil.f (a1 : Int) : Option ((List Int)) :=
 (if (decide (a1 < (0 : Int))) = true then none else ((if (decide ((IntKind.wrap .i64 (a1 - (IntKind.wrap .i64 ((0 : Int) - (([] : (List Int)).length : Int))))) > (0 : Int))) = true then (if 0 ≤ (IntKind.wrap .i64 (a1 - (IntKind.wrap .i64 ((0 : Int) - (([] : (List Int)).length : Int))))) ∧ (([] : (List Int)).length : Int) + (IntKind.wrap .i64 (a1 - (IntKind.wrap .i64 ((0 : Int) - (([] : (List Int)).length : Int))))) ≤ (Lim : Int) then (if 0 ≤ (([] : (List Int)).length : Int) ∧ (([] : (List Int)).length : Int) ≤ ((([] : (List Int)) ++ List.replicate ((IntKind.wrap .i64 (a1 - (IntKind.wrap .i64 ((0 : Int) - (([] : (List Int)).length : Int)))))).toNat (0 : Int)).length : Int) then (some ((([] : (List Int)) ++ List.replicate ((IntKind.wrap .i64 (a1 - (IntKind.wrap .i64 ((0 : Int) - (([] : (List Int)).length : Int)))))).toNat (0 : Int)).take ((([] : (List Int)).length : Int)).toNat)) else none) else none) else (some ([] : (List Int)))).bind fun y2 => (some y2)))
def slices_Grow_byte_byte_nil.Q (w : World) (F : Nat → Prop) (r : (List Int)) (v : Value) (w' : World) : Prop :=
 FO Yo w w' [v] r ∧ Ky [] w w'
theorem slices_Grow_byte_byte_nil.calls (a1 : Int) (w : World) (F : Nat → Prop)   (r : (List Int)) (m : slices_Grow_byte_byte_nil.f a1 = some r) :
  Calls prog 129 #[(.slice none 0 0), (iI a1)] w (RT (slices_Grow_byte_byte_nil.Q w F) r) := by
 obtain ⟨s0, rfl, kp0, z⟩ := Xk w F
 refine Xd (args := [(.slice none 0 0), (iI a1)]) func129 ntmps129 rfl rfl m ?_
 unfold slices_Grow_byte_byte_nil.f
 refine sr (Xc rfl (dn (sq (sr (Xc rfl (Xc rfl (dn (cd rfl (fun h1 => ?_) (fun h1 => ?_)))))))))
 ·
  exact rg mn
 refine sk (sq (sr (Xc rfl (Xc rfl (cpn u25 rfl rfl rfl rfl rfl rfl (Xc rfl (Yl (rd_nil 5 (Kd.int .u8) s0 []) u25 rfl (Xc rfl (Xc rfl (Xc rfl (dn (sr (Xc rfl (Xc rfl ?_))))))))))))))
 refine dn (jc (fun (y2 : (List Int)) e w => ∃ (s : St) (e0 : Env) (vy2_0 : Value), w = s.w ∧ e = upd e0 0 vy2_0 ∧ Kp s0 s ∧ OwF Yo s [vy2_0] y2 40) (fun Gj2 Kj2 => ?_) ?_)
 ·
  refine cd rfl (fun h3 => ?_) (fun h3 => ?_)
  ·
   refine rg (Xc rfl (Xc rfl (cpn u25 rfl rfl rfl rfl rfl rfl (nlh u25 z5 rfl rfl rfl rfl rfl rfl rfl (Xc rfl (apZ (x0 := (0 : Int)) Xv sl25 o5 (fun _ => ⟨rfl, rfl⟩) u3 (Yk 5 (Kd.int .u8) s0 40) rfl rfl rfl rfl rfl rfl rfl (fun v4 s4 p4 A4 => ?_)))))))
   refine Xc rfl (Yl (rd_nil 5 (Kd.int .u8) s4 []) u25 rfl (slo Xv A4 u25 z5 rfl rfl rfl rfl rfl rfl rfl (fun v6 A6 => ?_)))
   refine Yd v6 rfl (dn ?_)
   exact Kj2 _ _ _ ⟨s4, _, v6, rfl, (ue rfl rfl), (kp0.st p4 rfl), A6⟩
  exact sk (Kj2 _ _ _ ⟨s0, _, (.slice none 0 0), rfl, (ue rfl rfl), kp0, (Yk 5 (Kd.int .u8) _ 40)⟩)
 rintro y2 _ _ ⟨s9, _, vy2_0, rfl, rfl, Ky2, Ay2_0⟩
 exact sr (Xx vy2_0 rfl (Yd vy2_0 rfl (dn (re rfl func129 rfl (Xs rfl Xe) rfl ⟨_, rfl, Ay2_0.fo Ky2 rfl z.l, z.ky Ky2⟩))))
def slices_Concat_byte_byte.b1 (a0 : (List (List Int))) (x15 : (List Int) × Int) : Option (((List Int) × Int) ⊕ (List Int)) :=
 (if (decide (x15.2 < (a0.length : Int))) = true then (if 0 ≤ x15.2 ∧ x15.2 < (a0.length : Int) then (if x15.1.length + (at_ a0 x15.2).length ≤ Lim then (some (Sum.inl ((x15.1 ++ (at_ a0 x15.2)), (IntKind.wrap .i64 (x15.2 + (1 : Int)))))) else none) else none) else ((some x15.1).bind fun o => some (Sum.inr o)))
def slices_Concat_byte_byte.b0 (a0 : (List (List Int))) (x2 : Int × Int) : Option ((Int × Int) ⊕ (List Int)) :=
 (if (decide (x2.2 < (a0.length : Int))) = true then (if 0 ≤ x2.2 ∧ x2.2 < (a0.length : Int) then (if (decide ((IntKind.wrap .i64 (x2.1 + ((at_ a0 x2.2).length : Int))) < (0 : Int))) = true then none else (some (Sum.inl ((IntKind.wrap .i64 (x2.1 + ((at_ a0 x2.2).length : Int))), (IntKind.wrap .i64 (x2.2 + (1 : Int))))))) else none) else (((slices_Grow_byte_byte_nil.f x2.1).bind fun r10 => (iter (slices_Concat_byte_byte.b1 a0) (r10, (0 : Int)))).bind fun o => some (Sum.inr o)))
def slices_Concat_byte_byte.f (a0 : (List (List Int))) : Option ((List Int)) :=
 (iter (slices_Concat_byte_byte.b0 a0) ((0 : Int), (0 : Int)))
def slices_Concat_byte_byte.Q (w : World) (F : Nat → Prop) (r : (List Int)) (v : Value) (w' : World) : Prop :=
 FO Yo w w' [v] r ∧ Ky [] w w'
theorem slices_Concat_byte_byte.calls (a0 : (List (List Int))) (w : World) (F : Nat → Prop) (w0_0 : Value) (h0_0 : (Kd.sl 25 Yo).rd w [w0_0] a0 F) (r : (List Int)) (m : slices_Concat_byte_byte.f a0 = some r) :
  Calls prog 117 #[w0_0] w (RT (slices_Concat_byte_byte.Q w F) r) := by
 obtain ⟨s0, rfl, kp0, z⟩ := Xk w F
 have A0_0 := z.rd h0_0
 refine Xd (args := [w0_0]) func117 ntmps117 rfl rfl m ?_
 unfold slices_Concat_byte_byte.f
 refine sr (Xc rfl (dn (sr (Xc rfl (dn (sq (sr (Xx w0_0 rfl (Yl A0_0 u57 rfl (Xc rfl (dn (bl (lpI (fun (x2 : Int × Int) e w => ∃ (s : St) (e0 : Env), w = s.w ∧ e = upd (upd (upd (upd (upd e0 0 w0_0) 3 (iI x2.1)) 9 w0_0) 10 (iI (a0.length : Int))) 11 (iI x2.2) ∧ Kp s0 s) ⟨s0, _, rfl, (ue (ue (ue (ue (ue rfl rfl) rfl) rfl) rfl) rfl), kp0⟩ (fun g2 ih2 => ?_))))))))))))))
 rintro x2 _ _ ⟨s3, _, rfl, rfl, Kx2⟩
 unfold slices_Concat_byte_byte.b0
 refine sr (Xc rfl (dn (sq (cd rfl (fun h4 => ?_) (fun h4 => ?_)))))
 ·
  refine sk (sq (bl (sr ?_)))
  refine ix' (A0_0.kp Kx2) u57 z25 rfl (fun ad6 es6 h0_6 h1_6 he6 ce6 ia6 => ?_)
  obtain ⟨v6, rfl, he6'⟩ := he6
  have A6 : RdF Yo s3 [v6] (at_ a0 x2.2) [0] := ⟨v6, rfl, he6'⟩
  refine lc0' ce6 u25 rfl (Yd v6 rfl (dn (sr (Xc rfl (Xx v6 rfl (Yl A6 u25 rfl (Xc rfl (Xc rfl (dn (sr (Xc rfl (Xc rfl (dn (cd rfl (fun h9 => ?_) (fun h9 => ?_)))))))))))))))
  ·
   exact rg mn
  exact sk (ib (rg (Xc rfl (Xc rfl (dn (lb ih2 ⟨s3, _, rfl, (ue (ue (ue (ue (ue rfl rfl) rfl) rfl) rfl) rfl), Kx2⟩))))))
 refine xt rfl (sgb (sr (Xc rfl (clO 40 rfl func129 rfl (slices_Grow_byte_byte_nil.calls x2.1 s3.w (mm [] s3)) (fun r10 v10_0 s11 p11 A10_0 => ?_)))))
 refine Yd v10_0 rfl (dn (sq (sr (Xx w0_0 rfl ?_))))
 have K13 := Kx2.st p11 rfl
 refine Yl (A0_0.kp K13) u57 rfl (Xc rfl (dn (bl (lpI (fun (x15 : (List Int) × Int) e w => ∃ (s : St) (e0 : Env) (vx15_0 : Value), w = s.w ∧ e = upd (upd (upd (upd e0 6 vx15_0) 25 w0_0) 26 (iI (a0.length : Int))) 27 (iI x15.2) ∧ Kp s0 s ∧ OwF Yo s [vx15_0] x15.1 40) ⟨s11, _, v10_0, rfl, (ue (ue (ue (ue rfl rfl) rfl) rfl) rfl), K13, A10_0⟩ (fun g15 ih15 => ?_)))))
 rintro x15 _ _ ⟨s16, _, vx15_0, rfl, rfl, Kx15, Ax15_0⟩
 unfold slices_Concat_byte_byte.b1
 refine sr (Xc rfl (dn (sq (cd rfl (fun h18 => ?_) (fun h18 => ?_)))))
 ·
  refine sk (sq (bl (sr ?_)))
  refine ix' (A0_0.kp Kx15) u57 z25 rfl (fun ad20 es20 h0_20 h1_20 he20 ce20 ia20 => ?_)
  obtain ⟨v20, rfl, he20'⟩ := he20
  have A20 : RdF Yo s16 [v20] (at_ a0 x15.2) [0] := ⟨v20, rfl, he20'⟩
  refine lc0' ce20 u25 rfl (Yd v20 rfl (dn (rg (Xx vx15_0 rfl (Xx v20 rfl (apF' Xv sl25 Ax15_0 A20 rfl (fun v23 s23 p23 A23 => ?_)))))))
  refine Yd v23 rfl (dn (ib (rg (Xc rfl (Xc rfl (dn ?_))))))
  exact lb ih15 ⟨s23, _, v23, rfl, (ue (ue (ue (ue rfl rfl) rfl) rfl) rfl), (Kx15.st p23 rfl), A23⟩
 exact xt rfl (sgb (sr (Xx vx15_0 rfl (Yd vx15_0 rfl (dn (re rfl func117 rfl (Xs rfl Xe) rfl ⟨_, rfl, Ax15_0.fo Kx15 rfl z.l, z.ky Kx15⟩))))))
def impl_TupleBytes.f (a0 : Tuple) : Option ((List Int)) :=
 ((impl_TupleOk.f a0).bind fun r8 => (if (!r8) = true then (some ([] : (List Int))) else ((impl_KeyBytes.f a0.Key).bind fun r24 => ((impl_ValueBytes.f a0.Value).bind fun r31 => (((impl_PutNum.f a0.Xmin (4 : Int)).bind fun r59 => ((impl_PutNum.f a0.Xmax (4 : Int)).bind fun r69 => (some (r59, r69, [(IntKind.wrap .u8 (r24.length : Int))], [(IntKind.wrap .u8 (r31.length : Int))])))).bind fun y51 => ((slices_Concat_byte_byte.f ([y51.1, y51.2.1, y51.2.2.1, r24, y51.2.2.2, r31])).bind fun r428 => (some r428)))))))
def impl_TupleBytes.Q (w : World) (F : Nat → Prop) (r : (List Int)) (v : Value) (w' : World) : Prop :=
 FO Yo w w' [v] r ∧ Ky [] w w'
theorem impl_TupleBytes.calls (a0 : Tuple) (w : World) (F : Nat → Prop) (w0_0 : Value) (w0_1 : Value) (w0_2 : Value) (w0_3 : Value) (h0_0 : Kd.flt.rd w [w0_0] a0.Key.F F) (h0_1 : Yo.rd w [w0_1] a0.Key.T F) (h0_2 : Kd.flt.rd w [w0_2] a0.Value.F F) (h0_3 : Yo.rd w [w0_3] a0.Value.T F) (r : (List Int)) (m : impl_TupleBytes.f a0 = some r) :
  Calls prog 90 #[(.agg #[(iI a0.Xmin), (iI a0.Xmax), (iI a0.Key.Kind), (iI a0.Key.N), w0_0, w0_1, (iI a0.Value.Kind), (iI a0.Value.N), w0_2, w0_3])] w (RT (impl_TupleBytes.Q w F) r) := by
 obtain ⟨s0, rfl, kp0, z⟩ := Xk w F
 have A0_0 := fl_of h0_0
 have A0_1 := z.rd h0_1
 have A0_2 := fl_of h0_2
 have A0_3 := z.rd h0_3
 refine Xd (args := [(.agg #[(iI a0.Xmin), (iI a0.Xmax), (iI a0.Key.Kind), (iI a0.Key.N), w0_0, w0_1, (iI a0.Value.Kind), (iI a0.Value.N), w0_2, w0_3])]) func90 ntmps90 rfl rfl m ?_
 unfold impl_TupleBytes.f
 refine sr (bx' (cs := [(iI a0.Xmin), (iI a0.Xmax), (iI a0.Key.Kind), (iI a0.Key.N), w0_0, w0_1, (iI a0.Value.Kind), (iI a0.Value.N), w0_2, w0_3]) 40 rfl rfl (fun b3 s3 p3 B3 => ?_))
 refine Xc rfl (dn (sq (sr (Xw (es := [(iI a0.Xmin), (iI a0.Xmax), (iI a0.Key.Kind), (iI a0.Key.N), w0_0, w0_1, (iI a0.Value.Kind), (iI a0.Value.N), w0_2, w0_3]) B3 u79 z79 rfl ?_))))
 have K5 := kp0.st p3 rfl
 refine Ym 41 rfl func88 rfl (impl_TupleOk.calls a0 s3.w (mm [0] s3) w0_0 w0_1 w0_2 w0_3 ((Ye (s := s3) A0_0).sub (D := [0]) rfl) (A0_1.kp K5) ((Ye (s := s3) A0_2).sub (D := [0]) rfl) (A0_3.kp K5)) (fun r8 s9 p9 n9 => ?_)
 refine Xc rfl (dn (cd rfl (fun h10 => ?_) (fun h10 => ?_)))
 ·
  refine sr (Xc rfl (dn ?_))
  have K11 := K5.st p9 rfl
  exact re rfl func90 rfl (Xs rfl Xe) rfl ⟨_, rfl, (Yk 5 (Kd.int .u8) s9 40).fo K11 rfl z.l, z.ky K11⟩
 refine sk (sq (zdraw [[], [0], [1], [], [3], [4, 2], [2, 5, 0, 1, 2], [5, 6, 0, 1, 2, 3, 4, 5, 6]] [some 8, some 9, some 10, some 11, some 12, some 13, some 3, some 4] [[1], [8], [9], [1], [11], [12], [10], [13]] [0, 1, 2, 3, 4, 5, 6, 7] ⟨by kernel_rfl, by kernel_rfl, by kernel_rfl⟩ (by kernel_rfl) (fun s12 p12 l12 tb12 zd12 => ?_)))
 refine Yc 2 [some 12, some 11] tb12 ((((zd12.add 0 8 (pO b3 2) rfl).add 1 9 (.agg #[(iI a0.Key.Kind), (iI a0.Key.N), w0_0, w0_1]) rfl).add 3 11 (pO b3 6) rfl).add 4 12 (.agg #[(iI a0.Value.Kind), (iI a0.Value.N), w0_2, w0_3]) rfl) (Xa (lda_q' (es := [(iI a0.Value.Kind), (iI a0.Value.N), w0_2, w0_3]) (B3.st (Xq p9 p12) rfl) u77 z77 rfl) rfl (Xa (Xr fa79_3 rfl) rfl (Xa (lda_q' (es := [(iI a0.Key.Kind), (iI a0.Key.N), w0_0, w0_1]) (B3.st (Xq p9 p12) rfl) u77 z77 rfl) rfl (Xa (Xr fa79_2 rfl) rfl Xg)))) (by kernel_rfl) rfl (fun l19 e19 zd19 => ?_)
 have K22 := K5.st (Xq p9 p12) rfl
 refine clO 42 rfl func113 rfl (impl_KeyBytes.calls a0.Key s12.w (mm [0] s12) w0_0 w0_1 ((Ye (s := s12) A0_0).sub (D := [0]) rfl) (A0_1.kp K22)) (fun r24 v24_0 s25 p25 A24_0 => ?_)
 refine Xl (L' := [4, 3]) (D' := [0, 1, 2]) zd19 rfl (fun zd27 => ?_)
 refine zfin [5, 6, 7] tb12 zd27 (Xa (lda_q' (es := [(iI a0.Value.Kind), (iI a0.Value.N), w0_2, w0_3]) (B3.st (Yi p9 p12 p25) rfl) u77 z77 rfl) rfl (Xa (Xr fa79_3 rfl) rfl Xg)) (by kernel_rfl) (by decide) ?_
 have K29 := K22.st p25 rfl
 refine clO 43 rfl func116 rfl (impl_ValueBytes.calls a0.Value s25.w (mm [0] s25) w0_2 w0_3 ((Ye (s := s25) A0_2).sub (D := [0]) rfl) (A0_3.kp K29)) (fun r31 v31_0 s32 p32 A31_0 => ?_)
 refine Yd v24_0 rfl (Yd v31_0 rfl (dn (sq (zdraw [[], [0], [1], [], [3], [4, 2], [], [6], [7], [8], [], [], [11], [12], [13], [], [2, 5, 9, 10, 14, 15], [16, 5], [17, 17, 0, 1, 2, 3, 4, 5, 6, 7, 8, 9, 10, 11, 12, 13, 14, 15, 16, 17]] [some 14, some 15, some 16, some 17, some 18, some 19, some 20, some 21, some 22, some 23, some 24, some 25, some 26, some 27, some 28, some 29, some 30, some 31, some 2] [[1], [14], [15], [1], [17], [18], [3], [20], [21], [22], [3], [4], [25], [26], [27], [4], [16, 19, 23, 24, 28, 29], [30], [31]] [0, 1, 2, 3, 4, 5, 6, 7, 8, 9, 10, 11, 12, 13, 14, 15, 16, 17, 18] ⟨by kernel_rfl, by kernel_rfl, by kernel_rfl⟩ (by kernel_rfl) (fun s34 p34 l34 tb34 zd34 => ?_)))))
 have zd37 := (zd34.add 0 14 (pB b3) rfl).add 1 15 (iI a0.Xmin) rfl
 refine ji [16, 17, 18] (fun (y51 : (List Int) × (List Int) × (List Int) × (List Int)) e w => ∃ (s : St) (e0 : Env) (vy51_0 vy51_1 vy51_2 vy51_3 : Value), w = s.w ∧ e = upd (upd (upd (upd (upd (upd e0 16 vy51_0) 19 vy51_1) 23 vy51_2) 24 v24_0) 28 vy51_3) 29 v31_0 ∧ Kp s0 s ∧ OwF Yo s [vy51_0] y51.1 44 ∧ OwF Yo s [vy51_1] y51.2.1 45 ∧ OwF Yo s [vy51_2] y51.2.2.1 46 ∧ OwF Yo s [vy51_3] y51.2.2.2 47 ∧ OwF Yo s [v24_0] r24 42 ∧ OwF Yo s [v31_0] r31 43) (fun Gj51 Kj51 => ?_) ?_
 ·
  refine zstep3 2 9 14 [some 29, some 27, some 26, some 25, some 24, some 22, some 21, some 20, some 18, some 17] [some 29, some 27, some 26, some 25, some 24, some 18, some 17, some 15, some 14] [some 29, some 24, some 22, some 21, some 20, some 18, some 17, some 15, some 14] tb34 ((((((((((zd37.add 3 17 (pO b3 1) rfl).add 4 18 (iI a0.Xmax) rfl).add 6 20 v24_0 rfl).add 7 21 (iI (r24.length : Int)) rfl).add 8 22 (.int .u8 (IntKind.wrap .u8 (r24.length : Int))) rfl).add 10 24 v24_0 rfl).add 11 25 v31_0 rfl).add 12 26 (iI (r31.length : Int)) rfl).add 13 27 (.int .u8 (IntKind.wrap .u8 (r31.length : Int))) rfl).add 15 29 v31_0 rfl) (Xa (Xn v31_0 rfl) rfl (Xa (cv_q u5 u3 rfl rfl rfl rfl rfl rfl) rfl (Xa (ln_q (A31_0.st p34 rfl).rd u25 rfl rfl rfl rfl rfl rfl) rfl (Xa (Xn v31_0 rfl) rfl (Xa (Xn v24_0 rfl) rfl (Xa (cv_q u5 u3 rfl rfl rfl rfl rfl rfl) rfl (Xa (ln_q (A24_0.st (Xq p32 p34) rfl).rd u25 rfl rfl rfl rfl rfl rfl) rfl (Xa (Xn v24_0 rfl) rfl (Xa (Xp (B3.st (tr5 p9 p12 p25 p32 p34) rfl) u3 rfl) rfl (Xa (Xr fa79_1 rfl) rfl (Xa (Xp (B3.st (tr5 p9 p12 p25 p32 p34) rfl) u3 rfl) rfl (Xa (Xr fa79_0 rfl) rfl Xg)))))))))))) (by kernel_rfl) (by kernel_rfl) (fun l52 e52 zd52 => ?_) (fun l53 e53 zd53 => ?_) (fun l54 e54 zd54 => ?_)
  ·
   refine clO 48 rfl func118 rfl (impl_PutNum.calls a0.Xmin (4 : Int) s34.w (mm [] s34)) (fun r59 v59_0 s60 p60 A59_0 => ?_)
   refine Xl (L' := [15, 13, 12, 11, 10, 8, 7, 6, 4, 3]) (D' := [0, 1, 2]) zd52 rfl (fun zd62 => ?_)
   refine zstep3 5 9 14 [some 29, some 27, some 26, some 25, some 24, some 22, some 21, some 20] [some 29, some 27, some 26, some 25, some 24, some 18, some 17] [some 29, some 24, some 22, some 21, some 20, some 18, some 17] tb34 zd62 (Xa (Xn v31_0 rfl) rfl (Xa (cv_q u5 u3 rfl rfl rfl rfl rfl rfl) rfl (Xa (ln_q (A31_0.st (Xq p34 p60) rfl).rd u25 rfl rfl rfl rfl rfl rfl) rfl (Xa (Xn v31_0 rfl) rfl (Xa (Xn v24_0 rfl) rfl (Xa (cv_q u5 u3 rfl rfl rfl rfl rfl rfl) rfl (Xa (ln_q (A24_0.st (Yi p32 p34 p60) rfl).rd u25 rfl rfl rfl rfl rfl rfl) rfl (Xa (Xn v24_0 rfl) rfl (Xa (Xp (B3.st (tr6 p9 p12 p25 p32 p34 p60) rfl) u3 rfl) rfl (Xa (Xr fa79_1 rfl) rfl Xg)))))))))) (by kernel_rfl) (by kernel_rfl) (fun l63 e63 zd63 => ?_) (fun l64 e64 zd64 => ?_) (fun l65 e65 zd65 => ?_)
   ·
    refine clO 49 rfl func118 rfl (impl_PutNum.calls a0.Xmax (4 : Int) s60.w (mm [] s60)) (fun r69 v69_0 s70 p70 A69_0 => ?_)
    refine Xl (L' := [15, 13, 12, 11, 10, 8, 7, 6]) (D' := [3, 4, 5, 0, 1, 2]) zd63 rfl (fun zd72 => ?_)
    refine zstep2 9 14 [some 29, some 27, some 26, some 25, some 24] [some 29, some 24, some 22, some 21, some 20] tb34 zd72 (Xa (Xn v31_0 rfl) rfl (Xa (cv_q u5 u3 rfl rfl rfl rfl rfl rfl) rfl (Xa (ln_q (A31_0.st (Yi p34 p60 p70) rfl).rd u25 rfl rfl rfl rfl rfl rfl) rfl (Xa (Xn v31_0 rfl) rfl (Xa (Xn v24_0 rfl) rfl (Xa (cv_q u5 u3 rfl rfl rfl rfl rfl rfl) rfl (Xa (ln_q (A24_0.st (tr4 p32 p34 p60 p70) rfl).rd u25 rfl rfl rfl rfl rfl rfl) rfl (Xa (Xn v24_0 rfl) rfl Xg)))))))) (by kernel_rfl) (by kernel_rfl) (fun l73 e73 zd73 => ?_) (fun l74 e74 zd74 => ?_)
    ·
     refine ltF' (K := (Kd.int .u8)) (cells := [(.int .u8 (IntKind.wrap .u8 (r24.length : Int)))]) [(IntKind.wrap .u8 (r24.length : Int))] 50 Xv u25 z5 o5 (fun w => (Yf _ _ _)) rfl (fun v77 s77 p77 A77 => ?_)
     refine Xl (L' := [15, 13, 12, 11, 10]) (D' := [6, 7, 8, 9, 3, 4, 5, 0, 1, 2]) zd73 rfl (fun zd79 => ?_)
     refine Yc 14 [some 29, some 24] tb34 zd79 (Xa (Xn v31_0 rfl) rfl (Xa (cv_q u5 u3 rfl rfl rfl rfl rfl rfl) rfl (Xa (ln_q (A31_0.st (tr4 p34 p60 p70 p77) rfl).rd u25 rfl rfl rfl rfl rfl rfl) rfl (Xa (Xn v31_0 rfl) rfl (Xa (Xn v24_0 rfl) rfl Xg))))) (by kernel_rfl) rfl (fun l80 e80 zd80 => ?_)
     refine ltF' (K := (Kd.int .u8)) (cells := [(.int .u8 (IntKind.wrap .u8 (r31.length : Int)))]) [(IntKind.wrap .u8 (r31.length : Int))] 51 Xv u25 z5 o5 (fun w => (Yf _ _ _)) rfl (fun v82 s82 p82 A82 => ?_)
     refine Xl (L' := [15, 10]) (D' := [11, 12, 13, 14, 6, 7, 8, 9, 3, 4, 5, 0, 1, 2]) zd80 rfl (fun zd84 => ?_)
     refine zfin [16, 17, 18] tb34 zd84 (Xa (Xn v31_0 rfl) rfl (Xa (Xn v24_0 rfl) rfl Xg)) (by kernel_rfl) (by decide) ?_
     obtain ⟨s86, hw86, p86, A86⟩ := (A59_0.st (Yi p70 p77 p82) rfl).rc 44 rfl
     rw [hw86]
     obtain ⟨s88, hw88, p88, A88⟩ := (A69_0.st (Yi p77 p82 p86) rfl).rc 45 rfl
     rw [hw88]
     obtain ⟨s90, hw90, p90, A90⟩ := (A77.st (Yi p82 p86 p88) rfl).rc 46 rfl
     rw [hw90]
     obtain ⟨s92, hw92, p92, A92⟩ := (A82.st (Yi p86 p88 p90) rfl).rc 47 rfl
     rw [hw92]
     exact Kj51 _ _ _ ⟨s92, _, v59_0, v69_0, v77, v82, rfl, (ue (ue (ue (ue (ue (ue rfl rfl) rfl) rfl) rfl) rfl) rfl), (K29.st (tr10 p32 p34 p60 p70 p77 p82 p86 p88 p90 p92) rfl), (A86.st (Yi p88 p90 p92) rfl), (A88.st (Xq p90 p92) rfl), (A90.st p92 rfl), A92, (A24_0.st (tr10 p32 p34 p60 p70 p77 p82 p86 p88 p90 p92) rfl), (A31_0.st (tr9 p34 p60 p70 p77 p82 p86 p88 p90 p92) rfl)⟩
    refine ltF' (K := (Kd.int .u8)) (cells := [(.int .u8 (IntKind.wrap .u8 (r31.length : Int)))]) [(IntKind.wrap .u8 (r31.length : Int))] 52 Xv u25 z5 o5 (fun w => (Yf _ _ _)) rfl (fun v99 s99 p99 A99 => ?_)
    refine Xl (L' := [15, 10, 8, 7, 6]) (D' := [11, 12, 13, 14, 3, 4, 5, 0, 1, 2]) zd74 rfl (fun zd101 => ?_)
    refine Yc 9 [some 29, some 24] tb34 zd101 (Xa (Xn v31_0 rfl) rfl (Xa (Xn v24_0 rfl) rfl (Xa (cv_q u5 u3 rfl rfl rfl rfl rfl rfl) rfl (Xa (ln_q (A24_0.st (tr5 p32 p34 p60 p70 p99) rfl).rd u25 rfl rfl rfl rfl rfl rfl) rfl (Xa (Xn v24_0 rfl) rfl Xg))))) (by kernel_rfl) rfl (fun l102 e102 zd102 => ?_)
    refine ltF' (K := (Kd.int .u8)) (cells := [(.int .u8 (IntKind.wrap .u8 (r24.length : Int)))]) [(IntKind.wrap .u8 (r24.length : Int))] 53 Xv u25 z5 o5 (fun w => (Yf _ _ _)) rfl (fun v104 s104 p104 A104 => ?_)
    refine Xl (L' := [15, 10]) (D' := [6, 7, 8, 9, 11, 12, 13, 14, 3, 4, 5, 0, 1, 2]) zd102 rfl (fun zd106 => ?_)
    refine zfin [16, 17, 18] tb34 zd106 (Xa (Xn v31_0 rfl) rfl (Xa (Xn v24_0 rfl) rfl Xg)) (by kernel_rfl) (by decide) ?_
    obtain ⟨s108, hw108, p108, A108⟩ := (A59_0.st (Yi p70 p99 p104) rfl).rc 44 rfl
    rw [hw108]
    obtain ⟨s110, hw110, p110, A110⟩ := (A69_0.st (Yi p99 p104 p108) rfl).rc 45 rfl
    rw [hw110]
    obtain ⟨s112, hw112, p112, A112⟩ := (A104.st (Xq p108 p110) rfl).rc 46 rfl
    rw [hw112]
    obtain ⟨s114, hw114, p114, A114⟩ := (A99.st (tr4 p104 p108 p110 p112) rfl).rc 47 rfl
    rw [hw114]
    exact Kj51 _ _ _ ⟨s114, _, v59_0, v69_0, v104, v99, rfl, (ue (ue (ue (ue (ue (ue rfl rfl) rfl) rfl) rfl) rfl) rfl), (K29.st (tr10 p32 p34 p60 p70 p99 p104 p108 p110 p112 p114) rfl), (A108.st (Yi p110 p112 p114) rfl), (A110.st (Xq p112 p114) rfl), (A112.st p114 rfl), A114, (A24_0.st (tr10 p32 p34 p60 p70 p99 p104 p108 p110 p112 p114) rfl), (A31_0.st (tr9 p34 p60 p70 p99 p104 p108 p110 p112 p114) rfl)⟩
   ·
    refine ltF' (K := (Kd.int .u8)) (cells := [(.int .u8 (IntKind.wrap .u8 (r24.length : Int)))]) [(IntKind.wrap .u8 (r24.length : Int))] 54 Xv u25 z5 o5 (fun w => (Yf _ _ _)) rfl (fun v121 s121 p121 A121 => ?_)
    refine Xl (L' := [15, 13, 12, 11, 10, 4, 3]) (D' := [6, 7, 8, 9, 0, 1, 2]) zd64 rfl (fun zd123 => ?_)
    refine zstep2 5 14 [some 29, some 27, some 26, some 25, some 24] [some 29, some 24, some 18, some 17] tb34 zd123 (Xa (Xn v31_0 rfl) rfl (Xa (cv_q u5 u3 rfl rfl rfl rfl rfl rfl) rfl (Xa (ln_q (A31_0.st (Yi p34 p60 p121) rfl).rd u25 rfl rfl rfl rfl rfl rfl) rfl (Xa (Xn v31_0 rfl) rfl (Xa (Xn v24_0 rfl) rfl (Xa (Xp (B3.st (tr7 p9 p12 p25 p32 p34 p60 p121) rfl) u3 rfl) rfl (Xa (Xr fa79_1 rfl) rfl Xg))))))) (by kernel_rfl) (by kernel_rfl) (fun l124 e124 zd124 => ?_) (fun l125 e125 zd125 => ?_)
    ·
     refine clO 55 rfl func118 rfl (impl_PutNum.calls a0.Xmax (4 : Int) s121.w (mm [] s121)) (fun r128 v128_0 s129 p129 A128_0 => ?_)
     refine Xl (L' := [15, 13, 12, 11, 10]) (D' := [3, 4, 5, 6, 7, 8, 9, 0, 1, 2]) zd124 rfl (fun zd131 => ?_)
     refine Yc 14 [some 29, some 24] tb34 zd131 (Xa (Xn v31_0 rfl) rfl (Xa (cv_q u5 u3 rfl rfl rfl rfl rfl rfl) rfl (Xa (ln_q (A31_0.st (tr4 p34 p60 p121 p129) rfl).rd u25 rfl rfl rfl rfl rfl rfl) rfl (Xa (Xn v31_0 rfl) rfl (Xa (Xn v24_0 rfl) rfl Xg))))) (by kernel_rfl) rfl (fun l132 e132 zd132 => ?_)
     refine ltF' (K := (Kd.int .u8)) (cells := [(.int .u8 (IntKind.wrap .u8 (r31.length : Int)))]) [(IntKind.wrap .u8 (r31.length : Int))] 56 Xv u25 z5 o5 (fun w => (Yf _ _ _)) rfl (fun v134 s134 p134 A134 => ?_)
     refine Xl (L' := [15, 10]) (D' := [11, 12, 13, 14, 3, 4, 5, 6, 7, 8, 9, 0, 1, 2]) zd132 rfl (fun zd136 => ?_)
     refine zfin [16, 17, 18] tb34 zd136 (Xa (Xn v31_0 rfl) rfl (Xa (Xn v24_0 rfl) rfl Xg)) (by kernel_rfl) (by decide) ?_
     obtain ⟨s138, hw138, p138, A138⟩ := (A59_0.st (Yi p121 p129 p134) rfl).rc 44 rfl
     rw [hw138]
     obtain ⟨s140, hw140, p140, A140⟩ := (A128_0.st (Xq p134 p138) rfl).rc 45 rfl
     rw [hw140]
     obtain ⟨s142, hw142, p142, A142⟩ := (A121.st (tr4 p129 p134 p138 p140) rfl).rc 46 rfl
     rw [hw142]
     obtain ⟨s144, hw144, p144, A144⟩ := (A134.st (Yi p138 p140 p142) rfl).rc 47 rfl
     rw [hw144]
     exact Kj51 _ _ _ ⟨s144, _, v59_0, v128_0, v121, v134, rfl, (ue (ue (ue (ue (ue (ue rfl rfl) rfl) rfl) rfl) rfl) rfl), (K29.st (tr10 p32 p34 p60 p121 p129 p134 p138 p140 p142 p144) rfl), (A138.st (Yi p140 p142 p144) rfl), (A140.st (Xq p142 p144) rfl), (A142.st p144 rfl), A144, (A24_0.st (tr10 p32 p34 p60 p121 p129 p134 p138 p140 p142 p144) rfl), (A31_0.st (tr9 p34 p60 p121 p129 p134 p138 p140 p142 p144) rfl)⟩
    refine ltF' (K := (Kd.int .u8)) (cells := [(.int .u8 (IntKind.wrap .u8 (r31.length : Int)))]) [(IntKind.wrap .u8 (r31.length : Int))] 57 Xv u25 z5 o5 (fun w => (Yf _ _ _)) rfl (fun v151 s151 p151 A151 => ?_)
    refine Xl (L' := [15, 10, 4, 3]) (D' := [11, 12, 13, 14, 6, 7, 8, 9, 0, 1, 2]) zd125 rfl (fun zd153 => ?_)
    refine Yc 5 [some 29, some 24] tb34 zd153 (Xa (Xn v31_0 rfl) rfl (Xa (Xn v24_0 rfl) rfl (Xa (Xp (B3.st (tr8 p9 p12 p25 p32 p34 p60 p121 p151) rfl) u3 rfl) rfl (Xa (Xr fa79_1 rfl) rfl Xg)))) (by kernel_rfl) rfl (fun l154 e154 zd154 => ?_)
    refine clO 58 rfl func118 rfl (impl_PutNum.calls a0.Xmax (4 : Int) s151.w (mm [] s151)) (fun r156 v156_0 s157 p157 A156_0 => ?_)
    refine Xl (L' := [15, 10]) (D' := [3, 4, 5, 11, 12, 13, 14, 6, 7, 8, 9, 0, 1, 2]) zd154 rfl (fun zd159 => ?_)
    refine zfin [16, 17, 18] tb34 zd159 (Xa (Xn v31_0 rfl) rfl (Xa (Xn v24_0 rfl) rfl Xg)) (by kernel_rfl) (by decide) ?_
    obtain ⟨s161, hw161, p161, A161⟩ := (A59_0.st (Yi p121 p151 p157) rfl).rc 44 rfl
    rw [hw161]
    obtain ⟨s163, hw163, p163, A163⟩ := (A156_0.st p161 rfl).rc 45 rfl
    rw [hw163]
    obtain ⟨s165, hw165, p165, A165⟩ := (A121.st (tr4 p151 p157 p161 p163) rfl).rc 46 rfl
    rw [hw165]
    obtain ⟨s167, hw167, p167, A167⟩ := (A151.st (tr4 p157 p161 p163 p165) rfl).rc 47 rfl
    rw [hw167]
    exact Kj51 _ _ _ ⟨s167, _, v59_0, v156_0, v121, v151, rfl, (ue (ue (ue (ue (ue (ue rfl rfl) rfl) rfl) rfl) rfl) rfl), (K29.st (tr10 p32 p34 p60 p121 p151 p157 p161 p163 p165 p167) rfl), (A161.st (Yi p163 p165 p167) rfl), (A163.st (Xq p165 p167) rfl), (A165.st p167 rfl), A167, (A24_0.st (tr10 p32 p34 p60 p121 p151 p157 p161 p163 p165 p167) rfl), (A31_0.st (tr9 p34 p60 p121 p151 p157 p161 p163 p165 p167) rfl)⟩
   refine ltF' (K := (Kd.int .u8)) (cells := [(.int .u8 (IntKind.wrap .u8 (r31.length : Int)))]) [(IntKind.wrap .u8 (r31.length : Int))] 59 Xv u25 z5 o5 (fun w => (Yf _ _ _)) rfl (fun v174 s174 p174 A174 => ?_)
   refine Xl (L' := [15, 10, 8, 7, 6, 4, 3]) (D' := [11, 12, 13, 14, 0, 1, 2]) zd65 rfl (fun zd176 => ?_)
   refine zstep2 5 9 [some 29, some 24, some 22, some 21, some 20] [some 29, some 24, some 18, some 17] tb34 zd176 (Xa (Xn v31_0 rfl) rfl (Xa (Xn v24_0 rfl) rfl (Xa (cv_q u5 u3 rfl rfl rfl rfl rfl rfl) rfl (Xa (ln_q (A24_0.st (tr4 p32 p34 p60 p174) rfl).rd u25 rfl rfl rfl rfl rfl rfl) rfl (Xa (Xn v24_0 rfl) rfl (Xa (Xp (B3.st (tr7 p9 p12 p25 p32 p34 p60 p174) rfl) u3 rfl) rfl (Xa (Xr fa79_1 rfl) rfl Xg))))))) (by kernel_rfl) (by kernel_rfl) (fun l177 e177 zd177 => ?_) (fun l178 e178 zd178 => ?_)
   ·
    refine clO 60 rfl func118 rfl (impl_PutNum.calls a0.Xmax (4 : Int) s174.w (mm [] s174)) (fun r181 v181_0 s182 p182 A181_0 => ?_)
    refine Xl (L' := [15, 10, 8, 7, 6]) (D' := [3, 4, 5, 11, 12, 13, 14, 0, 1, 2]) zd177 rfl (fun zd184 => ?_)
    refine Yc 9 [some 29, some 24] tb34 zd184 (Xa (Xn v31_0 rfl) rfl (Xa (Xn v24_0 rfl) rfl (Xa (cv_q u5 u3 rfl rfl rfl rfl rfl rfl) rfl (Xa (ln_q (A24_0.st (tr5 p32 p34 p60 p174 p182) rfl).rd u25 rfl rfl rfl rfl rfl rfl) rfl (Xa (Xn v24_0 rfl) rfl Xg))))) (by kernel_rfl) rfl (fun l185 e185 zd185 => ?_)
    refine ltF' (K := (Kd.int .u8)) (cells := [(.int .u8 (IntKind.wrap .u8 (r24.length : Int)))]) [(IntKind.wrap .u8 (r24.length : Int))] 61 Xv u25 z5 o5 (fun w => (Yf _ _ _)) rfl (fun v187 s187 p187 A187 => ?_)
    refine Xl (L' := [15, 10]) (D' := [6, 7, 8, 9, 3, 4, 5, 11, 12, 13, 14, 0, 1, 2]) zd185 rfl (fun zd189 => ?_)
    refine zfin [16, 17, 18] tb34 zd189 (Xa (Xn v31_0 rfl) rfl (Xa (Xn v24_0 rfl) rfl Xg)) (by kernel_rfl) (by decide) ?_
    obtain ⟨s191, hw191, p191, A191⟩ := (A59_0.st (Yi p174 p182 p187) rfl).rc 44 rfl
    rw [hw191]
    obtain ⟨s193, hw193, p193, A193⟩ := (A181_0.st (Xq p187 p191) rfl).rc 45 rfl
    rw [hw193]
    obtain ⟨s195, hw195, p195, A195⟩ := (A187.st (Xq p191 p193) rfl).rc 46 rfl
    rw [hw195]
    obtain ⟨s197, hw197, p197, A197⟩ := (A174.st (tr5 p182 p187 p191 p193 p195) rfl).rc 47 rfl
    rw [hw197]
    exact Kj51 _ _ _ ⟨s197, _, v59_0, v181_0, v187, v174, rfl, (ue (ue (ue (ue (ue (ue rfl rfl) rfl) rfl) rfl) rfl) rfl), (K29.st (tr10 p32 p34 p60 p174 p182 p187 p191 p193 p195 p197) rfl), (A191.st (Yi p193 p195 p197) rfl), (A193.st (Xq p195 p197) rfl), (A195.st p197 rfl), A197, (A24_0.st (tr10 p32 p34 p60 p174 p182 p187 p191 p193 p195 p197) rfl), (A31_0.st (tr9 p34 p60 p174 p182 p187 p191 p193 p195 p197) rfl)⟩
   refine ltF' (K := (Kd.int .u8)) (cells := [(.int .u8 (IntKind.wrap .u8 (r24.length : Int)))]) [(IntKind.wrap .u8 (r24.length : Int))] 62 Xv u25 z5 o5 (fun w => (Yf _ _ _)) rfl (fun v204 s204 p204 A204 => ?_)
   refine Xl (L' := [15, 10, 4, 3]) (D' := [6, 7, 8, 9, 11, 12, 13, 14, 0, 1, 2]) zd178 rfl (fun zd206 => ?_)
   refine Yc 5 [some 29, some 24] tb34 zd206 (Xa (Xn v31_0 rfl) rfl (Xa (Xn v24_0 rfl) rfl (Xa (Xp (B3.st (tr8 p9 p12 p25 p32 p34 p60 p174 p204) rfl) u3 rfl) rfl (Xa (Xr fa79_1 rfl) rfl Xg)))) (by kernel_rfl) rfl (fun l207 e207 zd207 => ?_)
   refine clO 63 rfl func118 rfl (impl_PutNum.calls a0.Xmax (4 : Int) s204.w (mm [] s204)) (fun r209 v209_0 s210 p210 A209_0 => ?_)
   refine Xl (L' := [15, 10]) (D' := [3, 4, 5, 6, 7, 8, 9, 11, 12, 13, 14, 0, 1, 2]) zd207 rfl (fun zd212 => ?_)
   refine zfin [16, 17, 18] tb34 zd212 (Xa (Xn v31_0 rfl) rfl (Xa (Xn v24_0 rfl) rfl Xg)) (by kernel_rfl) (by decide) ?_
   obtain ⟨s214, hw214, p214, A214⟩ := (A59_0.st (Yi p174 p204 p210) rfl).rc 44 rfl
   rw [hw214]
   obtain ⟨s216, hw216, p216, A216⟩ := (A209_0.st p214 rfl).rc 45 rfl
   rw [hw216]
   obtain ⟨s218, hw218, p218, A218⟩ := (A204.st (Yi p210 p214 p216) rfl).rc 46 rfl
   rw [hw218]
   obtain ⟨s220, hw220, p220, A220⟩ := (A174.st (tr5 p204 p210 p214 p216 p218) rfl).rc 47 rfl
   rw [hw220]
   exact Kj51 _ _ _ ⟨s220, _, v59_0, v209_0, v204, v174, rfl, (ue (ue (ue (ue (ue (ue rfl rfl) rfl) rfl) rfl) rfl) rfl), (K29.st (tr10 p32 p34 p60 p174 p204 p210 p214 p216 p218 p220) rfl), (A214.st (Yi p216 p218 p220) rfl), (A216.st (Xq p218 p220) rfl), (A218.st p220 rfl), A220, (A24_0.st (tr10 p32 p34 p60 p174 p204 p210 p214 p216 p218 p220) rfl), (A31_0.st (tr9 p34 p60 p174 p204 p210 p214 p216 p218 p220) rfl)⟩
  ·
   refine ltF' (K := (Kd.int .u8)) (cells := [(.int .u8 (IntKind.wrap .u8 (r24.length : Int)))]) [(IntKind.wrap .u8 (r24.length : Int))] 64 Xv u25 z5 o5 (fun w => (Yf _ _ _)) rfl (fun v227 s227 p227 A227 => ?_)
   refine Xl (L' := [15, 13, 12, 11, 10, 4, 3, 1, 0]) (D' := [6, 7, 8, 9]) zd53 rfl (fun zd229 => ?_)
   refine zstep2 2 14 [some 29, some 27, some 26, some 25, some 24, some 18, some 17] [some 29, some 24, some 18, some 17, some 15, some 14] tb34 zd229 (Xa (Xn v31_0 rfl) rfl (Xa (cv_q u5 u3 rfl rfl rfl rfl rfl rfl) rfl (Xa (ln_q (A31_0.st (Xq p34 p227) rfl).rd u25 rfl rfl rfl rfl rfl rfl) rfl (Xa (Xn v31_0 rfl) rfl (Xa (Xn v24_0 rfl) rfl (Xa (Xp (B3.st (tr6 p9 p12 p25 p32 p34 p227) rfl) u3 rfl) rfl (Xa (Xr fa79_1 rfl) rfl (Xa (Xp (B3.st (tr6 p9 p12 p25 p32 p34 p227) rfl) u3 rfl) rfl (Xa (Xr fa79_0 rfl) rfl Xg))))))))) (by kernel_rfl) (by kernel_rfl) (fun l230 e230 zd230 => ?_) (fun l231 e231 zd231 => ?_)
   ·
    refine clO 65 rfl func118 rfl (impl_PutNum.calls a0.Xmin (4 : Int) s227.w (mm [] s227)) (fun r235 v235_0 s236 p236 A235_0 => ?_)
    refine Xl (L' := [15, 13, 12, 11, 10, 4, 3]) (D' := [0, 1, 2, 6, 7, 8, 9]) zd230 rfl (fun zd238 => ?_)
    refine zstep2 5 14 [some 29, some 27, some 26, some 25, some 24] [some 29, some 24, some 18, some 17] tb34 zd238 (Xa (Xn v31_0 rfl) rfl (Xa (cv_q u5 u3 rfl rfl rfl rfl rfl rfl) rfl (Xa (ln_q (A31_0.st (Yi p34 p227 p236) rfl).rd u25 rfl rfl rfl rfl rfl rfl) rfl (Xa (Xn v31_0 rfl) rfl (Xa (Xn v24_0 rfl) rfl (Xa (Xp (B3.st (tr7 p9 p12 p25 p32 p34 p227 p236) rfl) u3 rfl) rfl (Xa (Xr fa79_1 rfl) rfl Xg))))))) (by kernel_rfl) (by kernel_rfl) (fun l239 e239 zd239 => ?_) (fun l240 e240 zd240 => ?_)
    ·
     refine clO 66 rfl func118 rfl (impl_PutNum.calls a0.Xmax (4 : Int) s236.w (mm [] s236)) (fun r243 v243_0 s244 p244 A243_0 => ?_)
     refine Xl (L' := [15, 13, 12, 11, 10]) (D' := [3, 4, 5, 0, 1, 2, 6, 7, 8, 9]) zd239 rfl (fun zd246 => ?_)
     refine Yc 14 [some 29, some 24] tb34 zd246 (Xa (Xn v31_0 rfl) rfl (Xa (cv_q u5 u3 rfl rfl rfl rfl rfl rfl) rfl (Xa (ln_q (A31_0.st (tr4 p34 p227 p236 p244) rfl).rd u25 rfl rfl rfl rfl rfl rfl) rfl (Xa (Xn v31_0 rfl) rfl (Xa (Xn v24_0 rfl) rfl Xg))))) (by kernel_rfl) rfl (fun l247 e247 zd247 => ?_)
     refine ltF' (K := (Kd.int .u8)) (cells := [(.int .u8 (IntKind.wrap .u8 (r31.length : Int)))]) [(IntKind.wrap .u8 (r31.length : Int))] 67 Xv u25 z5 o5 (fun w => (Yf _ _ _)) rfl (fun v249 s249 p249 A249 => ?_)
     refine Xl (L' := [15, 10]) (D' := [11, 12, 13, 14, 3, 4, 5, 0, 1, 2, 6, 7, 8, 9]) zd247 rfl (fun zd251 => ?_)
     refine zfin [16, 17, 18] tb34 zd251 (Xa (Xn v31_0 rfl) rfl (Xa (Xn v24_0 rfl) rfl Xg)) (by kernel_rfl) (by decide) ?_
     obtain ⟨s253, hw253, p253, A253⟩ := (A235_0.st (Xq p244 p249) rfl).rc 44 rfl
     rw [hw253]
     obtain ⟨s255, hw255, p255, A255⟩ := (A243_0.st (Xq p249 p253) rfl).rc 45 rfl
     rw [hw255]
     obtain ⟨s257, hw257, p257, A257⟩ := (A227.st (tr5 p236 p244 p249 p253 p255) rfl).rc 46 rfl
     rw [hw257]
     obtain ⟨s259, hw259, p259, A259⟩ := (A249.st (Yi p253 p255 p257) rfl).rc 47 rfl
     rw [hw259]
     exact Kj51 _ _ _ ⟨s259, _, v235_0, v243_0, v227, v249, rfl, (ue (ue (ue (ue (ue (ue rfl rfl) rfl) rfl) rfl) rfl) rfl), (K29.st (tr10 p32 p34 p227 p236 p244 p249 p253 p255 p257 p259) rfl), (A253.st (Yi p255 p257 p259) rfl), (A255.st (Xq p257 p259) rfl), (A257.st p259 rfl), A259, (A24_0.st (tr10 p32 p34 p227 p236 p244 p249 p253 p255 p257 p259) rfl), (A31_0.st (tr9 p34 p227 p236 p244 p249 p253 p255 p257 p259) rfl)⟩
    refine ltF' (K := (Kd.int .u8)) (cells := [(.int .u8 (IntKind.wrap .u8 (r31.length : Int)))]) [(IntKind.wrap .u8 (r31.length : Int))] 68 Xv u25 z5 o5 (fun w => (Yf _ _ _)) rfl (fun v266 s266 p266 A266 => ?_)
    refine Xl (L' := [15, 10, 4, 3]) (D' := [11, 12, 13, 14, 0, 1, 2, 6, 7, 8, 9]) zd240 rfl (fun zd268 => ?_)
    refine Yc 5 [some 29, some 24] tb34 zd268 (Xa (Xn v31_0 rfl) rfl (Xa (Xn v24_0 rfl) rfl (Xa (Xp (B3.st (tr8 p9 p12 p25 p32 p34 p227 p236 p266) rfl) u3 rfl) rfl (Xa (Xr fa79_1 rfl) rfl Xg)))) (by kernel_rfl) rfl (fun l269 e269 zd269 => ?_)
    refine clO 69 rfl func118 rfl (impl_PutNum.calls a0.Xmax (4 : Int) s266.w (mm [] s266)) (fun r271 v271_0 s272 p272 A271_0 => ?_)
    refine Xl (L' := [15, 10]) (D' := [3, 4, 5, 11, 12, 13, 14, 0, 1, 2, 6, 7, 8, 9]) zd269 rfl (fun zd274 => ?_)
    refine zfin [16, 17, 18] tb34 zd274 (Xa (Xn v31_0 rfl) rfl (Xa (Xn v24_0 rfl) rfl Xg)) (by kernel_rfl) (by decide) ?_
    obtain ⟨s276, hw276, p276, A276⟩ := (A235_0.st (Xq p266 p272) rfl).rc 44 rfl
    rw [hw276]
    obtain ⟨s278, hw278, p278, A278⟩ := (A271_0.st p276 rfl).rc 45 rfl
    rw [hw278]
    obtain ⟨s280, hw280, p280, A280⟩ := (A227.st (tr5 p236 p266 p272 p276 p278) rfl).rc 46 rfl
    rw [hw280]
    obtain ⟨s282, hw282, p282, A282⟩ := (A266.st (tr4 p272 p276 p278 p280) rfl).rc 47 rfl
    rw [hw282]
    exact Kj51 _ _ _ ⟨s282, _, v235_0, v271_0, v227, v266, rfl, (ue (ue (ue (ue (ue (ue rfl rfl) rfl) rfl) rfl) rfl) rfl), (K29.st (tr10 p32 p34 p227 p236 p266 p272 p276 p278 p280 p282) rfl), (A276.st (Yi p278 p280 p282) rfl), (A278.st (Xq p280 p282) rfl), (A280.st p282 rfl), A282, (A24_0.st (tr10 p32 p34 p227 p236 p266 p272 p276 p278 p280 p282) rfl), (A31_0.st (tr9 p34 p227 p236 p266 p272 p276 p278 p280 p282) rfl)⟩
   refine ltF' (K := (Kd.int .u8)) (cells := [(.int .u8 (IntKind.wrap .u8 (r31.length : Int)))]) [(IntKind.wrap .u8 (r31.length : Int))] 70 Xv u25 z5 o5 (fun w => (Yf _ _ _)) rfl (fun v289 s289 p289 A289 => ?_)
   refine Xl (L' := [15, 10, 4, 3, 1, 0]) (D' := [11, 12, 13, 14, 6, 7, 8, 9]) zd231 rfl (fun zd291 => ?_)
   refine Yc 2 [some 29, some 24, some 18, some 17] tb34 zd291 (Xa (Xn v31_0 rfl) rfl (Xa (Xn v24_0 rfl) rfl (Xa (Xp (B3.st (tr7 p9 p12 p25 p32 p34 p227 p289) rfl) u3 rfl) rfl (Xa (Xr fa79_1 rfl) rfl (Xa (Xp (B3.st (tr7 p9 p12 p25 p32 p34 p227 p289) rfl) u3 rfl) rfl (Xa (Xr fa79_0 rfl) rfl Xg)))))) (by kernel_rfl) rfl (fun l292 e292 zd292 => ?_)
   refine clO 71 rfl func118 rfl (impl_PutNum.calls a0.Xmin (4 : Int) s289.w (mm [] s289)) (fun r295 v295_0 s296 p296 A295_0 => ?_)
   refine Xl (L' := [15, 10, 4, 3]) (D' := [0, 1, 2, 11, 12, 13, 14, 6, 7, 8, 9]) zd292 rfl (fun zd298 => ?_)
   refine Yc 5 [some 29, some 24] tb34 zd298 (Xa (Xn v31_0 rfl) rfl (Xa (Xn v24_0 rfl) rfl (Xa (Xp (B3.st (tr8 p9 p12 p25 p32 p34 p227 p289 p296) rfl) u3 rfl) rfl (Xa (Xr fa79_1 rfl) rfl Xg)))) (by kernel_rfl) rfl (fun l299 e299 zd299 => ?_)
   refine clO 72 rfl func118 rfl (impl_PutNum.calls a0.Xmax (4 : Int) s296.w (mm [] s296)) (fun r301 v301_0 s302 p302 A301_0 => ?_)
   refine Xl (L' := [15, 10]) (D' := [3, 4, 5, 0, 1, 2, 11, 12, 13, 14, 6, 7, 8, 9]) zd299 rfl (fun zd304 => ?_)
   refine zfin [16, 17, 18] tb34 zd304 (Xa (Xn v31_0 rfl) rfl (Xa (Xn v24_0 rfl) rfl Xg)) (by kernel_rfl) (by decide) ?_
   obtain ⟨s306, hw306, p306, A306⟩ := (A295_0.st p302 rfl).rc 44 rfl
   rw [hw306]
   obtain ⟨s308, hw308, p308, A308⟩ := (A301_0.st p306 rfl).rc 45 rfl
   rw [hw308]
   obtain ⟨s310, hw310, p310, A310⟩ := (A227.st (tr5 p289 p296 p302 p306 p308) rfl).rc 46 rfl
   rw [hw310]
   obtain ⟨s312, hw312, p312, A312⟩ := (A289.st (tr5 p296 p302 p306 p308 p310) rfl).rc 47 rfl
   rw [hw312]
   exact Kj51 _ _ _ ⟨s312, _, v295_0, v301_0, v227, v289, rfl, (ue (ue (ue (ue (ue (ue rfl rfl) rfl) rfl) rfl) rfl) rfl), (K29.st (tr10 p32 p34 p227 p289 p296 p302 p306 p308 p310 p312) rfl), (A306.st (Yi p308 p310 p312) rfl), (A308.st (Xq p310 p312) rfl), (A310.st p312 rfl), A312, (A24_0.st (tr10 p32 p34 p227 p289 p296 p302 p306 p308 p310 p312) rfl), (A31_0.st (tr9 p34 p227 p289 p296 p302 p306 p308 p310 p312) rfl)⟩
  refine ltF' (K := (Kd.int .u8)) (cells := [(.int .u8 (IntKind.wrap .u8 (r31.length : Int)))]) [(IntKind.wrap .u8 (r31.length : Int))] 73 Xv u25 z5 o5 (fun w => (Yf _ _ _)) rfl (fun v319 s319 p319 A319 => ?_)
  refine Xl (L' := [15, 10, 8, 7, 6, 4, 3, 1, 0]) (D' := [11, 12, 13, 14]) zd54 rfl (fun zd321 => ?_)
  refine zstep2 2 9 [some 29, some 24, some 22, some 21, some 20, some 18, some 17] [some 29, some 24, some 18, some 17, some 15, some 14] tb34 zd321 (Xa (Xn v31_0 rfl) rfl (Xa (Xn v24_0 rfl) rfl (Xa (cv_q u5 u3 rfl rfl rfl rfl rfl rfl) rfl (Xa (ln_q (A24_0.st (Yi p32 p34 p319) rfl).rd u25 rfl rfl rfl rfl rfl rfl) rfl (Xa (Xn v24_0 rfl) rfl (Xa (Xp (B3.st (tr6 p9 p12 p25 p32 p34 p319) rfl) u3 rfl) rfl (Xa (Xr fa79_1 rfl) rfl (Xa (Xp (B3.st (tr6 p9 p12 p25 p32 p34 p319) rfl) u3 rfl) rfl (Xa (Xr fa79_0 rfl) rfl Xg))))))))) (by kernel_rfl) (by kernel_rfl) (fun l322 e322 zd322 => ?_) (fun l323 e323 zd323 => ?_)
  ·
   refine clO 74 rfl func118 rfl (impl_PutNum.calls a0.Xmin (4 : Int) s319.w (mm [] s319)) (fun r327 v327_0 s328 p328 A327_0 => ?_)
   refine Xl (L' := [15, 10, 8, 7, 6, 4, 3]) (D' := [0, 1, 2, 11, 12, 13, 14]) zd322 rfl (fun zd330 => ?_)
   refine zstep2 5 9 [some 29, some 24, some 22, some 21, some 20] [some 29, some 24, some 18, some 17] tb34 zd330 (Xa (Xn v31_0 rfl) rfl (Xa (Xn v24_0 rfl) rfl (Xa (cv_q u5 u3 rfl rfl rfl rfl rfl rfl) rfl (Xa (ln_q (A24_0.st (tr4 p32 p34 p319 p328) rfl).rd u25 rfl rfl rfl rfl rfl rfl) rfl (Xa (Xn v24_0 rfl) rfl (Xa (Xp (B3.st (tr7 p9 p12 p25 p32 p34 p319 p328) rfl) u3 rfl) rfl (Xa (Xr fa79_1 rfl) rfl Xg))))))) (by kernel_rfl) (by kernel_rfl) (fun l331 e331 zd331 => ?_) (fun l332 e332 zd332 => ?_)
   ·
    refine clO 75 rfl func118 rfl (impl_PutNum.calls a0.Xmax (4 : Int) s328.w (mm [] s328)) (fun r335 v335_0 s336 p336 A335_0 => ?_)
    refine Xl (L' := [15, 10, 8, 7, 6]) (D' := [3, 4, 5, 0, 1, 2, 11, 12, 13, 14]) zd331 rfl (fun zd338 => ?_)
    refine Yc 9 [some 29, some 24] tb34 zd338 (Xa (Xn v31_0 rfl) rfl (Xa (Xn v24_0 rfl) rfl (Xa (cv_q u5 u3 rfl rfl rfl rfl rfl rfl) rfl (Xa (ln_q (A24_0.st (tr5 p32 p34 p319 p328 p336) rfl).rd u25 rfl rfl rfl rfl rfl rfl) rfl (Xa (Xn v24_0 rfl) rfl Xg))))) (by kernel_rfl) rfl (fun l339 e339 zd339 => ?_)
    refine ltF' (K := (Kd.int .u8)) (cells := [(.int .u8 (IntKind.wrap .u8 (r24.length : Int)))]) [(IntKind.wrap .u8 (r24.length : Int))] 76 Xv u25 z5 o5 (fun w => (Yf _ _ _)) rfl (fun v341 s341 p341 A341 => ?_)
    refine Xl (L' := [15, 10]) (D' := [6, 7, 8, 9, 3, 4, 5, 0, 1, 2, 11, 12, 13, 14]) zd339 rfl (fun zd343 => ?_)
    refine zfin [16, 17, 18] tb34 zd343 (Xa (Xn v31_0 rfl) rfl (Xa (Xn v24_0 rfl) rfl Xg)) (by kernel_rfl) (by decide) ?_
    obtain ⟨s345, hw345, p345, A345⟩ := (A327_0.st (Xq p336 p341) rfl).rc 44 rfl
    rw [hw345]
    obtain ⟨s347, hw347, p347, A347⟩ := (A335_0.st (Xq p341 p345) rfl).rc 45 rfl
    rw [hw347]
    obtain ⟨s349, hw349, p349, A349⟩ := (A341.st (Xq p345 p347) rfl).rc 46 rfl
    rw [hw349]
    obtain ⟨s351, hw351, p351, A351⟩ := (A319.st (tr6 p328 p336 p341 p345 p347 p349) rfl).rc 47 rfl
    rw [hw351]
    exact Kj51 _ _ _ ⟨s351, _, v327_0, v335_0, v341, v319, rfl, (ue (ue (ue (ue (ue (ue rfl rfl) rfl) rfl) rfl) rfl) rfl), (K29.st (tr10 p32 p34 p319 p328 p336 p341 p345 p347 p349 p351) rfl), (A345.st (Yi p347 p349 p351) rfl), (A347.st (Xq p349 p351) rfl), (A349.st p351 rfl), A351, (A24_0.st (tr10 p32 p34 p319 p328 p336 p341 p345 p347 p349 p351) rfl), (A31_0.st (tr9 p34 p319 p328 p336 p341 p345 p347 p349 p351) rfl)⟩
   refine ltF' (K := (Kd.int .u8)) (cells := [(.int .u8 (IntKind.wrap .u8 (r24.length : Int)))]) [(IntKind.wrap .u8 (r24.length : Int))] 77 Xv u25 z5 o5 (fun w => (Yf _ _ _)) rfl (fun v358 s358 p358 A358 => ?_)
   refine Xl (L' := [15, 10, 4, 3]) (D' := [6, 7, 8, 9, 0, 1, 2, 11, 12, 13, 14]) zd332 rfl (fun zd360 => ?_)
   refine Yc 5 [some 29, some 24] tb34 zd360 (Xa (Xn v31_0 rfl) rfl (Xa (Xn v24_0 rfl) rfl (Xa (Xp (B3.st (tr8 p9 p12 p25 p32 p34 p319 p328 p358) rfl) u3 rfl) rfl (Xa (Xr fa79_1 rfl) rfl Xg)))) (by kernel_rfl) rfl (fun l361 e361 zd361 => ?_)
   refine clO 78 rfl func118 rfl (impl_PutNum.calls a0.Xmax (4 : Int) s358.w (mm [] s358)) (fun r363 v363_0 s364 p364 A363_0 => ?_)
   refine Xl (L' := [15, 10]) (D' := [3, 4, 5, 6, 7, 8, 9, 0, 1, 2, 11, 12, 13, 14]) zd361 rfl (fun zd366 => ?_)
   refine zfin [16, 17, 18] tb34 zd366 (Xa (Xn v31_0 rfl) rfl (Xa (Xn v24_0 rfl) rfl Xg)) (by kernel_rfl) (by decide) ?_
   obtain ⟨s368, hw368, p368, A368⟩ := (A327_0.st (Xq p358 p364) rfl).rc 44 rfl
   rw [hw368]
   obtain ⟨s370, hw370, p370, A370⟩ := (A363_0.st p368 rfl).rc 45 rfl
   rw [hw370]
   obtain ⟨s372, hw372, p372, A372⟩ := (A358.st (Yi p364 p368 p370) rfl).rc 46 rfl
   rw [hw372]
   obtain ⟨s374, hw374, p374, A374⟩ := (A319.st (tr6 p328 p358 p364 p368 p370 p372) rfl).rc 47 rfl
   rw [hw374]
   exact Kj51 _ _ _ ⟨s374, _, v327_0, v363_0, v358, v319, rfl, (ue (ue (ue (ue (ue (ue rfl rfl) rfl) rfl) rfl) rfl) rfl), (K29.st (tr10 p32 p34 p319 p328 p358 p364 p368 p370 p372 p374) rfl), (A368.st (Yi p370 p372 p374) rfl), (A370.st (Xq p372 p374) rfl), (A372.st p374 rfl), A374, (A24_0.st (tr10 p32 p34 p319 p328 p358 p364 p368 p370 p372 p374) rfl), (A31_0.st (tr9 p34 p319 p328 p358 p364 p368 p370 p372 p374) rfl)⟩
  refine ltF' (K := (Kd.int .u8)) (cells := [(.int .u8 (IntKind.wrap .u8 (r24.length : Int)))]) [(IntKind.wrap .u8 (r24.length : Int))] 79 Xv u25 z5 o5 (fun w => (Yf _ _ _)) rfl (fun v381 s381 p381 A381 => ?_)
  refine Xl (L' := [15, 10, 4, 3, 1, 0]) (D' := [6, 7, 8, 9, 11, 12, 13, 14]) zd323 rfl (fun zd383 => ?_)
  refine Yc 2 [some 29, some 24, some 18, some 17] tb34 zd383 (Xa (Xn v31_0 rfl) rfl (Xa (Xn v24_0 rfl) rfl (Xa (Xp (B3.st (tr7 p9 p12 p25 p32 p34 p319 p381) rfl) u3 rfl) rfl (Xa (Xr fa79_1 rfl) rfl (Xa (Xp (B3.st (tr7 p9 p12 p25 p32 p34 p319 p381) rfl) u3 rfl) rfl (Xa (Xr fa79_0 rfl) rfl Xg)))))) (by kernel_rfl) rfl (fun l384 e384 zd384 => ?_)
  refine clO 80 rfl func118 rfl (impl_PutNum.calls a0.Xmin (4 : Int) s381.w (mm [] s381)) (fun r387 v387_0 s388 p388 A387_0 => ?_)
  refine Xl (L' := [15, 10, 4, 3]) (D' := [0, 1, 2, 6, 7, 8, 9, 11, 12, 13, 14]) zd384 rfl (fun zd390 => ?_)
  refine Yc 5 [some 29, some 24] tb34 zd390 (Xa (Xn v31_0 rfl) rfl (Xa (Xn v24_0 rfl) rfl (Xa (Xp (B3.st (tr8 p9 p12 p25 p32 p34 p319 p381 p388) rfl) u3 rfl) rfl (Xa (Xr fa79_1 rfl) rfl Xg)))) (by kernel_rfl) rfl (fun l391 e391 zd391 => ?_)
  refine clO 81 rfl func118 rfl (impl_PutNum.calls a0.Xmax (4 : Int) s388.w (mm [] s388)) (fun r393 v393_0 s394 p394 A393_0 => ?_)
  refine Xl (L' := [15, 10]) (D' := [3, 4, 5, 0, 1, 2, 6, 7, 8, 9, 11, 12, 13, 14]) zd391 rfl (fun zd396 => ?_)
  refine zfin [16, 17, 18] tb34 zd396 (Xa (Xn v31_0 rfl) rfl (Xa (Xn v24_0 rfl) rfl Xg)) (by kernel_rfl) (by decide) ?_
  obtain ⟨s398, hw398, p398, A398⟩ := (A387_0.st p394 rfl).rc 44 rfl
  rw [hw398]
  obtain ⟨s400, hw400, p400, A400⟩ := (A393_0.st p398 rfl).rc 45 rfl
  rw [hw400]
  obtain ⟨s402, hw402, p402, A402⟩ := (A381.st (tr4 p388 p394 p398 p400) rfl).rc 46 rfl
  rw [hw402]
  obtain ⟨s404, hw404, p404, A404⟩ := (A319.st (tr6 p381 p388 p394 p398 p400 p402) rfl).rc 47 rfl
  rw [hw404]
  exact Kj51 _ _ _ ⟨s404, _, v387_0, v393_0, v381, v319, rfl, (ue (ue (ue (ue (ue (ue rfl rfl) rfl) rfl) rfl) rfl) rfl), (K29.st (tr10 p32 p34 p319 p381 p388 p394 p398 p400 p402 p404) rfl), (A398.st (Yi p400 p402 p404) rfl), (A400.st (Xq p402 p404) rfl), (A402.st p404 rfl), A404, (A24_0.st (tr10 p32 p34 p319 p381 p388 p394 p398 p400 p402 p404) rfl), (A31_0.st (tr9 p34 p319 p381 p388 p394 p398 p400 p402 p404) rfl)⟩
 rintro y51 _ _ ⟨s411, _, vy51_0, vy51_1, vy51_2, vy51_3, rfl, rfl, Ky51, Ay51_0, Ay51_1, Ay51_2, Ay51_3, Cy51_26, Cy51_33⟩
 obtain ⟨s417, hw417, p417, L417⟩ := lo_cons Ay51_3 (lo_one Cy51_33) rfl rfl
 rw [hw417]
 obtain ⟨s419, hw419, p419, L419⟩ := lo_cons (Cy51_26.st p417 rfl) L417 rfl rfl
 rw [hw419]
 obtain ⟨s421, hw421, p421, L421⟩ := lo_cons (Ay51_2.st (Xq p417 p419) rfl) L419 rfl rfl
 rw [hw421]
 obtain ⟨s423, hw423, p423, L423⟩ := lo_cons (Ay51_1.st (Yi p417 p419 p421) rfl) L421 rfl rfl
 rw [hw423]
 obtain ⟨s425, hw425, p425, L425⟩ := lo_cons (Ay51_0.st (tr4 p417 p419 p421 p423) rfl) L423 rfl rfl
 rw [hw425]
 refine ltO (K := Yo) (cells := [vy51_0, vy51_1, vy51_2, v24_0, vy51_3, v31_0]) [y51.1, y51.2.1, y51.2.2.1, r24, y51.2.2.2, r31] 44 u57 z25 o25 L425 rfl rfl rfl rfl rfl rfl rfl rfl rfl (lfill_pc (pc_c (oc Ay51_0.rd.one) (pc_c (oc Ay51_1.rd.one) (pc_c (oc Ay51_2.rd.one) (pc_c (oc Cy51_26.rd.one) (pc_c (oc Ay51_3.rd.one) (pc_c (oc Cy51_33.rd.one) pc_n)))))) rfl) (fun v426 s426 p426 A426 => ?_)
 refine clO 83 rfl func117 rfl (slices_Concat_byte_byte.calls ([y51.1, y51.2.1, y51.2.2.1, r24, y51.2.2.2, r31]) s426.w (mm [44] s426) v426 A426.rd) (fun r428 v428_0 s429 p429 A428_0 => ?_)
 refine Yd v428_0 rfl (dn ?_)
 have K431 := Ky51.st (tr7 p417 p419 p421 p423 p425 p426 p429) rfl
 exact re rfl func90 rfl (Xs rfl Xe) rfl ⟨_, rfl, A428_0.fo K431 rfl z.l, z.ky K431⟩
def impl_TupleRead.f (a0 : (List Int)) : Option (Tuple × Bool) :=
 ((impl_GetNum.f a0 (0 : Int) (4 : Int)).bind fun r6 => ((impl_GetNum.f a0 (4 : Int) (4 : Int)).bind fun r10 => ((if (((!r6.2) || (!r10.2)) || (decide ((a0.length : Int) < (9 : Int)))) = true then (some true) else (if 0 ≤ (8 : Int) ∧ (8 : Int) < (a0.length : Int) then (some (decide ((a0.length : Int) < (IntKind.wrap .i64 ((10 : Int) + (IntKind.wrap .i64 (at_ a0 (8 : Int)))))))) else none)).bind fun y16 => (if y16 = true then (some ((Tuple.mk (0 : Int) (0 : Int) (Item.mk (0 : Int) (0 : Int) (0 : Nat) ([] : (List Int))) (Item.mk (0 : Int) (0 : Int) (0 : Nat) ([] : (List Int)))), false)) else (if 0 ≤ (8 : Int) ∧ (8 : Int) < (a0.length : Int) then (if 0 ≤ (9 : Int) ∧ (9 : Int) ≤ (IntKind.wrap .i64 ((9 : Int) + (IntKind.wrap .i64 (at_ a0 (8 : Int))))) ∧ (IntKind.wrap .i64 ((9 : Int) + (IntKind.wrap .i64 (at_ a0 (8 : Int))))) ≤ (a0.length : Int) then ((impl_KeyRead.f ((a0.take ((IntKind.wrap .i64 ((9 : Int) + (IntKind.wrap .i64 (at_ a0 (8 : Int)))))).toNat).drop ((9 : Int)).toNat)).bind fun r37 => (if 0 ≤ (IntKind.wrap .i64 ((IntKind.wrap .i64 ((9 : Int) + (IntKind.wrap .i64 (at_ a0 (8 : Int))))) + (1 : Int))) ∧ (IntKind.wrap .i64 ((IntKind.wrap .i64 ((9 : Int) + (IntKind.wrap .i64 (at_ a0 (8 : Int))))) + (1 : Int))) ≤ (a0.length : Int) then ((impl_ValueRead.f (a0.drop ((IntKind.wrap .i64 ((IntKind.wrap .i64 ((9 : Int) + (IntKind.wrap .i64 (at_ a0 (8 : Int))))) + (1 : Int)))).toNat)).bind fun r49 => ((if ((!r37.2) || (!r49.2)) = true then (some true) else ((impl_TupleOk.f (Tuple.mk r6.1 r10.1 r37.1 r49.1)).bind fun r72 => (some (!r72)))).bind fun y65 => ((if y65 = true then (some true) else ((impl_TupleBytes.f (Tuple.mk r6.1 r10.1 r37.1 r49.1)).bind fun r83 => ((bytes_Equal.f r83 a0).bind fun r88 => (some (!r88))))).bind fun y82 => (if y82 = true then (some ((Tuple.mk (0 : Int) (0 : Int) (Item.mk (0 : Int) (0 : Int) (0 : Nat) ([] : (List Int))) (Item.mk (0 : Int) (0 : Int) (0 : Nat) ([] : (List Int)))), false)) else (some ((Tuple.mk r6.1 r10.1 r37.1 r49.1), true)))))) else none)) else none) else none)))))
def impl_TupleRead.Q (w : World) (F : Nat → Prop) (r : Tuple × Bool) (v : Value) (w' : World) : Prop :=
 ∃ (v0 : Value) (v1 : Value) (v2 : Value) (v3 : Value), v = .tuple #[(.agg #[(iI r.1.Xmin), (iI r.1.Xmax), (iI r.1.Key.Kind), (iI r.1.Key.N), v0, v1, (iI r.1.Value.Kind), (iI r.1.Value.N), v2, v3]), (.bool r.2)] ∧ FO kd79 w w' [(iI r.1.Xmin), (iI r.1.Xmax), (iI r.1.Key.Kind), (iI r.1.Key.N), v0, v1, (iI r.1.Value.Kind), (iI r.1.Value.N), v2, v3] r.1 ∧ Ky [] w w'
theorem impl_TupleRead.calls (a0 : (List Int)) (w : World) (F : Nat → Prop) (w0_0 : Value) (h0_0 : Yo.rd w [w0_0] a0 F) (r : Tuple × Bool) (m : impl_TupleRead.f a0 = some r) :
  Calls prog 58 #[w0_0] w (RT (impl_TupleRead.Q w F) r) := by
 obtain ⟨s0, rfl, kp0, z⟩ := Xk w F
 have A0_0 := z.rd h0_0
 refine Xd (args := [w0_0]) func58 ntmps58 rfl rfl m ?_
 unfold impl_TupleRead.f
 refine sr (al' (cs := [(iI 0), (iI 0), (iI 0), (iI 0), (.float .f64 0), (.slice none 0 0), (iI 0), (iI 0), (.float .f64 0), (.slice none 0 0)]) 40 rfl o79 rfl (fun b2 s2 p2 B2 => ?_))
 refine Xc rfl (dn (sr (Xx w0_0 rfl ?_)))
 have K4 := kp0.st p2 rfl
 refine Ym 41 rfl func85 rfl (impl_GetNum.calls a0 (0 : Int) (4 : Int) s2.w (mm [0] s2) w0_0 (A0_0.kp K4)) (fun r6 s7 p7 n7 => ?_)
 refine Xc rfl (Xc (v := (iI r6.1)) rfl (Xc (v := (.bool r6.2)) rfl (Xc rfl (Xc rfl (dn (sr (Xx w0_0 rfl ?_)))))))
 have K8 := K4.st p7 rfl
 refine Ym 42 rfl func85 rfl (impl_GetNum.calls a0 (4 : Int) (4 : Int) s7.w (mm [0] s7) w0_0 (A0_0.kp K8)) (fun r10 s11 p11 n11 => ?_)
 refine Xc rfl (Xc (v := (iI r10.1)) rfl (Xc (v := (.bool r10.2)) rfl (Xc rfl (Xc rfl (dn (sq (sr (Xc rfl (Xc rfl (Xc rfl (jy [26, 27, 28, 29] [6, 7, 8, 9, 10, 11, 12, 13, 14, 15, 16, 17, 18, 19, 20] 29 (.bool ((!r6.2) || (!r10.2))) rfl (fun Kg12 => ?_) (fun j12 => ?_))))))))))))
 ·
  rcases Yn (!r6.2) with hb12 | hb12
  ·
   exact Xy hb12 (Xj rfl (Xj rfl (Xc rfl (Kg12 _ (Ag.put ((Ag.put ((Ag.put (Ag.base rfl) rfl)) rfl)) rfl) (by rw [hb12]; rfl)))))
  exact Xy hb12 (Xc rfl (Xc rfl (Xc rfl (Kg12 _ (Ag.put ((Ag.put ((Ag.put (Ag.base rfl) rfl)) rfl)) rfl) (by rw [hb12]; rfl)))))
 refine Xc rfl (jy [30, 31, 32, 33, 34] [11, 12, 13, 14, 15, 16, 17, 18, 19, 20] 34 (.bool (((!r6.2) || (!r10.2)) || (decide ((a0.length : Int) < (9 : Int))))) rfl (fun Kg13 => ?_) (fun j13 => ?_))
 ·
  rcases Yn ((!r6.2) || (!r10.2)) with hb13 | hb13
  ·
   exact Xy hb13 (Xj rfl (Xj rfl (Xj rfl (Xc rfl (Kg13 _ (Ag.put ((Ag.put ((Ag.put ((Ag.put (Ag.base rfl) rfl)) rfl)) rfl)) rfl) (by rw [hb13]; rfl))))))
  refine Xy hb13 (Xx w0_0 rfl ?_)
  exact Yl (A0_0.kp (K8.st p11 rfl)) u25 rfl (Xc rfl (Xc rfl (Kg13 _ (Ag.put ((Ag.put ((Ag.put ((Ag.put (Ag.base rfl) rfl)) rfl)) rfl)) rfl) (by rw [hb13]; rfl))))
 refine Xc rfl (ji [] (fun (y16 : Bool) e w => ∃ (s : St) (e0 : Env), w = s.w ∧ e = upd (upd (upd (upd (upd e0 0 w0_0) 2 (pB b2)) 4 (iI r6.1)) 6 (iI r10.1)) 44 (.bool y16) ∧ Kp s0 s ∧ BlF s b2 79 [(iI 0), (iI 0), (iI 0), (iI 0), (.float .f64 0), (.slice none 0 0), (iI 0), (iI 0), (.float .f64 0), (.slice none 0 0)] 40) (fun Gj16 Kj16 => ?_) ?_)
 ·
  rcases Yn (((!r6.2) || (!r10.2)) || (decide ((a0.length : Int) < (9 : Int)))) with hb16 | hb16
  ·
   refine Xy hb16 ?_
   rw [if_pos hb16]
   refine Xj rfl (Xj rfl (Xj rfl (Xj rfl (Xj rfl (Xj rfl (Xj rfl (Xj rfl (Xc rfl ?_))))))))
   exact Kj16 _ _ _ ⟨s11, _, rfl, (ue (ue (ue (ue (ue rfl rfl) rfl) rfl) rfl) rfl), (K8.st p11 rfl), (B2.st (Xq p7 p11) rfl)⟩
  refine Xy hb16 ?_
  rw [if_neg (by rw [hb16]; decide)]
  refine Xx w0_0 rfl ?_
  have K19 := K8.st p11 rfl
  have A20 := A0_0.kp K19
  refine Yl A20 u25 rfl (Xx w0_0 rfl (ix' A20 u25 z5 rfl (fun ad21 es21 h0_21 h1_21 he21 ce21 ia21 => ?_)))
  obtain rfl := he21
  refine lc0' ce21 u5 rfl (cv' u3 u5 rfl (Xc rfl (Xc rfl (Xc rfl ?_))))
  exact Kj16 _ _ _ ⟨s11, _, rfl, (ue (ue (ue (ue (ue rfl rfl) rfl) rfl) rfl) rfl), K19, (B2.st (Xq p7 p11) rfl)⟩
 rintro y16 _ _ ⟨s24, _, rfl, rfl, Ky16, By16_b2⟩
 refine dn (cd rfl (fun h26 => ?_) (fun h26 => ?_))
 ·
  refine sr (bd' (cells := [(iI 0), (iI 0), (iI 0), (iI 0), (.float .f64 0), (.slice none 0 0), (iI 0), (iI 0), (.float .f64 0), (.slice none 0 0)]) pl79 o79 rfl rfl (Xu (vs := [(iI 0), (iI 0), (iI 0), (iI 0), (.float .f64 0), (.slice none 0 0), (iI 0), (iI 0), (.float .f64 0), (.slice none 0 0)]) By16_b2 z79 rfl (Xb rfl (Xb rfl (Xb rfl (Xb rfl (Xb (FL.one (Yh rfl)) (Xb rfl (Xb rfl (Xb rfl (Xb (FL.one (Yh rfl)) (Xb rfl Xi)))))))))) rfl (fun s27 p27 B27 => ?_)))
  refine Xc rfl (dn ?_)
  have A29 : OwF kd79 s27 [(iI 0), (iI 0), (iI 0), (iI 0), (.float .f64 0), (.slice none 0 0), (iI 0), (iI 0), (.float .f64 0), (.slice none 0 0)] (Tuple.mk (0 : Int) (0 : Int) (Item.mk (0 : Int) (0 : Int) (0 : Nat) ([] : (List Int))) (Item.mk (0 : Int) (0 : Int) (0 : Nat) ([] : (List Int)))) 43 := ow_z _ _ (Xz (fun x : Tuple => (x.Xmin, x.Xmax, x.Key, x.Value)) (Tuple.mk (0 : Int) (0 : Int) (Item.mk (0 : Int) (0 : Int) (0 : Nat) ([] : (List Int))) (Item.mk (0 : Int) (0 : Int) (0 : Nat) ([] : (List Int)))) (Xh (Xf .i64 (0 : Int)) (Xh (Xf .i64 (0 : Int)) (Xh (Xz (fun x : Item => (x.Kind, x.N, x.F, x.T)) (Item.mk (0 : Int) (0 : Int) (0 : Nat) ([] : (List Int))) (Xh (Xf .i64 (0 : Int)) (Xh (Xf .i64 (0 : Int)) (Xh (Yj (Yh rfl)) (Ya 5 (Kd.int .u8)))))) (Xz (fun x : Item => (x.Kind, x.N, x.F, x.T)) (Item.mk (0 : Int) (0 : Int) (0 : Nat) ([] : (List Int))) (Xh (Xf .i64 (0 : Int)) (Xh (Xf .i64 (0 : Int)) (Xh (Yj (Yh rfl)) (Ya 5 (Kd.int .u8))))))))))
  have K31 := Ky16.st p27 rfl
  exact re rfl func58 rfl (r_b B27 u79 rfl z79 rfl (Xs rfl Xe)) rfl ⟨_, rfl, (.float .f64 0), (.slice none 0 0), (.float .f64 0), (.slice none 0 0), rfl, A29.fo K31 rfl z.l, z.ky K31⟩
 refine sk (sr (Xx w0_0 rfl ?_))
 have A32 := A0_0.kp Ky16
 refine ix' A32 u25 z5 rfl (fun ad33 es33 h0_33 h1_33 he33 ce33 ia33 => ?_)
 obtain rfl := he33
 refine lc0' ce33 u5 rfl (cv' u3 u5 rfl (Xc rfl (Xc rfl (dn (sr (Xx w0_0 rfl (Xc rfl (slb A32 u25 z5 rfl rfl rfl rfl rfl rfl rfl rfl (fun v35 A35 => ?_)))))))))
 refine cl' rfl func86 rfl (impl_KeyRead.calls ((a0.take ((IntKind.wrap .i64 ((9 : Int) + (IntKind.wrap .i64 (at_ a0 (8 : Int)))))).toNat).drop ((9 : Int)).toNat) s24.w (mm [0] s24) v35 A35) ?_
 rintro r37 _ w37 m37 ⟨v37_0, v37_1, rfl, f37_0, ky37⟩
 obtain ⟨s38, rfl, p38, n38⟩ := nwx s24 w37 44 ky37
 obtain ⟨hu37_0_0, Au37_0_1⟩ := ap77 (f37_0.c n38)
 refine Xc rfl (Xc (v := (.agg #[(iI r37.1.Kind), (iI r37.1.N), v37_0, v37_1])) rfl (Xc (v := (.bool r37.2)) rfl (al' (cs := [(iI 0), (iI 0), (.float .f64 0), (.slice none 0 0)]) 45 rfl o77 rfl (fun b40 s40 p40 B40 => ?_))))
 have A42 := Au37_0_1.st p40 rfl
 refine Xu (vs := [(iI r37.1.Kind), (iI r37.1.N), v37_0, v37_1]) B40 z77 rfl (Xb rfl (Xb rfl (Xb (FL.one hu37_0_0) (Xb A42.rd.one Xi)))) rfl (fun s43 p43 B43 => ?_)
 refine Xc rfl (dn (sr (Xx w0_0 rfl (Xc rfl (Xc rfl ?_)))))
 have K45 := Ky16.st (Yi p38 p40 p43) rfl
 refine sla (A0_0.kp K45) u25 z5 rfl rfl rfl rfl rfl rfl rfl (fun v47 A47 => ?_)
 refine cl' rfl func87 rfl (impl_ValueRead.calls (a0.drop ((IntKind.wrap .i64 ((IntKind.wrap .i64 ((9 : Int) + (IntKind.wrap .i64 (at_ a0 (8 : Int))))) + (1 : Int)))).toNat) s43.w (mm [0] s43) v47 A47) ?_
 rintro r49 _ w49 m49 ⟨v49_0, v49_1, rfl, f49_0, ky49⟩
 obtain ⟨s50, rfl, p50, n50⟩ := nwx s43 w49 46 ky49
 obtain ⟨hu49_0_0, Au49_0_1⟩ := ap77 (f49_0.c n50)
 refine Xc rfl (Xc (v := (.agg #[(iI r49.1.Kind), (iI r49.1.N), v49_0, v49_1])) rfl (Xc (v := (.bool r49.2)) rfl (al' (cs := [(iI 0), (iI 0), (.float .f64 0), (.slice none 0 0)]) 47 rfl o77 rfl (fun b52 s52 p52 B52 => ?_))))
 have A54 := Au49_0_1.st p52 rfl
 refine Xu (vs := [(iI r49.1.Kind), (iI r49.1.N), v49_0, v49_1]) B52 z77 rfl (Xb rfl (Xb rfl (Xb (FL.one hu49_0_0) (Xb A54.rd.one Xi)))) rfl (fun s55 p55 B55 => ?_)
 refine Xc rfl (dn (sr (Xc rfl (Xc rfl ?_))))
 refine Xw (es := [(iI r37.1.Kind), (iI r37.1.N), v37_0, v37_1]) (B43.st (Yi p50 p52 p55) rfl) u77 z77 rfl (Xw (es := [(iI r49.1.Kind), (iI r49.1.N), v49_0, v49_1]) B55 u77 z77 rfl (bd' (cells := [(iI r6.1), (iI r10.1), (iI r37.1.Kind), (iI r37.1.N), v37_0, v37_1, (iI r49.1.Kind), (iI r49.1.N), v49_0, v49_1]) pl79 o79 rfl rfl (al' (cs := [(iI 0), (iI 0), (iI 0), (iI 0), (.float .f64 0), (.slice none 0 0), (iI 0), (iI 0), (.float .f64 0), (.slice none 0 0)]) 48 rfl o79 rfl (fun b58 s58 p58 B58 => ?_))))
 have A60 := A54.st (Xq p55 p58) rfl
 have A61 := A42.st (tr5 p43 p50 p52 p55 p58) rfl
 refine Xu (vs := [(iI r6.1), (iI r10.1), (iI r37.1.Kind), (iI r37.1.N), v37_0, v37_1, (iI r49.1.Kind), (iI r49.1.N), v49_0, v49_1]) B58 z79 rfl (Xb rfl (Xb rfl (Xb rfl (Xb rfl (Xb (FL.one hu37_0_0) (Xb A61.rd.one (Xb rfl (Xb rfl (Xb (FL.one hu49_0_0) (Xb A60.rd.one Xi)))))))))) rfl (fun s62 p62 B62 => ?_)
 refine dn (sq (sr (Xc rfl (Xc rfl (Xc rfl (jy [73, 74, 75, 76] [6, 7, 8, 9, 10, 11, 12, 13, 14, 15, 16, 17] 76 (.bool ((!r37.2) || (!r49.2))) rfl (fun Kg64 => ?_) (fun j64 => ?_)))))))
 ·
  rcases Yn (!r37.2) with hb64 | hb64
  ·
   exact Xy hb64 (Xj rfl (Xj rfl (Xc rfl (Kg64 _ (Ag.put ((Ag.put ((Ag.put (Ag.base rfl) rfl)) rfl)) rfl) (by rw [hb64]; rfl)))))
  exact Xy hb64 (Xc rfl (Xc rfl (Xc rfl (Kg64 _ (Ag.put ((Ag.put ((Ag.put (Ag.base rfl) rfl)) rfl)) rfl) (by rw [hb64]; rfl)))))
 refine Xc rfl (ji [11, 12, 13, 14, 15, 16, 17] (fun (y65 : Bool) e w => ∃ (s : St) (e0 : Env), w = s.w ∧ e = upd (upd (upd (upd e0 0 w0_0) 2 (pB b2)) 13 (pB b58)) 81 (.bool y65) ∧ Kp s0 s ∧ BlF s b58 79 [(iI r6.1), (iI r10.1), (iI r37.1.Kind), (iI r37.1.N), v37_0, v37_1, (iI r49.1.Kind), (iI r49.1.N), v49_0, v49_1] 48 ∧ BlF s b2 79 [(iI 0), (iI 0), (iI 0), (iI 0), (.float .f64 0), (.slice none 0 0), (iI 0), (iI 0), (.float .f64 0), (.slice none 0 0)] 40 ∧ OwF Yo s [v37_1] r37.1.T 44 ∧ OwF Yo s [v49_1] r49.1.T 46) (fun Gj65 Kj65 => ?_) ?_)
 ·
  rcases Yn ((!r37.2) || (!r49.2)) with hb65 | hb65
  ·
   refine Xy hb65 ?_
   rw [if_pos hb65]
   refine Xj rfl (Xj rfl (Xj rfl (Xc rfl ?_)))
   exact Kj65 _ _ _ ⟨s62, _, rfl, (ue (ue (ue (ue rfl rfl) rfl) rfl) rfl), (K45.st (tr5 p50 p52 p55 p58 p62) rfl), B62, (By16_b2.st (tr8 p38 p40 p43 p50 p52 p55 p58 p62) rfl), (A61.st p62 rfl), (A60.st p62 rfl)⟩
  refine Xy hb65 ?_
  rw [if_neg (by rw [hb65]; decide)]
  refine Xw (es := [(iI r6.1), (iI r10.1), (iI r37.1.Kind), (iI r37.1.N), v37_0, v37_1, (iI r49.1.Kind), (iI r49.1.N), v49_0, v49_1]) B62 u79 z79 rfl ?_
  have A70 := A61.st p62 rfl
  have A71 := A60.st p62 rfl
  refine Ym 49 rfl func88 rfl (impl_TupleOk.calls (Tuple.mk r6.1 r10.1 r37.1 r49.1) s62.w (mm [44, 46] s62) v37_0 v37_1 v49_0 v49_1 ((Ye (s := s62) hu37_0_0).sub (D := [44, 46]) rfl) (A70.rd.sub (D := [44, 46]) rfl) ((Ye (s := s62) hu49_0_0).sub (D := [44, 46]) rfl) (A71.rd.sub (D := [44, 46]) rfl)) (fun r72 s73 p73 n73 => ?_)
  refine Xc rfl (Xc rfl ?_)
  exact Kj65 _ _ _ ⟨s73, _, rfl, (ue (ue (ue (ue rfl rfl) rfl) rfl) rfl), (K45.st (tr6 p50 p52 p55 p58 p62 p73) rfl), (B62.st p73 rfl), (By16_b2.st (tr9 p38 p40 p43 p50 p52 p55 p58 p62 p73) rfl), (A70.st p73 rfl), (A71.st p73 rfl)⟩
 rintro y65 _ _ ⟨s79, _, rfl, rfl, Ky65, By65_b58, By65_b2, Cy65_39, Cy65_51⟩
 refine Xc rfl (ji [] (fun (y82 : Bool) e w => ∃ (s : St) (e0 : Env), w = s.w ∧ e = upd (upd (upd e0 2 (pB b2)) 13 (pB b58)) 88 (.bool y82) ∧ Kp s0 s ∧ BlF s b58 79 [(iI r6.1), (iI r10.1), (iI r37.1.Kind), (iI r37.1.N), v37_0, v37_1, (iI r49.1.Kind), (iI r49.1.N), v49_0, v49_1] 48 ∧ BlF s b2 79 [(iI 0), (iI 0), (iI 0), (iI 0), (.float .f64 0), (.slice none 0 0), (iI 0), (iI 0), (.float .f64 0), (.slice none 0 0)] 40 ∧ OwF Yo s [v37_1] r37.1.T 44 ∧ OwF Yo s [v49_1] r49.1.T 46) (fun Gj82 Kj82 => ?_) ?_)
 ·
  rcases Yn y65 with hb82 | hb82
  ·
   refine Xy hb82 ?_
   rw [if_pos hb82]
   exact Xj rfl (Xj rfl (Xj rfl (Xj rfl (Xj rfl (Xc rfl (Kj82 _ _ _ ⟨s79, _, rfl, (ue (ue (ue rfl rfl) rfl) rfl), Ky65, By65_b58, By65_b2, Cy65_39, Cy65_51⟩))))))
  refine Xy hb82 ?_
  rw [if_neg (by rw [hb82]; decide)]
  refine Xw (es := [(iI r6.1), (iI r10.1), (iI r37.1.Kind), (iI r37.1.N), v37_0, v37_1, (iI r49.1.Kind), (iI r49.1.N), v49_0, v49_1]) By65_b58 u79 z79 rfl (clO 50 rfl func90 rfl (impl_TupleBytes.calls (Tuple.mk r6.1 r10.1 r37.1 r49.1) s79.w (mm [44, 46] s79) v37_0 v37_1 v49_0 v49_1 ((Ye (s := s79) hu37_0_0).sub (D := [44, 46]) rfl) (Cy65_39.rd.sub (D := [44, 46]) rfl) ((Ye (s := s79) hu49_0_0).sub (D := [44, 46]) rfl) (Cy65_51.rd.sub (D := [44, 46]) rfl)) (fun r83 v83_0 s84 p84 A83_0 => ?_))
  refine Xx w0_0 rfl ?_
  have K86 := Ky65.st p84 rfl
  refine Ym 51 rfl func89 rfl (bytes_Equal.calls r83 a0 s84.w (mm [50, 0] s84) v83_0 w0_0 (A83_0.rd.sub (D := [50, 0]) rfl) ((A0_0.kp K86).sub (D := [50, 0]) rfl)) (fun r88 s89 p89 n89 => ?_)
  refine Xc rfl (Xc rfl ?_)
  exact Kj82 _ _ _ ⟨s89, _, rfl, (ue (ue (ue rfl rfl) rfl) rfl), (K86.st p89 rfl), (By65_b58.st (Xq p84 p89) rfl), (By65_b2.st (Xq p84 p89) rfl), (Cy65_39.st (Xq p84 p89) rfl), (Cy65_51.st (Xq p84 p89) rfl)⟩
 rintro y82 _ _ ⟨s95, _, rfl, rfl, Ky82, By82_b58, By82_b2, Cy82_39, Cy82_51⟩
 refine dn (cd rfl (fun h98 => ?_) (fun h98 => ?_))
 ·
  refine sr (bd' (cells := [(iI 0), (iI 0), (iI 0), (iI 0), (.float .f64 0), (.slice none 0 0), (iI 0), (iI 0), (.float .f64 0), (.slice none 0 0)]) pl79 o79 rfl rfl (Xu (vs := [(iI 0), (iI 0), (iI 0), (iI 0), (.float .f64 0), (.slice none 0 0), (iI 0), (iI 0), (.float .f64 0), (.slice none 0 0)]) By82_b2 z79 rfl (Xb rfl (Xb rfl (Xb rfl (Xb rfl (Xb (FL.one (Yh rfl)) (Xb rfl (Xb rfl (Xb rfl (Xb (FL.one (Yh rfl)) (Xb rfl Xi)))))))))) rfl (fun s99 p99 B99 => ?_)))
  refine Xc rfl (dn ?_)
  have A101 : OwF kd79 s99 [(iI 0), (iI 0), (iI 0), (iI 0), (.float .f64 0), (.slice none 0 0), (iI 0), (iI 0), (.float .f64 0), (.slice none 0 0)] (Tuple.mk (0 : Int) (0 : Int) (Item.mk (0 : Int) (0 : Int) (0 : Nat) ([] : (List Int))) (Item.mk (0 : Int) (0 : Int) (0 : Nat) ([] : (List Int)))) 52 := ow_z _ _ (Xz (fun x : Tuple => (x.Xmin, x.Xmax, x.Key, x.Value)) (Tuple.mk (0 : Int) (0 : Int) (Item.mk (0 : Int) (0 : Int) (0 : Nat) ([] : (List Int))) (Item.mk (0 : Int) (0 : Int) (0 : Nat) ([] : (List Int)))) (Xh (Xf .i64 (0 : Int)) (Xh (Xf .i64 (0 : Int)) (Xh (Xz (fun x : Item => (x.Kind, x.N, x.F, x.T)) (Item.mk (0 : Int) (0 : Int) (0 : Nat) ([] : (List Int))) (Xh (Xf .i64 (0 : Int)) (Xh (Xf .i64 (0 : Int)) (Xh (Yj (Yh rfl)) (Ya 5 (Kd.int .u8)))))) (Xz (fun x : Item => (x.Kind, x.N, x.F, x.T)) (Item.mk (0 : Int) (0 : Int) (0 : Nat) ([] : (List Int))) (Xh (Xf .i64 (0 : Int)) (Xh (Xf .i64 (0 : Int)) (Xh (Yj (Yh rfl)) (Ya 5 (Kd.int .u8))))))))))
  have K103 := Ky82.st p99 rfl
  exact re rfl func58 rfl (r_b B99 u79 rfl z79 rfl (Xs rfl Xe)) rfl ⟨_, rfl, (.float .f64 0), (.slice none 0 0), (.float .f64 0), (.slice none 0 0), rfl, A101.fo K103 rfl z.l, z.ky K103⟩
 refine sk (sr (Xw (es := [(iI r6.1), (iI r10.1), (iI r37.1.Kind), (iI r37.1.N), v37_0, v37_1, (iI r49.1.Kind), (iI r49.1.N), v49_0, v49_1]) By82_b58 u79 z79 rfl (Xu (vs := [(iI r6.1), (iI r10.1), (iI r37.1.Kind), (iI r37.1.N), v37_0, v37_1, (iI r49.1.Kind), (iI r49.1.N), v49_0, v49_1]) By82_b2 z79 rfl (Xb rfl (Xb rfl (Xb rfl (Xb rfl (Xb (FL.one hu37_0_0) (Xb Cy82_39.rd.one (Xb rfl (Xb rfl (Xb (FL.one hu49_0_0) (Xb Cy82_51.rd.one Xi)))))))))) rfl (fun s104 p104 B104 => ?_))))
 refine Xc rfl (dn ?_)
 obtain ⟨s108, hw108, p108, A108⟩ := ow_2 (Xo (fun x : Item => (x.Kind, x.N, x.F, x.T)) r37.1 (Yg (Xf .i64 r37.1.Kind) (Yg (Xf .i64 r37.1.N) (Yg (Yj hu37_0_0) (Cy82_39.st p104 rfl))))) (Xo (fun x : Item => (x.Kind, x.N, x.F, x.T)) r49.1 (Yg (Xf .i64 r49.1.Kind) (Yg (Xf .i64 r49.1.N) (Yg (Yj hu49_0_0) (Cy82_51.st p104 rfl))))) rfl rfl
 rw [hw108]
 have A110 : OwF kd79 s108 [(iI r6.1), (iI r10.1), (iI r37.1.Kind), (iI r37.1.N), v37_0, v37_1, (iI r49.1.Kind), (iI r49.1.N), v49_0, v49_1] (Tuple.mk r6.1 r10.1 r37.1 r49.1) 44 := (Xo (fun x : Tuple => (x.Xmin, x.Xmax, x.Key, x.Value)) (Tuple.mk r6.1 r10.1 r37.1 r49.1) (Yg (Xf .i64 r6.1) (Yg (Xf .i64 r10.1) A108)))
 have K113 := Ky82.st (Xq p104 p108) rfl
 exact re rfl func58 rfl (r_b (B104.st p108 rfl) u79 rfl z79 rfl (Xs rfl Xe)) rfl ⟨_, rfl, v37_0, v37_1, v49_0, v49_1, rfl, A110.fo K113 rfl z.l, z.ky K113⟩
def impl_HeapOk_1_1.f (a0 : (List Int)) : Option (Bool) :=
 ((impl_TupleRead.f a0).bind fun r2 => (some (r2.2 || ((a0.length : Int) == (0 : Int)))))
def impl_HeapOk_1_1.Q (w : World) (F : Nat → Prop) (r : Bool) (v : Value) (w' : World) : Prop :=
 v = (.bool r) ∧ Ky [] w w'
theorem impl_HeapOk_1_1.calls (a0 : (List Int)) (w : World) (F : Nat → Prop) (w0_0 : Value) (h0_0 : Yo.rd w [w0_0] a0 F) (r : Bool) (m : impl_HeapOk_1_1.f a0 = some r) :
  Calls prog 57 #[w0_0] w (RT (impl_HeapOk_1_1.Q w F) r) := by
 obtain ⟨s0, rfl, kp0, z⟩ := Xk w F
 have A0_0 := z.rd h0_0
 refine Xd (args := [w0_0]) func57 ntmps57 rfl rfl m ?_
 unfold impl_HeapOk_1_1.f
 refine sr (Xc rfl (dn (sr (Xx w0_0 rfl (cl' rfl func58 rfl (impl_TupleRead.calls a0 s0.w (mm [0] s0) w0_0 A0_0) ?_)))))
 rintro r2 _ w2 m2 ⟨v2_0, v2_1, v2_2, v2_3, rfl, f2_0, ky2⟩
 obtain ⟨s3, rfl, p3, n3⟩ := nwx s0 w2 40 ky2
 obtain ⟨s4, hw4, p4, hu2_0_0, Au2_0_1, hu2_0_2, Au2_0_3⟩ := ap79 41 (f2_0.c n3) rfl
 rw [hw4]
 refine Xc rfl (Xc (v := (.agg #[(iI r2.1.Xmin), (iI r2.1.Xmax), (iI r2.1.Key.Kind), (iI r2.1.Key.N), v2_0, v2_1, (iI r2.1.Value.Kind), (iI r2.1.Value.N), v2_2, v2_3])) rfl (Xc (v := (.bool r2.2)) rfl (al' (cs := [(iI 0), (iI 0), (iI 0), (iI 0), (.float .f64 0), (.slice none 0 0), (iI 0), (iI 0), (.float .f64 0), (.slice none 0 0)]) 42 rfl o79 rfl (fun b7 s7 p7 B7 => ?_))))
 refine Xu (vs := [(iI r2.1.Xmin), (iI r2.1.Xmax), (iI r2.1.Key.Kind), (iI r2.1.Key.N), v2_0, v2_1, (iI r2.1.Value.Kind), (iI r2.1.Value.N), v2_2, v2_3]) B7 z79 rfl (Xb rfl (Xb rfl (Xb rfl (Xb rfl (Xb (FL.one hu2_0_0) (Xb (Au2_0_1.st p7 rfl).rd.one (Xb rfl (Xb rfl (Xb (FL.one hu2_0_2) (Xb (Au2_0_3.st p7 rfl).rd.one Xi)))))))))) rfl (fun s11 p11 B11 => ?_)
 refine Xc rfl (dn (sr (Xc rfl (Xc rfl (jy [11, 12, 13, 14, 15] [6] 15 (.bool (r2.2 || ((a0.length : Int) == (0 : Int)))) rfl (fun Kg13 => ?_) (fun j13 => ?_))))))
 ·
  rcases Yn r2.2 with hb13 | hb13
  ·
   exact Xy hb13 (Xj rfl (Xj rfl (Xj rfl (Xc rfl (Kg13 _ (Ag.put ((Ag.put ((Ag.put ((Ag.put (Ag.base rfl) rfl)) rfl)) rfl)) rfl) (by rw [hb13]; rfl))))))
  refine Xy hb13 (Xx w0_0 rfl ?_)
  exact Yl (A0_0.kp (kp0.st (tr4 p3 p4 p7 p11) rfl)) u25 rfl (Xc rfl (Xc rfl (Kg13 _ (Ag.put ((Ag.put ((Ag.put ((Ag.put (Ag.base rfl) rfl)) rfl)) rfl)) rfl) (by rw [hb13]; rfl))))
 refine Xc rfl (dn ?_)
 exact re rfl func57 rfl (Xs rfl Xe) rfl ⟨_, rfl, rfl, z.ky (kp0.st (tr4 p3 p4 p7 p11) rfl)⟩
def impl_HeapOk_1.f (a0 : Page) : Option (Bool) :=
 ((impl_PageUsed.f a0).bind fun r6 => ((if (decide (r6 ≥ (0 : Int))) = true then ((impl_areAll_byte.f a0.Slots impl_HeapOk_1_1.f).bind fun r12 => (some r12)) else (some false)).bind fun y8 => (some y8)))
def impl_HeapOk_1.Q (w : World) (F : Nat → Prop) (r : Bool) (v : Value) (w' : World) : Prop :=
 v = (.bool r) ∧ Ky [] w w'
theorem impl_HeapOk_1.calls (a0 : Page) (w : World) (F : Nat → Prop) (w0_0 : Value) (h0_0 : (Kd.sl 25 Yo).rd w [w0_0] a0.Slots F) (r : Bool) (m : impl_HeapOk_1.f a0 = some r) :
  Calls prog 54 #[(.agg #[(iI a0.Lsn), w0_0])] w (RT (impl_HeapOk_1.Q w F) r) := by
 obtain ⟨s0, rfl, kp0, z⟩ := Xk w F
 have A0_0 := z.rd h0_0
 refine Xd (args := [(.agg #[(iI a0.Lsn), w0_0])]) func54 ntmps54 rfl rfl m ?_
 unfold impl_HeapOk_1.f
 refine sr (bx' (cs := [(iI a0.Lsn), w0_0]) 40 rfl rfl (fun b2 s2 p2 B2 => ?_))
 refine Xc rfl (dn (sr (Xw (es := [(iI a0.Lsn), w0_0]) B2 u59 z59 rfl ?_)))
 have K4 := kp0.st p2 rfl
 refine Ym 41 rfl func55 rfl (impl_PageUsed.calls a0 s2.w (mm [0] s2) w0_0 (A0_0.kp K4)) (fun r6 s7 p7 n7 => ?_)
 refine Xc rfl (Xc rfl (ji [8] (fun (y8 : Bool) e w => ∃ (s : St) (e0 : Env), w = s.w ∧ e = upd e0 10 (.bool y8) ∧ Kp s0 s) (fun Gj8 Kj8 => ?_) ?_))
 ·
  rcases Yn (decide (r6 ≥ (0 : Int))) with hb8 | hb8
  ·
   refine Xy hb8 ?_
   rw [if_pos hb8]
   refine Xt fa59_1 rfl (Yb (B2.st p7 rfl) u57 rfl ?_)
   have K10 := K4.st p7 rfl
   refine Ym 42 rfl func56 rfl (impl_areAll_byte.calls a0.Slots impl_HeapOk_1_1.f s7.w (mm [0] s7) w0_0 (.func (.func 57) #[] #[]) (A0_0.kp K10) (fun x0 u0_0 w' k h0 r m =>  ⟨57, _, _, [], [], rfl, func57, rfl, rfl, (impl_HeapOk_1_1.calls x0 w' (fun _ => True) u0_0 h0 r m).mono fun en w2 hq => by obtain ⟨v, e, q⟩ := hq; exact ⟨v, e, q⟩⟩) rfl) (fun r12 s13 p13 n13 => ?_)
   exact Xc rfl (Kj8 _ _ _ ⟨s13, _, rfl, (ue rfl rfl), (K10.st p13 rfl)⟩)
  refine Xy hb8 ?_
  rw [if_neg (by rw [hb8]; decide)]
  refine Xj rfl (Xj rfl (Xj rfl (Xc rfl ?_)))
  exact Kj8 _ _ _ ⟨s7, _, rfl, (ue rfl rfl), (K4.st p7 rfl)⟩
 rintro y8 _ _ ⟨s16, _, rfl, rfl, Ky8⟩
 exact Xc rfl (dn (re rfl func54 rfl (Xs rfl Xe) rfl ⟨_, rfl, rfl, z.ky Ky8⟩))
def impl_HeapOk.f (a0 : Heap) : Option (Bool) :=
 ((if (decide ((a0.Pages.length : Int) ≤ (16 : Int))) = true then ((impl_areAll_impl_Page.f a0.Pages impl_HeapOk_1.f).bind fun r7 => (some r7)) else (some false)).bind fun y6 => (some y6))
def impl_HeapOk.Q (w : World) (F : Nat → Prop) (r : Bool) (v : Value) (w' : World) : Prop :=
 v = (.bool r) ∧ Ky [] w w'
theorem impl_HeapOk.calls (a0 : Heap) (w : World) (F : Nat → Prop) (w0_0 : Value) (h0_0 : Yp.rd w [w0_0] a0.Pages F) (r : Bool) (m : impl_HeapOk.f a0 = some r) :
  Calls prog 33 #[(.agg #[w0_0])] w (RT (impl_HeapOk.Q w F) r) := by
 obtain ⟨s0, rfl, kp0, z⟩ := Xk w F
 refine Xd (args := [(.agg #[w0_0])]) func33 ntmps33 rfl rfl m ?_
 unfold impl_HeapOk.f
 refine sr (bx' (cs := [w0_0]) 40 rfl rfl (fun b2 s2 p2 B2 => ?_))
 refine Xc rfl (dn (sr (Xt fa32_0 rfl (Yb B2 u30 rfl ?_))))
 have K4 := kp0.st p2 rfl
 have A5 := (z.rd h0_0).kp K4
 refine Yl A5 u30 rfl (Xc rfl (Xc rfl (ji [9] (fun (y6 : Bool) e w => ∃ (s : St) (e0 : Env), w = s.w ∧ e = upd e0 11 (.bool y6) ∧ Kp s0 s) (fun Gj6 Kj6 => ?_) ?_)))
 ·
  rcases Yn (decide ((a0.Pages.length : Int) ≤ (16 : Int))) with hb6 | hb6
  ·
   refine Xy hb6 ?_
   rw [if_pos hb6]
   refine Xt fa32_0 rfl (Yb B2 u30 rfl (Ym 41 rfl func53 rfl (impl_areAll_impl_Page.calls a0.Pages impl_HeapOk_1.f s2.w (mm [0] s2) w0_0 (.func (.func 54) #[] #[]) A5 (fun x0 u0_0 w' k h0 r m =>  ⟨54, _, _, [], [], rfl, func54, rfl, rfl, (impl_HeapOk_1.calls x0 w' (fun _ => True) u0_0 h0 r m).mono fun en w2 hq => by obtain ⟨v, e, q⟩ := hq; exact ⟨v, e, q⟩⟩) rfl) (fun r7 s8 p8 n8 => ?_)))
   exact Xc rfl (Kj6 _ _ _ ⟨s8, _, rfl, (ue rfl rfl), (K4.st p8 rfl)⟩)
  refine Xy hb6 ?_
  rw [if_neg (by rw [hb6]; decide)]
  exact Xj rfl (Xj rfl (Xj rfl (Xc rfl (Kj6 _ _ _ ⟨s2, _, rfl, (ue rfl rfl), K4⟩))))
 rintro y6 _ _ ⟨s10, _, rfl, rfl, Ky6⟩
 exact Xc rfl (dn (re rfl func33 rfl (Xs rfl Xe) rfl ⟨_, rfl, rfl, z.ky Ky6⟩))
def impl_isLsn.f (a0 : Int) : Option (Bool) :=
 ((impl_within.f a0 (1 : Int) (1000000 : Int)).bind fun r1 => (some r1))
def impl_isLsn.Q (w : World) (F : Nat → Prop) (r : Bool) (v : Value) (w' : World) : Prop :=
 v = (.bool r) ∧ Ky [] w w'
theorem impl_isLsn.calls (a0 : Int) (w : World) (F : Nat → Prop)   (r : Bool) (m : impl_isLsn.f a0 = some r) :
  Calls prog 59 #[(iI a0)] w (RT (impl_isLsn.Q w F) r) := by
 obtain ⟨s0, rfl, kp0, z⟩ := Xk w F
 refine Xd (args := [(iI a0)]) func59 ntmps59 rfl rfl m ?_
 unfold impl_isLsn.f
 refine sr (Xc rfl (dn (sr (Xc rfl (Ym 40 rfl func63 rfl (impl_within.calls a0 (1 : Int) (1000000 : Int) s0.w (mm [] s0)) (fun r1 s2 p2 n2 => ?_))))))
 refine Xc rfl (dn ?_)
 exact re rfl func59 rfl (Xs rfl Xe) rfl ⟨_, rfl, rfl, z.ky (kp0.st p2 rfl)⟩
def impl_isPage.f (a0 : Int) : Option (Bool) :=
 ((impl_within.f a0 (0 : Int) (15 : Int)).bind fun r1 => (some r1))
def impl_isPage.Q (w : World) (F : Nat → Prop) (r : Bool) (v : Value) (w' : World) : Prop :=
 v = (.bool r) ∧ Ky [] w w'
theorem impl_isPage.calls (a0 : Int) (w : World) (F : Nat → Prop)   (r : Bool) (m : impl_isPage.f a0 = some r) :
  Calls prog 60 #[(iI a0)] w (RT (impl_isPage.Q w F) r) := by
 obtain ⟨s0, rfl, kp0, z⟩ := Xk w F
 refine Xd (args := [(iI a0)]) func60 ntmps60 rfl rfl m ?_
 unfold impl_isPage.f
 refine sr (Xc rfl (dn (sr (Xc rfl (Ym 40 rfl func63 rfl (impl_within.calls a0 (0 : Int) (15 : Int) s0.w (mm [] s0)) (fun r1 s2 p2 n2 => ?_))))))
 refine Xc rfl (dn ?_)
 exact re rfl func60 rfl (Xs rfl Xe) rfl ⟨_, rfl, rfl, z.ky (kp0.st p2 rfl)⟩
def impl_isSlot.f (a0 : Int) : Option (Bool) :=
 ((impl_within.f a0 (0 : Int) (15 : Int)).bind fun r1 => (some r1))
def impl_isSlot.Q (w : World) (F : Nat → Prop) (r : Bool) (v : Value) (w' : World) : Prop :=
 v = (.bool r) ∧ Ky [] w w'
theorem impl_isSlot.calls (a0 : Int) (w : World) (F : Nat → Prop)   (r : Bool) (m : impl_isSlot.f a0 = some r) :
  Calls prog 61 #[(iI a0)] w (RT (impl_isSlot.Q w F) r) := by
 obtain ⟨s0, rfl, kp0, z⟩ := Xk w F
 refine Xd (args := [(iI a0)]) func61 ntmps61 rfl rfl m ?_
 unfold impl_isSlot.f
 refine sr (Xc rfl (dn (sr (Xc rfl (Ym 40 rfl func63 rfl (impl_within.calls a0 (0 : Int) (15 : Int) s0.w (mm [] s0)) (fun r1 s2 p2 n2 => ?_))))))
 refine Xc rfl (dn ?_)
 exact re rfl func61 rfl (Xs rfl Xe) rfl ⟨_, rfl, rfl, z.ky (kp0.st p2 rfl)⟩
def impl_RecordOk.f (a0 : Record) : Option (Bool) :=
 ((impl_isLsn.f a0.Lsn).bind fun r4 => (if (!r4) = true then (some false) else ((impl_isPage.f a0.Page).bind fun r23 => ((if r23 = true then ((impl_isSlot.f a0.Slot).bind fun r36 => (some r36)) else (some false)).bind fun y27 => (if (a0.Kind == (1 : Int)) = true then ((impl_isPage.f a0.Page).bind fun r59 => (some (((r59 && ((a0.Data.length : Int) == (256 : Int))) && (a0.Xid == (0 : Int))) && (a0.Slot == (0 : Int))))) else (if (a0.Kind == (2 : Int)) = true then ((impl_isXid.f a0.Xid).bind fun r68 => ((if (r68 && y27) = true then ((impl_within.f (a0.Data.length : Int) (1 : Int) (92 : Int)).bind fun r72 => (some r72)) else (some false)).bind fun y71 => (some y71))) else (if (a0.Kind == (3 : Int)) = true then ((impl_isXid.f a0.Xid).bind fun r78 => (some ((r78 && y27) && ((a0.Data.length : Int) == (0 : Int))))) else (if (a0.Kind == (4 : Int)) = true then (some (((a0.Xid == (0 : Int)) && y27) && ((a0.Data.length : Int) == (0 : Int)))) else (if (a0.Kind == (5 : Int)) = true then ((impl_isXid.f a0.Xid).bind fun r87 => (some (((r87 && (a0.Page == (0 : Int))) && (a0.Slot == (0 : Int))) && ((a0.Data.length : Int) == (0 : Int))))) else (some false))))))))))
def impl_RecordOk.Q (w : World) (F : Nat → Prop) (r : Bool) (v : Value) (w' : World) : Prop :=
 v = (.bool r) ∧ Ky [] w w'
theorem impl_RecordOk.calls (a0 : Record) (w : World) (F : Nat → Prop) (w0_0 : Value) (h0_0 : Yo.rd w [w0_0] a0.Data F) (r : Bool) (m : impl_RecordOk.f a0 = some r) :
  Calls prog 34 #[(.agg #[(iI a0.Kind), (iI a0.Lsn), (iI a0.Xid), (iI a0.Page), (iI a0.Slot), w0_0])] w (RT (impl_RecordOk.Q w F) r) := by
 obtain ⟨s0, rfl, kp0, z⟩ := Xk w F
 have A0_0 := z.rd h0_0
 refine Xd (args := [(.agg #[(iI a0.Kind), (iI a0.Lsn), (iI a0.Xid), (iI a0.Page), (iI a0.Slot), w0_0])]) func34 ntmps34 rfl rfl m ?_
 unfold impl_RecordOk.f
 refine sr (bx' (cs := [(iI a0.Kind), (iI a0.Lsn), (iI a0.Xid), (iI a0.Page), (iI a0.Slot), w0_0]) 40 rfl rfl (fun b2 s2 p2 B2 => ?_))
 refine Xc rfl (dn (sq (sr (Xt fa36_1 rfl (Yb B2 u3 rfl (Ym 41 rfl func59 rfl (impl_isLsn.calls a0.Lsn s2.w (mm [] s2)) (fun r4 s5 p5 n5 => ?_)))))))
 refine Xc rfl (dn (cd rfl (fun h6 => ?_) (fun h6 => ?_)))
 ·
  refine sr (Xc rfl (dn ?_))
  exact re rfl func34 rfl (Xs rfl Xe) rfl ⟨_, rfl, rfl, z.ky (kp0.st (Xq p2 p5) rfl)⟩
 refine sk (sq (zdraw [[], [0], [1], [], [3], [4], [5, 5], [6], [7, 6], [8, 6, 6], [6, 9], [2, 9, 0, 1, 2], [10, 11, 0, 1, 2, 3, 4, 5, 6, 7, 8, 9, 10, 11]] [some 9, some 10, some 11, some 12, some 13, some 14, some 15, some 16, some 17, some 18, some 19, some 3, some 4] [[1], [9], [10], [1], [12], [13], [14], [1, 15], [16, 15], [17, 15], [15, 18], [11], [19]] [0, 1, 2, 3, 4, 5, 6, 7, 8, 9, 11, 10, 12] ⟨by kernel_rfl, by kernel_rfl, by kernel_rfl⟩ (by kernel_rfl) (fun s8 p8 l8 tb8 zd8 => ?_)))
 refine Yc 5 [some 11, some 10, some 9] tb8 (((((zd8.add 0 9 (pO b2 5) rfl).add 1 10 w0_0 rfl).add 2 11 (iI (a0.Data.length : Int)) rfl).add 3 12 (pO b2 3) rfl).add 4 13 (iI a0.Page) rfl) (Xa (Xp (B2.st (Xq p5 p8) rfl) u3 rfl) rfl (Xa (Xr fa36_3 rfl) rfl (Xa (ln_q (A0_0.kp (kp0.st (Yi p2 p5 p8) rfl)) u25 rfl rfl rfl rfl rfl rfl) rfl (Xa (Xp (B2.st (Xq p5 p8) rfl) u25 rfl) rfl (Xa (Xr fa36_5 rfl) rfl Xg))))) (by kernel_rfl) rfl (fun l18 e18 zd18 => ?_)
 refine Ym 42 rfl func60 rfl (impl_isPage.calls a0.Page s8.w (mm [] s8)) (fun r23 s24 p24 n24 => ?_)
 refine Xl (L' := [2, 1, 0]) (D' := [3, 4, 5]) zd18 rfl (fun zd25 => ?_)
 have zd26 := zd25.add 6 15 (.bool r23) rfl
 refine ji [12] (fun (y27 : Bool) e w => ∃ (s : St) (e0 : Env), w = s.w ∧ e = upd (upd (upd e0 1 (pB b2)) 3 (iI (a0.Data.length : Int))) 19 (.bool y27) ∧ Kp s0 s ∧ BlF s b2 36 [(iI a0.Kind), (iI a0.Lsn), (iI a0.Xid), (iI a0.Page), (iI a0.Slot), w0_0] 40) (fun Gj27 Kj27 => ?_) ?_
 ·
  rcases Yn r23 with hb27 | hb27
  ·
   rw [if_pos hb27]
   rw [hb27] at zd26
   try rw [hb27]
   refine Yc 9 [some 11, some 10, some 9] tb8 ((zd26.add 7 16 (pO b2 4) rfl).add 8 17 (iI a0.Slot) rfl) (Xa (Xp (B2.st (Yi p5 p8 p24) rfl) u3 rfl) rfl (Xa (Xr fa36_4 rfl) rfl (Xa (Xm rfl) rfl (Xa (ln_q (A0_0.kp (kp0.st (tr4 p2 p5 p8 p24) rfl)) u25 rfl rfl rfl rfl rfl rfl) rfl (Xa (Xp (B2.st (Yi p5 p8 p24) rfl) u25 rfl) rfl (Xa (Xr fa36_5 rfl) rfl Xg)))))) (by kernel_rfl) rfl (fun l31 e31 zd31 => ?_)
   refine Ym 43 rfl func61 rfl (impl_isSlot.calls a0.Slot s24.w (mm [] s24)) (fun r36 s37 p37 n37 => ?_)
   refine Xl (L' := [2, 1, 0]) (D' := [7, 8, 6, 6, 9, 3, 4, 5]) zd31 rfl (fun zd38 => ?_)
   exact zfin [12] tb8 ((zd38.add 10 19 (.bool r36) rfl).add 11 3 (iI (a0.Data.length : Int)) rfl) (Xa (Xm rfl) rfl (Xa (Xm rfl) rfl (Xa (ln_q (A0_0.kp (kp0.st (tr5 p2 p5 p8 p24 p37) rfl)) u25 rfl rfl rfl rfl rfl rfl) rfl (Xa (Xp (B2.st (tr4 p5 p8 p24 p37) rfl) u25 rfl) rfl (Xa (Xr fa36_5 rfl) rfl Xg))))) (by kernel_rfl) (by decide) (Kj27 _ _ _ ⟨s37, _, rfl, (ue (ue (ue rfl rfl) rfl) rfl), (kp0.st (tr5 p2 p5 p8 p24 p37) rfl), (B2.st (tr4 p5 p8 p24 p37) rfl)⟩)
  rw [if_neg (by rw [hb27]; decide)]
  rw [hb27] at zd26
  try rw [hb27]
  exact zfin [12] tb8 (((((zd26.add 7 16 undef rfl).add 8 17 undef rfl).add 9 18 undef rfl).add 10 19 (.bool false) rfl).add 11 3 (iI (a0.Data.length : Int)) rfl) (Xa (Xm rfl) rfl (Xa (Xm rfl) rfl (Xa (uw_q rfl rfl rfl rfl rfl) rfl (Xa (uw_q rfl rfl rfl rfl rfl) rfl (Xa (uw_q rfl rfl rfl rfl rfl) rfl (Xa (Xm rfl) rfl (Xa (ln_q (A0_0.kp (kp0.st (tr4 p2 p5 p8 p24) rfl)) u25 rfl rfl rfl rfl rfl rfl) rfl (Xa (Xp (B2.st (Yi p5 p8 p24) rfl) u25 rfl) rfl (Xa (Xr fa36_5 rfl) rfl Xg))))))))) (by kernel_rfl) (by decide) (Kj27 _ _ _ ⟨s24, _, rfl, (ue (ue (ue rfl rfl) rfl) rfl), (kp0.st (tr4 p2 p5 p8 p24) rfl), (B2.st (Yi p5 p8 p24) rfl)⟩)
 rintro y27 _ _ ⟨s56, _, rfl, rfl, Ky27, By27_b2⟩
 refine Xc rfl (dn (sq (sr (Xt fa36_0 rfl (Yb By27_b2 u3 rfl (dn (bl (sr (Xc rfl (Xc rfl (dn (cd rfl (fun h58 => ?_) (fun h58 => ?_)))))))))))))
 ·
  refine sr (Xt fa36_3 rfl (Yb By27_b2 u3 rfl (Ym 44 rfl func60 rfl (impl_isPage.calls a0.Page s56.w (mm [] s56)) (fun r59 s60 p60 n60 => ?_))))
  refine Xc rfl (jy [27, 28, 29, 30] [7, 8, 9, 10, 11, 12, 13, 14, 15, 16, 17] 30 (.bool (r59 && ((a0.Data.length : Int) == (256 : Int)))) rfl (fun Kg61 => ?_) (fun j61 => ?_))
  ·
   rcases Yn r59 with hb61 | hb61
   ·
    exact Xy hb61 (Xc rfl (Xc rfl (Xc rfl (Kg61 _ (Ag.put ((Ag.put ((Ag.put (Ag.base rfl) rfl)) rfl)) rfl) (by rw [hb61]; rfl)))))
   exact Xy hb61 (Xj rfl (Xj rfl (Xc rfl (Kg61 _ (Ag.put ((Ag.put ((Ag.put (Ag.base rfl) rfl)) rfl)) rfl) (by rw [hb61]; rfl)))))
  refine Xc rfl (jy [31, 32, 33, 34, 35] [12, 13, 14, 15, 16, 17] 35 (.bool ((r59 && ((a0.Data.length : Int) == (256 : Int))) && (a0.Xid == (0 : Int)))) rfl (fun Kg62 => ?_) (fun j62 => ?_))
  ·
   rcases Yn (r59 && ((a0.Data.length : Int) == (256 : Int))) with hb62 | hb62
   ·
    refine Xy hb62 (Xt fa36_2 rfl ?_)
    exact Yb (By27_b2.st p60 rfl) u3 rfl (Xc rfl (Xc rfl (Kg62 _ (Ag.put ((Ag.put ((Ag.put ((Ag.put (Ag.base rfl) rfl)) rfl)) rfl)) rfl) (by rw [hb62]; rfl))))
   exact Xy hb62 (Xj rfl (Xj rfl (Xj rfl (Xc rfl (Kg62 _ (Ag.put ((Ag.put ((Ag.put ((Ag.put (Ag.base rfl) rfl)) rfl)) rfl)) rfl) (by rw [hb62]; rfl))))))
  refine Xc rfl (jy [36, 37, 38, 39, 40] [17] 40 (.bool (((r59 && ((a0.Data.length : Int) == (256 : Int))) && (a0.Xid == (0 : Int))) && (a0.Slot == (0 : Int)))) rfl (fun Kg64 => ?_) (fun j64 => ?_))
  ·
   rcases Yn ((r59 && ((a0.Data.length : Int) == (256 : Int))) && (a0.Xid == (0 : Int))) with hb64 | hb64
   ·
    refine Xy hb64 (Xt fa36_4 rfl ?_)
    exact Yb (By27_b2.st p60 rfl) u3 rfl (Xc rfl (Xc rfl (Kg64 _ (Ag.put ((Ag.put ((Ag.put ((Ag.put (Ag.base rfl) rfl)) rfl)) rfl)) rfl) (by rw [hb64]; rfl))))
   exact Xy hb64 (Xj rfl (Xj rfl (Xj rfl (Xc rfl (Kg64 _ (Ag.put ((Ag.put ((Ag.put ((Ag.put (Ag.base rfl) rfl)) rfl)) rfl)) rfl) (by rw [hb64]; rfl))))))
  refine Xc rfl (dn ?_)
  exact re rfl func34 rfl (Xs rfl Xe) rfl ⟨_, rfl, rfl, z.ky (Ky27.st p60 rfl)⟩
 refine sr (Xc rfl (Xc rfl (dn (cd rfl (fun h67 => ?_) (fun h67 => ?_)))))
 ·
  refine sr (Xt fa36_2 rfl (Yb By27_b2 u3 rfl (Ym 45 rfl func62 rfl (impl_isXid.calls a0.Xid s56.w (mm [] s56)) (fun r68 s69 p69 n69 => ?_))))
  refine Xc rfl (jy [46, 47, 48] [6, 7, 8, 9, 10] 48 (.bool (r68 && y27)) rfl (fun Kg70 => ?_) (fun j70 => ?_))
  ·
   rcases Yn r68 with hb70 | hb70
   ·
    exact Xy hb70 (Xc rfl (Xc rfl (Kg70 _ (Ag.put ((Ag.put (Ag.base rfl) rfl)) rfl) (by rw [hb70]; rfl))))
   exact Xy hb70 (Xj rfl (Xc rfl (Kg70 _ (Ag.put ((Ag.put (Ag.base rfl) rfl)) rfl) (by rw [hb70]; rfl))))
  refine Xc rfl (ji [10] (fun (y71 : Bool) e w => ∃ (s : St) (e0 : Env), w = s.w ∧ e = upd e0 52 (.bool y71) ∧ Kp s0 s) (fun Gj71 Kj71 => ?_) ?_)
  ·
   rcases Yn (r68 && y27) with hb71 | hb71
   ·
    refine Xy hb71 ?_
    rw [if_pos hb71]
    refine Xc rfl (Ym 46 rfl func63 rfl (impl_within.calls (a0.Data.length : Int) (1 : Int) (92 : Int) s69.w (mm [] s69)) (fun r72 s73 p73 n73 => ?_))
    exact Xc rfl (Kj71 _ _ _ ⟨s73, _, rfl, (ue rfl rfl), (Ky27.st (Xq p69 p73) rfl)⟩)
   refine Xy hb71 ?_
   rw [if_neg (by rw [hb71]; decide)]
   refine Xj rfl (Xj rfl (Xc rfl ?_))
   exact Kj71 _ _ _ ⟨s69, _, rfl, (ue rfl rfl), (Ky27.st p69 rfl)⟩
  rintro y71 _ _ ⟨s76, _, rfl, rfl, Ky71⟩
  exact Xc rfl (dn (re rfl func34 rfl (Xs rfl Xe) rfl ⟨_, rfl, rfl, z.ky Ky71⟩))
 refine sr (Xc rfl (Xc rfl (dn (cd rfl (fun h77 => ?_) (fun h77 => ?_)))))
 ·
  refine sr (Xt fa36_2 rfl (Yb By27_b2 u3 rfl (Ym 47 rfl func62 rfl (impl_isXid.calls a0.Xid s56.w (mm [] s56)) (fun r78 s79 p79 n79 => ?_))))
  refine Xc rfl (jy [58, 59, 60] [6, 7, 8, 9, 10] 60 (.bool (r78 && y27)) rfl (fun Kg80 => ?_) (fun j80 => ?_))
  ·
   rcases Yn r78 with hb80 | hb80
   ·
    exact Xy hb80 (Xc rfl (Xc rfl (Kg80 _ (Ag.put ((Ag.put (Ag.base rfl) rfl)) rfl) (by rw [hb80]; rfl))))
   exact Xy hb80 (Xj rfl (Xc rfl (Kg80 _ (Ag.put ((Ag.put (Ag.base rfl) rfl)) rfl) (by rw [hb80]; rfl))))
  refine Xc rfl (jy [61, 62, 63, 64] [10] 64 (.bool ((r78 && y27) && ((a0.Data.length : Int) == (0 : Int)))) rfl (fun Kg81 => ?_) (fun j81 => ?_))
  ·
   rcases Yn (r78 && y27) with hb81 | hb81
   ·
    exact Xy hb81 (Xc rfl (Xc rfl (Xc rfl (Kg81 _ (Ag.put ((Ag.put ((Ag.put (Ag.base rfl) rfl)) rfl)) rfl) (by rw [hb81]; rfl)))))
   exact Xy hb81 (Xj rfl (Xj rfl (Xc rfl (Kg81 _ (Ag.put ((Ag.put ((Ag.put (Ag.base rfl) rfl)) rfl)) rfl) (by rw [hb81]; rfl)))))
  refine Xc rfl (dn ?_)
  exact re rfl func34 rfl (Xs rfl Xe) rfl ⟨_, rfl, rfl, z.ky (Ky27.st p79 rfl)⟩
 refine sr (Xc rfl (Xc rfl (dn (cd rfl (fun h83 => ?_) (fun h83 => ?_)))))
 ·
  refine sr (Xt fa36_2 rfl (Yb By27_b2 u3 rfl (Xc rfl (Xc rfl (jy [70, 71, 72] [6, 7, 8, 9, 10] 72 (.bool ((a0.Xid == (0 : Int)) && y27)) rfl (fun Kg84 => ?_) (fun j84 => ?_))))))
  ·
   rcases Yn (a0.Xid == (0 : Int)) with hb84 | hb84
   ·
    exact Xy hb84 (Xc rfl (Xc rfl (Kg84 _ (Ag.put ((Ag.put (Ag.base rfl) rfl)) rfl) (by rw [hb84]; rfl))))
   exact Xy hb84 (Xj rfl (Xc rfl (Kg84 _ (Ag.put ((Ag.put (Ag.base rfl) rfl)) rfl) (by rw [hb84]; rfl))))
  refine Xc rfl (jy [73, 74, 75, 76] [10] 76 (.bool (((a0.Xid == (0 : Int)) && y27) && ((a0.Data.length : Int) == (0 : Int)))) rfl (fun Kg85 => ?_) (fun j85 => ?_))
  ·
   rcases Yn ((a0.Xid == (0 : Int)) && y27) with hb85 | hb85
   ·
    exact Xy hb85 (Xc rfl (Xc rfl (Xc rfl (Kg85 _ (Ag.put ((Ag.put ((Ag.put (Ag.base rfl) rfl)) rfl)) rfl) (by rw [hb85]; rfl)))))
   exact Xy hb85 (Xj rfl (Xj rfl (Xc rfl (Kg85 _ (Ag.put ((Ag.put ((Ag.put (Ag.base rfl) rfl)) rfl)) rfl) (by rw [hb85]; rfl)))))
  exact Xc rfl (dn (re rfl func34 rfl (Xs rfl Xe) rfl ⟨_, rfl, rfl, z.ky Ky27⟩))
 refine sr (Xc rfl (Xc rfl (dn (cd rfl (fun h86 => ?_) (fun h86 => ?_)))))
 ·
  refine sr (Xt fa36_2 rfl (Yb By27_b2 u3 rfl (Ym 48 rfl func62 rfl (impl_isXid.calls a0.Xid s56.w (mm [] s56)) (fun r87 s88 p88 n88 => ?_))))
  refine Xc rfl (jy [82, 83, 84, 85, 86] [8, 9, 10, 11, 12, 13, 14, 15, 16, 17] 86 (.bool (r87 && (a0.Page == (0 : Int)))) rfl (fun Kg89 => ?_) (fun j89 => ?_))
  ·
   rcases Yn r87 with hb89 | hb89
   ·
    refine Xy hb89 (Xt fa36_3 rfl ?_)
    exact Yb (By27_b2.st p88 rfl) u3 rfl (Xc rfl (Xc rfl (Kg89 _ (Ag.put ((Ag.put ((Ag.put ((Ag.put (Ag.base rfl) rfl)) rfl)) rfl)) rfl) (by rw [hb89]; rfl))))
   exact Xy hb89 (Xj rfl (Xj rfl (Xj rfl (Xc rfl (Kg89 _ (Ag.put ((Ag.put ((Ag.put ((Ag.put (Ag.base rfl) rfl)) rfl)) rfl)) rfl) (by rw [hb89]; rfl))))))
  refine Xc rfl (jy [87, 88, 89, 90, 91] [13, 14, 15, 16, 17] 91 (.bool ((r87 && (a0.Page == (0 : Int))) && (a0.Slot == (0 : Int)))) rfl (fun Kg91 => ?_) (fun j91 => ?_))
  ·
   rcases Yn (r87 && (a0.Page == (0 : Int))) with hb91 | hb91
   ·
    refine Xy hb91 (Xt fa36_4 rfl ?_)
    exact Yb (By27_b2.st p88 rfl) u3 rfl (Xc rfl (Xc rfl (Kg91 _ (Ag.put ((Ag.put ((Ag.put ((Ag.put (Ag.base rfl) rfl)) rfl)) rfl)) rfl) (by rw [hb91]; rfl))))
   exact Xy hb91 (Xj rfl (Xj rfl (Xj rfl (Xc rfl (Kg91 _ (Ag.put ((Ag.put ((Ag.put ((Ag.put (Ag.base rfl) rfl)) rfl)) rfl)) rfl) (by rw [hb91]; rfl))))))
  refine Xc rfl (jy [92, 93, 94, 95] [17] 95 (.bool (((r87 && (a0.Page == (0 : Int))) && (a0.Slot == (0 : Int))) && ((a0.Data.length : Int) == (0 : Int)))) rfl (fun Kg93 => ?_) (fun j93 => ?_))
  ·
   rcases Yn ((r87 && (a0.Page == (0 : Int))) && (a0.Slot == (0 : Int))) with hb93 | hb93
   ·
    exact Xy hb93 (Xc rfl (Xc rfl (Xc rfl (Kg93 _ (Ag.put ((Ag.put ((Ag.put (Ag.base rfl) rfl)) rfl)) rfl) (by rw [hb93]; rfl)))))
   exact Xy hb93 (Xj rfl (Xj rfl (Xc rfl (Kg93 _ (Ag.put ((Ag.put ((Ag.put (Ag.base rfl) rfl)) rfl)) rfl) (by rw [hb93]; rfl)))))
  refine Xc rfl (dn ?_)
  exact re rfl func34 rfl (Xs rfl Xe) rfl ⟨_, rfl, rfl, z.ky (Ky27.st p88 rfl)⟩
 exact sk (ib (sr (Xc rfl (dn (re rfl func34 rfl (Xs rfl Xe) rfl ⟨_, rfl, rfl, z.ky Ky27⟩)))))
def impl_Page_slots.b0 (a0 : Page) (x6 : (List (List Int)) × Int) : Option (((List (List Int)) × Int) ⊕ (List (List Int))) :=
 (if (decide (x6.2 < (a0.Slots.length : Int))) = true then (if 0 ≤ x6.2 ∧ x6.2 < (a0.Slots.length : Int) then ((slices_Clone_byte_byte.f (at_ a0.Slots x6.2)).bind fun r14 => (if x6.1.length + ([r14]).length ≤ Lim then (some (Sum.inl ((x6.1 ++ [r14]), (IntKind.wrap .i64 (x6.2 + (1 : Int)))))) else none)) else none) else ((some x6.1).bind fun o => some (Sum.inr o)))
def impl_Page_slots.f (a0 : Page) : Option ((List (List Int))) :=
 (iter (impl_Page_slots.b0 a0) (([] : (List (List Int))), (0 : Int)))
def impl_Page_slots.Q (w : World) (F : Nat → Prop) (r : (List (List Int))) (v : Value) (w' : World) : Prop :=
 FO (Kd.sl 25 Yo) w w' [v] r ∧ Ky [] w w'
theorem impl_Page_slots.calls (a0 : Page) (w : World) (F : Nat → Prop) (w0_0 : Value) (h0_0 : (Kd.sl 25 Yo).rd w [w0_0] a0.Slots F) (r : (List (List Int))) (m : impl_Page_slots.f a0 = some r) :
  Calls prog 35 #[(.agg #[(iI a0.Lsn), w0_0])] w (RT (impl_Page_slots.Q w F) r) := by
 obtain ⟨s0, rfl, kp0, z⟩ := Xk w F
 have A0_0 := z.rd h0_0
 refine Xd (args := [(.agg #[(iI a0.Lsn), w0_0])]) func35 ntmps35 rfl rfl m ?_
 unfold impl_Page_slots.f
 refine sr (bx' (cs := [(iI a0.Lsn), w0_0]) 40 rfl rfl (fun b2 s2 p2 B2 => ?_))
 refine Xc rfl (dn (sr (Xc rfl (dn (sq (sr (Xt fa59_1 rfl (Yb B2 u57 rfl ?_))))))))
 have K4 := kp0.st p2 rfl
 refine Yl (A0_0.kp K4) u57 rfl (Xc rfl (dn (bl (lpI (fun (x6 : (List (List Int)) × Int) e w => ∃ (s : St) (e0 : Env) (vx6_0 : Value), w = s.w ∧ e = upd (upd (upd (upd e0 3 vx6_0) 7 w0_0) 8 (iI (a0.Slots.length : Int))) 9 (iI x6.2) ∧ Kp s0 s ∧ OwF (Kd.sl 25 Yo) s [vx6_0] x6.1 42) ⟨s2, _, (.slice none 0 0), rfl, (ue (ue (ue (ue rfl rfl) rfl) rfl) rfl), K4, (Yk 25 Yo _ 42)⟩ (fun g6 ih6 => ?_)))))
 rintro x6 _ _ ⟨s7, _, vx6_0, rfl, rfl, Kx6, Ax6_0⟩
 unfold impl_Page_slots.b0
 refine sr (Xc rfl (dn (sq (cd rfl (fun h9 => ?_) (fun h9 => ?_)))))
 ·
  refine sk (sq (bl (sr ?_)))
  refine ix' (A0_0.kp Kx6) u57 z25 rfl (fun ad11 es11 h0_11 h1_11 he11 ce11 ia11 => ?_)
  obtain ⟨v11, rfl, he11'⟩ := he11
  have A11 : RdF Yo s7 [v11] (at_ a0.Slots x6.2) [0] := ⟨v11, rfl, he11'⟩
  refine lc0' ce11 u25 rfl (Yd v11 rfl (dn (rg (Xx vx6_0 rfl (Xx v11 rfl (clO 43 rfl func64 rfl (slices_Clone_byte_byte.calls (at_ a0.Slots x6.2) s7.w (mm [0] s7) v11 A11) (fun r14 v14_0 s15 p15 A14_0 => ?_)))))))
  refine ltO (K := Yo) (cells := [v14_0]) [r14] 43 u57 z25 o25 (lo_one A14_0) rfl rfl rfl rfl rfl rfl rfl rfl rfl (lfill_pc (pc_c (oc A14_0.rd.one) pc_n) rfl) (fun v18 s18 p18 A18 => ?_)
  refine apO sl57 (Ax6_0.st (Xq p15 p18) rfl) A18 rfl rfl rfl rfl rfl rfl rfl rfl rfl (fun v21 s21 p21 A21 => ?_)
  refine Yd v21 rfl (dn (ib (rg (Xc rfl (Xc rfl (dn ?_))))))
  exact lb ih6 ⟨s21, _, v21, rfl, (ue (ue (ue (ue rfl rfl) rfl) rfl) rfl), (Kx6.st (Yi p15 p18 p21) rfl), A21⟩
 exact xt rfl (sgb (sr (Xx vx6_0 rfl (Yd vx6_0 rfl (dn (re rfl func35 rfl (Xs rfl Xe) rfl ⟨_, rfl, Ax6_0.fo Kx6 rfl z.l, z.ky Kx6⟩))))))
def slices_Chunk_byte_byte_1.b0 {σ : Type} (a0 : (σ → (List Int) → Option σ)) (a1 : (List Int)) (a2 : Int) (x5 : Int × σ) : Option ((Int × σ) ⊕ σ) :=
 (if (decide (x5.1 < (a1.length : Int))) = true then (if 0 ≤ x5.1 ∧ x5.1 ≤ (a1.length : Int) then (if 0 ≤ x5.1 ∧ x5.1 ≤ (IntKind.wrap .i64 (x5.1 + (if ((a1.drop (x5.1).toNat).length : Int) < a2 then ((a1.drop (x5.1).toNat).length : Int) else a2))) ∧ (IntKind.wrap .i64 (x5.1 + (if ((a1.drop (x5.1).toNat).length : Int) < a2 then ((a1.drop (x5.1).toNat).length : Int) else a2))) ≤ (IntKind.wrap .i64 (x5.1 + (if ((a1.drop (x5.1).toNat).length : Int) < a2 then ((a1.drop (x5.1).toNat).length : Int) else a2))) ∧ (IntKind.wrap .i64 (x5.1 + (if ((a1.drop (x5.1).toNat).length : Int) < a2 then ((a1.drop (x5.1).toNat).length : Int) else a2))) ≤ (a1.length : Int) then ((a0 x5.2 ((a1.take ((IntKind.wrap .i64 (x5.1 + (if ((a1.drop (x5.1).toNat).length : Int) < a2 then ((a1.drop (x5.1).toNat).length : Int) else a2)))).toNat).drop (x5.1).toNat)).bind fun y30 => (some (Sum.inl ((IntKind.wrap .i64 (x5.1 + a2)), y30)))) else none) else none) else ((some x5.2).bind fun o => some (Sum.inr o)))
def slices_Chunk_byte_byte_1.f {σ : Type} (a0 : σ → (List Int) → Option σ) (y0 : σ) (a1 : (List Int)) (a2 : Int) : Option σ :=
 (iter (slices_Chunk_byte_byte_1.b0 a0 a1 a2) ((0 : Int), y0))
theorem slices_Chunk_byte_byte_1.calls {σ : Type} (a0 : σ → (List Int) → Option σ) (y0 : σ) (a1 : (List Int)) (a2 : Int) (c1 : Nat) (c2 : Nat) (w1_0 : Value) (J : σ → World → Prop) (yN : Nat) (w : World) (hJ : ∀ y w w', J y w → Ky [] w w' → J y w') (hJr : ∀ y w, J y w → BlW w c1 25 [w1_0] ∧ BlW w c2 3 [.int .i64 a2] ∧ Yo.rd w [w1_0] a1 (fun _ => True)) (hy : ∀ y w' (part : (List Int)) (u : Value), J y w' → (∀ C' s', s'.w = w' → RdF Yo s' [w1_0] a1 C' → RdF Yo s' [u] part C') → ∀ y', a0 y part = some y' → YV prog yN u w' (fun w'' => J y' w'' ∧ Wg w' w'')) (hj0 : J y0 w) (r : σ) (m : slices_Chunk_byte_byte_1.f a0 y0 a1 a2 = some r) :
  Calls prog 119 #[(.func (.yield yN) #[] #[]), (pB c1), (pB c2)] w (fun en w' => ∃ v, en = .returned v ∧ v = .tuple #[] ∧ J r w' ∧ Wg w w') := by
 obtain ⟨s0, rfl, kp0, z⟩ := startY w
 obtain ⟨q1, q2, q3⟩ := hJr _ _ hj0
 have J0 : JF J s0 y0 := hj0
 refine Xd (R := fun r en w' => ∃ v, en = .returned v ∧ v = .tuple #[] ∧ J r w' ∧ Wg s0.w w') (args := [(.func (.yield yN) #[] #[]), (pB c1), (pB c2)]) func119 ntmps119 rfl rfl m ?_
 unfold slices_Chunk_byte_byte_1.f
 refine sr (Xc rfl (dn (bl (lpI (fun (x5 : Int × σ) e w => ∃ (s : St) (e0 : Env), w = s.w ∧ e = upd (upd (upd (upd e0 0 (.func (.yield yN) #[] #[])) 1 (pB c1)) 2 (pB c2)) 4 (iI x5.1) ∧ Kp s0 s ∧ JF J s x5.2 ∧ BlF s c2 3 [(iI a2)] 41 ∧ BlF s c1 25 [w1_0] 41 ∧ RdF Yo s [w1_0] a1 [41]) ⟨s0, _, rfl, (ue (ue (ue (ue rfl rfl) rfl) rfl) rfl), kp0, J0, (zy_b z q2), (zy_b z q1), (zy_r z q3)⟩ (fun g5 ih5 => ?_)))))
 rintro x5 _ _ ⟨s6, _, rfl, rfl, Kx5, Bx5_p99, Bx5_c2, Bx5_c1, Cx5_2⟩
 unfold slices_Chunk_byte_byte_1.b0
 refine sq (sr (Xc rfl (Yb Bx5_c1 u25 rfl (Yl Cx5_2 u25 rfl (Xc rfl (dn (cd rfl (fun h10 => ?_) (fun h10 => ?_))))))))
 ·
  refine sk (sq (bl (sq (zdraw [[], [], [], [1, 2], [3], [0, 4], [5, 0, 1, 2, 3, 4, 5]] [some 13, some 14, some 15, some 16, some 17, some 18, some 5] [[2], [1], [4], [14, 15], [16], [13, 17], [18]] [0, 1, 2, 3, 4, 5, 6] ⟨by kernel_rfl, by kernel_rfl, by kernel_rfl⟩ (by kernel_rfl) (fun s11 p11 l11 tb11 zd11 => ?_)))))
  refine Yc 3 [some 13] tb11 (((zd11.add 0 13 (iI a2) rfl).add 1 14 w1_0 rfl).add 2 15 (iI x5.1) rfl) (Xa (Xm rfl) rfl (Xa (Xp (Bx5_c1.st p11 rfl) u25 rfl) rfl (Xa (Xp (Bx5_c2.st p11 rfl) u3 rfl) rfl Xg))) (by kernel_rfl) rfl (fun l17 e17 zd17 => ?_)
  have A20 := Cx5_2.st p11 rfl
  refine sla A20 u25 z5 rfl rfl rfl rfl rfl rfl rfl (fun v21 A21 => ?_)
  refine Xl (L' := [0]) (D' := [1, 2, 3]) zd17 rfl (fun zd23 => ?_)
  refine zfin [5, 6] tb11 (zd23.add 4 17 (iI ((a1.drop (x5.1).toNat).length : Int)) rfl) (Xa (ln_q A21 u25 rfl rfl rfl rfl rfl rfl) rfl (Xa (Xp (Bx5_c2.st p11 rfl) u3 rfl) rfl Xg)) (by kernel_rfl) (by decide) (mn2 rfl rfl rfl rfl rfl rfl rfl (Xc rfl (dn (sr (Xc rfl ?_)))))
  refine Yb (Bx5_c1.st p11 rfl) u25 rfl (Xc rfl (Xc rfl (Xc rfl (Xc rfl (Xc rfl (Xc rfl (Xc rfl (sl3y A20 u25 z5 rfl rfl rfl rfl rfl rfl rfl rfl rfl (fun v27 A27 => ?_)))))))))
  refine yl rfl rfl rfl rfl rfl rfl rfl (fun y30 m30 => hy x5.2 s11.w ((a1.take ((IntKind.wrap .i64 (x5.1 + (if ((a1.drop (x5.1).toNat).length : Int) < a2 then ((a1.drop (x5.1).toNat).length : Int) else a2)))).toNat).drop (x5.1).toNat) v27 (JF.st Bx5_p99 hJ p11) A27 y30 m30) ?_
  rintro y30 w30 m30 ⟨hj30, wg30⟩
  obtain ⟨s30, rfl, z30, k30⟩ := nwy wg30
  obtain ⟨q30_1, q30_2, q30_3⟩ := hJr _ _ hj30
  have B30_1 := zy_b z30 q30_2
  have J30 : JF J s30 y30 := hj30
  exact Xc rfl (dn (cdf rfl (sk (ib (rg (Xc rfl (Yb B30_1 u3 rfl (Xc rfl (Xc rfl (dn (lb ih5 ⟨s30, _, rfl, (ue (ue (ue (ue rfl rfl) rfl) rfl) rfl), (k30 (Kx5.st p11 rfl) (fun b => by rw [z b]; decide)), J30, B30_1, (zy_b z30 q30_1), (zy_r z30 q30_3)⟩)))))))))))
 exact xt rfl (sgb (reE rfl func119 rfl Xe rfl ⟨_, rfl, rfl, Bx5_p99, Kx5.wg⟩))
def slices_Chunk_byte_byte.f (a0 : (List Int)) (a1 : Int) : Option (Unit) :=
 (if (decide (a1 < (1 : Int))) = true then none else (some ()))
def slices_Chunk_byte_byte.Q (w : World) (F : Nat → Prop) (w0_0 : Value) (a1 : Int) (r : Unit) (v : Value) (w' : World) : Prop :=
 ∃ (v0 : Nat) (v1 : Nat), v = (.func (.func 119) (List.toArray []) (List.toArray [(pB v0), (pB v1)])) ∧ BlN w w' v0 25 [w0_0] ∧ BlN w w' v1 3 [(iI a1)] ∧ Ky [] w w'
theorem slices_Chunk_byte_byte.calls (a0 : (List Int)) (a1 : Int) (w : World) (F : Nat → Prop) (w0_0 : Value) (h0_0 : Yo.rd w [w0_0] a0 F) (r : Unit) (m : slices_Chunk_byte_byte.f a0 a1 = some r) :
  Calls prog 91 #[w0_0, (iI a1)] w (RT (slices_Chunk_byte_byte.Q w F w0_0 a1) r) := by
 obtain ⟨s0, rfl, kp0, z⟩ := Xk w F
 refine Xd (args := [w0_0, (iI a1)]) func91 ntmps91 rfl rfl m ?_
 unfold slices_Chunk_byte_byte.f
 refine sr (bx' (cs := [w0_0]) 40 rfl (oc (z.rd h0_0).one) (fun b2 s2 p2 B2 => ?_))
 refine bx' (cs := [(iI a1)]) 41 rfl rfl (fun b4 s4 p4 B4 => ?_)
 refine Xc rfl (dn (sq (sr (Yb B4 u3 rfl (Xc rfl (dn (cd rfl (fun h6 => ?_) (fun h6 => ?_))))))))
 ·
  exact rg mn
 refine sk (sr (mkf (fs := []) (cs := [(pB b2), (pB b4)]) rfl rfl rfl rfl rfl rfl rfl (Xc rfl (dn ?_))))
 have K8 := kp0.st (Xq p2 p4) rfl
 exact re rfl func91 rfl (Xs rfl Xe) rfl ⟨_, rfl, b2, b4, rfl, BlF.fo (B2.st p4 rfl) K8 rfl z.l, BlF.fo B4 K8 rfl z.l, z.ky K8⟩
def impl_PageBytes.b2 (a0 : Page) (x57 : (List Int)) (l69 : (List Int)) : Option (List Int) :=
 ((impl_PutNum.f a0.Lsn (4 : Int)).bind fun r86 => (if x57.length + r86.length ≤ Lim then (if (x57 ++ r86).length + l69.length ≤ Lim then (some ((x57 ++ r86) ++ l69)) else none) else none))
def impl_PageBytes.b1 (a0 : Page) (x35 : (List Int) × Int) : Option (((List Int) × Int) ⊕ (List Int)) :=
 (if (decide (x35.2 < (a0.Slots.length : Int))) = true then (if 0 ≤ x35.2 ∧ x35.2 < (a0.Slots.length : Int) then (if x35.1.length + (at_ a0.Slots x35.2).length ≤ Lim then (some (Sum.inl ((x35.1 ++ (at_ a0.Slots x35.2)), (IntKind.wrap .i64 (x35.2 + (1 : Int)))))) else none) else none) else ((if 0 ≤ (IntKind.wrap .i64 ((240 : Int) - (x35.1.length : Int))) ∧ (x35.1.length : Int) + (IntKind.wrap .i64 ((240 : Int) - (x35.1.length : Int))) ≤ (Lim : Int) then ((slices_Chunk_byte_byte.f (x35.1 ++ List.replicate ((IntKind.wrap .i64 ((240 : Int) - (x35.1.length : Int)))).toNat (0 : Int)) (60 : Int)).bind fun r53 => ((slices_Chunk_byte_byte_1.f (impl_PageBytes.b2 a0) ([] : (List Int)) (x35.1 ++ List.replicate ((IntKind.wrap .i64 ((240 : Int) - (x35.1.length : Int)))).toNat (0 : Int)) (60 : Int)).bind fun x57 => (some x57))) else none).bind fun o => some (Sum.inr o)))
def impl_PageBytes.b0 (a0 : Page) (x18 : (List Int) × Int) : Option (((List Int) × Int) ⊕ (List Int)) :=
 (if (decide (x18.2 < (a0.Slots.length : Int))) = true then (if 0 ≤ x18.2 ∧ x18.2 < (a0.Slots.length : Int) then (if x18.1.length + ([(IntKind.wrap .u8 ((at_ a0.Slots x18.2).length : Int))]).length ≤ Lim then (some (Sum.inl ((x18.1 ++ [(IntKind.wrap .u8 ((at_ a0.Slots x18.2).length : Int))]), (IntKind.wrap .i64 (x18.2 + (1 : Int)))))) else none) else none) else ((iter (impl_PageBytes.b1 a0) (x18.1, (0 : Int))).bind fun o => some (Sum.inr o)))
def impl_PageBytes.f (a0 : Page) : Option ((List Int)) :=
 ((impl_PageUsed.f a0).bind fun r6 => (if (decide (r6 < (0 : Int))) = true then (some ([] : (List Int))) else (iter (impl_PageBytes.b0 a0) ([(IntKind.wrap .u8 (a0.Slots.length : Int))], (0 : Int)))))
def impl_PageBytes.Q (w : World) (F : Nat → Prop) (r : (List Int)) (v : Value) (w' : World) : Prop :=
 FO Yo w w' [v] r ∧ Ky [] w w'
theorem impl_PageBytes.calls (a0 : Page) (w : World) (F : Nat → Prop) (w0_0 : Value) (h0_0 : (Kd.sl 25 Yo).rd w [w0_0] a0.Slots F) (r : (List Int)) (m : impl_PageBytes.f a0 = some r) :
  Calls prog 93 #[(.agg #[(iI a0.Lsn), w0_0])] w (RT (impl_PageBytes.Q w F) r) := by
 obtain ⟨s0, rfl, kp0, z⟩ := Xk w F
 have A0_0 := z.rd h0_0
 refine Xd (args := [(.agg #[(iI a0.Lsn), w0_0])]) func93 ntmps93 rfl rfl m ?_
 unfold impl_PageBytes.f
 refine sr (bx' (cs := [(iI a0.Lsn), w0_0]) 40 rfl rfl (fun b2 s2 p2 B2 => ?_))
 refine Xc rfl (dn (sq (sr (Xw (es := [(iI a0.Lsn), w0_0]) B2 u59 z59 rfl ?_))))
 have K4 := kp0.st p2 rfl
 refine Ym 41 rfl func55 rfl (impl_PageUsed.calls a0 s2.w (mm [0] s2) w0_0 (A0_0.kp K4)) (fun r6 s7 p7 n7 => ?_)
 refine Xc rfl (dn (cd rfl (fun h8 => ?_) (fun h8 => ?_)))
 ·
  refine sr (Xc rfl (dn ?_))
  have K9 := K4.st p7 rfl
  exact re rfl func93 rfl (Xs rfl Xe) rfl ⟨_, rfl, (Yk 5 (Kd.int .u8) s7 40).fo K9 rfl z.l, z.ky K9⟩
 refine sk (sr (Xt fa59_1 rfl ?_))
 have A10 := B2.st p7 rfl
 refine Yb A10 u57 rfl ?_
 have K11 := K4.st p7 rfl
 refine Yl (A0_0.kp K11) u57 rfl (cv' u5 u3 rfl (ltF' (K := (Kd.int .u8)) (cells := [(.int .u8 (IntKind.wrap .u8 (a0.Slots.length : Int)))]) [(IntKind.wrap .u8 (a0.Slots.length : Int))] 42 Xv u25 z5 o5 (fun w => (Yf _ _ _)) rfl (fun v13 s13 p13 A13 => ?_)))
 refine Yd v13 rfl (dn (sq (sr (Xt fa59_1 rfl ?_))))
 have A15 := A10.st p13 rfl
 refine Yb A15 u57 rfl ?_
 have K16 := K11.st p13 rfl
 refine Yl (A0_0.kp K16) u57 rfl (Xc rfl (dn (bl (lpI (fun (x18 : (List Int) × Int) e w => ∃ (s : St) (e0 : Env) (vx18_0 : Value), w = s.w ∧ e = upd (upd (upd (upd (upd e0 1 (pB b2)) 3 vx18_0) 19 w0_0) 20 (iI (a0.Slots.length : Int))) 21 (iI x18.2) ∧ Kp s0 s ∧ OwF Yo s [vx18_0] x18.1 42 ∧ BlF s b2 59 [(iI a0.Lsn), w0_0] 40) ⟨s13, _, v13, rfl, (ue (ue (ue (ue (ue rfl rfl) rfl) rfl) rfl) rfl), K16, A13, A15⟩ (fun g18 ih18 => ?_)))))
 rintro x18 _ _ ⟨s19, _, vx18_0, rfl, rfl, Kx18, Ax18_0, Bx18_b2⟩
 unfold impl_PageBytes.b0
 refine sr (Xc rfl (dn (sq (cd rfl (fun h22 => ?_) (fun h22 => ?_)))))
 ·
  refine sk (sq (bl (sr ?_)))
  refine ix' (A0_0.kp Kx18) u57 z25 rfl (fun ad24 es24 h0_24 h1_24 he24 ce24 ia24 => ?_)
  obtain ⟨v24, rfl, he24'⟩ := he24
  have A24 : RdF Yo s19 [v24] (at_ a0.Slots x18.2) [0] := ⟨v24, rfl, he24'⟩
  refine lc0' ce24 u25 rfl (Yd v24 rfl (dn (rg (Xx vx18_0 rfl (Xx v24 rfl (Yl A24 u25 rfl (cv' u5 u3 rfl (ltF' (K := (Kd.int .u8)) (cells := [(.int .u8 (IntKind.wrap .u8 ((at_ a0.Slots x18.2).length : Int)))]) [(IntKind.wrap .u8 ((at_ a0.Slots x18.2).length : Int))] 43 Xv u25 z5 o5 (fun w => (Yf _ _ _)) rfl (fun v27 s27 p27 A27 => ?_)))))))))
  refine apF' Xv sl25 (Ax18_0.st p27 rfl) A27.rd rfl (fun v30 s30 p30 A30 => ?_)
  refine Yd v30 rfl (dn (ib (rg (Xc rfl (Xc rfl (dn ?_))))))
  exact lb ih18 ⟨s30, _, v30, rfl, (ue (ue (ue (ue (ue rfl rfl) rfl) rfl) rfl) rfl), (Kx18.st (Xq p27 p30) rfl), A30, (Bx18_b2.st (Xq p27 p30) rfl)⟩
 refine xt rfl (sgb (sq (sr (Xt fa59_1 rfl (Yb Bx18_b2 u57 rfl ?_)))))
 refine Yl (A0_0.kp Kx18) u57 rfl (Xc rfl (dn (bl (lpI (fun (x35 : (List Int) × Int) e w => ∃ (s : St) (e0 : Env) (vx35_0 : Value), w = s.w ∧ e = upd (upd (upd (upd (upd e0 1 (pB b2)) 3 vx35_0) 33 w0_0) 34 (iI (a0.Slots.length : Int))) 35 (iI x35.2) ∧ Kp s0 s ∧ OwF Yo s [vx35_0] x35.1 42 ∧ BlF s b2 59 [(iI a0.Lsn), w0_0] 40) ⟨s19, _, vx18_0, rfl, (ue (ue (ue (ue (ue rfl rfl) rfl) rfl) rfl) rfl), Kx18, Ax18_0, Bx18_b2⟩ (fun g35 ih35 => ?_)))))
 rintro x35 _ _ ⟨s36, _, vx35_0, rfl, rfl, Kx35, Ax35_0, Bx35_b2⟩
 unfold impl_PageBytes.b1
 refine sr (Xc rfl (dn (sq (cd rfl (fun h39 => ?_) (fun h39 => ?_)))))
 ·
  refine sk (sq (bl (sr ?_)))
  refine ix' (A0_0.kp Kx35) u57 z25 rfl (fun ad41 es41 h0_41 h1_41 he41 ce41 ia41 => ?_)
  obtain ⟨v41, rfl, he41'⟩ := he41
  have A41 : RdF Yo s36 [v41] (at_ a0.Slots x35.2) [0] := ⟨v41, rfl, he41'⟩
  refine lc0' ce41 u25 rfl (Yd v41 rfl (dn (rg (Xx vx35_0 rfl (Xx v41 rfl (apF' Xv sl25 Ax35_0 A41 rfl (fun v44 s44 p44 A44 => ?_)))))))
  refine Yd v44 rfl (dn (ib (rg (Xc rfl (Xc rfl (dn ?_))))))
  exact lb ih35 ⟨s44, _, v44, rfl, (ue (ue (ue (ue (ue rfl rfl) rfl) rfl) rfl) rfl), (Kx35.st p44 rfl), A44, (Bx35_b2.st p44 rfl)⟩
 refine xt rfl (sgb (sr (Xx vx35_0 rfl (Xx vx35_0 rfl (Yl Ax35_0.rd u25 rfl (Xc rfl (apZ (x0 := (0 : Int)) Xv sl25 o5 (fun _ => ⟨rfl, rfl⟩) u3 Ax35_0 rfl rfl rfl rfl rfl rfl rfl (fun v48 s48 p48 A48 => ?_))))))))
 refine Yd v48 rfl (dn (sr (al' (cs := [(.slice none 0 0)]) 44 rfl o25 rfl (fun b50 s50 p50 B50 => ?_))))
 refine dn (sq (sr (Xx v48 rfl ?_)))
 have A52 := A48.st p50 rfl
 refine cl' rfl func91 rfl (slices_Chunk_byte_byte.calls (x35.1 ++ List.replicate ((IntKind.wrap .i64 ((240 : Int) - (x35.1.length : Int)))).toNat (0 : Int)) (60 : Int) s50.w (mm [42] s50) v48 A52.rd) ?_
 rintro r53 _ w53 m53 ⟨v53_0, v53_1, rfl, f53_0, f53_1, ky53⟩
 obtain ⟨s54, rfl, p54, n54⟩ := nwx s50 w53 45 ky53
 refine dn (bl ?_)
 refine rgC (te := 5) (K := (Kd.int .u8)) (v := v48) (n := (60 : Int)) (xs := (x35.1 ++ List.replicate ((IntKind.wrap .i64 ((240 : Int) - (x35.1.length : Int)))).toNat (0 : Int))) (C := [42]) (t1 := 25) (t2 := 3) (q1 := 45) (q2 := 45) (step_ := (impl_PageBytes.b2 a0)) (y0 := ([] : (List Int))) 46 (fun (Z57 : LpZ) (x57 : (List Int)) (s : St) => ∃ (vx57_0 : Value), Kp s0 s ∧ OwF Yo s [vx57_0] x57 47 ∧ LoopF Z57 46 .ready s ∧ BlF s v53_1 3 [(iI 60)] 45 ∧ BlF s v53_0 25 [v48] 45 ∧ BlF s b50 25 [vx57_0] 44 ∧ BlF s b2 59 [(iI a0.Lsn), w0_0] 40 ∧ OwF Yo s [v48] (x35.1 ++ List.replicate ((IntKind.wrap .i64 ((240 : Int) - (x35.1.length : Int)))).toNat (0 : Int)) 42) func119 rfl rfl rfl rfl ?_ ?_ ?_ ?_ ?_
 ·
  intro Z57 s113 p113 L113
  exact ⟨(.slice none 0 0), (Kx35.st (tr4 p48 p50 p54 p113) rfl), (Yk 5 (Kd.int .u8) _ 47), L113, (BlF.st (f53_1.c n54) p113 rfl), (BlF.st (f53_0.c n54) p113 rfl), (B50.st (Xq p54 p113) rfl), (Bx35_b2.st (tr4 p48 p50 p54 p113) rfl), ((A52.st p54 rfl).st p113 rfl)⟩
 ·
  intro Z57 x57 s60 hI
  obtain ⟨vx57_0, Kx57, Ax57_0, Bx57_p97, Bx57_v53_1, Bx57_v53_0, Bx57_b50, Bx57_b2, Cx57_49⟩ := hI
  exact ⟨Bx57_p97, Bx57_v53_0, Bx57_v53_1, Cx57_49.rd⟩
 ·
  exact fun J yl w hJ hJr hy hj r m => (slices_Chunk_byte_byte_1.calls (impl_PageBytes.b2 a0) ([] : (List Int)) (x35.1 ++ List.replicate ((IntKind.wrap .i64 ((240 : Int) - (x35.1.length : Int)))).toNat (0 : Int)) (60 : Int) v53_0 v53_1 v48 J yl w hJ hJr hy hj r m).mono fun en w' ⟨v, e, _, h⟩ => ⟨v, e, h⟩
 ·
  intro Z57 x57 s60 s69 u69 l69 hI p69 A69
  obtain ⟨vx57_0, Kx57, Ax57_0, Bx57_p97, Bx57_v53_1, Bx57_v53_0, Bx57_b50, Bx57_b2, Cx57_49⟩ := hI
  unfold impl_PageBytes.b2
  refine rg (Yd u69 rfl (dn ?_))
  refine br (LoopF.st Bx57_p97 p69 rfl) rfl (fun s74 p74 L74 => ?_)
  refine bl (zdraw [[], [], [1], [2], [0, 3, 3], [], [4, 5, 4], [6, 6, 0, 1, 2, 3, 4, 5, 6]] [some 51, some 52, some 53, some 54, some 55, some 56, some 57, none] [[8], [1], [52], [53], [51, 54], [9], [55, 56], [8, 57]] [0, 1, 2, 3, 4, 5, 6, 7] ⟨by kernel_rfl, by kernel_rfl, by kernel_rfl⟩ (by kernel_rfl) (fun s76 p76 l76 tb76 zd76 => ?_))
  refine Yc 3 [some 56, some 51] tb76 ((((zd76.add 0 51 vx57_0 rfl).add 1 52 (pB b2) rfl).add 2 53 (iI a0.Lsn) rfl).add 5 56 u69 rfl) (Xa (Xn u69 rfl) rfl (Xa (Xp (Bx57_b2.st (Yi p69 p74 p76) rfl) u3 rfl) rfl (Xa (Xr fa59_0 rfl) rfl (Xa (Xp (Bx57_b50.st (Yi p69 p74 p76) rfl) u25 rfl) rfl Xg)))) (by kernel_rfl) rfl (fun l83 e83 zd83 => ?_)
  refine clO 48 rfl func118 rfl (impl_PutNum.calls a0.Lsn (4 : Int) s76.w (mm [] s76)) (fun r86 v86_0 s87 p87 A86_0 => ?_)
  refine Xl (L' := [5, 0]) (D' := [1, 2, 3]) zd83 rfl (fun zd89 => ?_)
  refine Yc 4 [some 56] tb76 zd89 (Xa (Xn u69 rfl) rfl (Xa (Xp (Bx57_b50.st (tr4 p69 p74 p76 p87) rfl) u25 rfl) rfl Xg)) (by kernel_rfl) rfl (fun l90 e90 zd90 => ?_)
  refine apF' Xv sl25 (Ax57_0.st (tr4 p69 p74 p76 p87) rfl) A86_0.rd rfl (fun v93 s93 p93 A93 => ?_)
  refine Xl (L' := [5]) (D' := [0, 4, 1, 2, 3]) zd90 rfl (fun zd95 => ?_)
  refine zfin [6, 7] tb76 zd95 (Xa (Xn u69 rfl) rfl Xg) (by kernel_rfl) (by decide) (apF' Xv sl25 A93 (A69.st (tr4 p74 p76 p87 p93) rfl) rfl (fun v97 s97 p97 A97 => ?_))
  refine sv' (Bx57_b50.st (tr6 p69 p74 p76 p87 p93 p97) rfl) z25 rfl A97.rd.one rfl (fun s100 p100 B100 => ?_)
  refine dn (ib ?_)
  refine rde (LoopF.st (LoopF.st (LoopF.st (LoopF.st (LoopF.st L74 p76 rfl) p87 rfl) p93 rfl) p97 rfl) p100 rfl) rfl rfl (fun s103 p103 L103 => ?_)
  exact ⟨rfl, s103, rfl, ⟨v97, (Kx57.st (tr8 p69 p74 p76 p87 p93 p97 p100 p103) rfl), (A97.st (Xq p100 p103) rfl), L103, (Bx57_v53_1.st (tr8 p69 p74 p76 p87 p93 p97 p100 p103) rfl), (Bx57_v53_0.st (tr8 p69 p74 p76 p87 p93 p97 p100 p103) rfl), (B100.st p103 rfl), (Bx57_b2.st (tr8 p69 p74 p76 p87 p93 p97 p100 p103) rfl), (Cx57_49.st (tr8 p69 p74 p76 p87 p93 p97 p100 p103) rfl)⟩, (Kp.st (Kp.st (Kp.st (Kp.st (Kp.st (Kp.st (Kp.st (Kp.self s69) p74 rfl) p76 rfl) p87 rfl) p93 rfl) p97 rfl) p100 rfl) p103 rfl)⟩
 intro Z57 x57 s60 s133 hI p133 L133
 obtain ⟨vx57_0, Kx57, Ax57_0, Bx57_p97, Bx57_v53_1, Bx57_v53_0, Bx57_b50, Bx57_b2, Cx57_49⟩ := hI
 refine ib (sr ?_)
 refine Yb (Bx57_b50.st p133 rfl) u25 rfl (Yd vx57_0 rfl (dn (reD L133 rfl rfl rfl func93 rfl (fun s137 p137 => ?_))))
 have K139 := Kx57.st (Xq p133 p137) rfl
 exact ⟨_, _, (Xs rfl Xe), rfl, ⟨_, rfl, (Ax57_0.st (Xq p133 p137) rfl).fo K139 rfl z.l, z.ky K139⟩⟩
def impl_PageRead.b1 (a0 : (List Int)) (r16 : Int × Bool) (x29 : (List Int)) (x108 : Int × Int × (List (List Int))) : Option ((Int × Int × (List (List Int))) ⊕ (Page × Bool)) :=
 (if (decide (x108.2.1 < (IntKind.wrap .i64 (at_ x29 (0 : Int))))) = true then ((impl_hasBytes.f x29 (IntKind.wrap .i64 ((1 : Int) + x108.2.1)) (1 : Int)).bind fun r127 => ((if (!r127) = true then (some true) else (if 0 ≤ (IntKind.wrap .i64 ((1 : Int) + x108.2.1)) ∧ (IntKind.wrap .i64 ((1 : Int) + x108.2.1)) < (x29.length : Int) then ((impl_hasBytes.f x29 x108.1 (IntKind.wrap .i64 (at_ x29 (IntKind.wrap .i64 ((1 : Int) + x108.2.1))))).bind fun r163 => (some (!r163))) else none)).bind fun y132 => (if y132 = true then (some (Sum.inr ((Page.mk (0 : Int) ([] : (List (List Int)))), false))) else (if 0 ≤ (IntKind.wrap .i64 ((1 : Int) + x108.2.1)) ∧ (IntKind.wrap .i64 ((1 : Int) + x108.2.1)) < (x29.length : Int) then (if 0 ≤ x108.1 ∧ x108.1 ≤ (IntKind.wrap .i64 (x108.1 + (IntKind.wrap .i64 (at_ x29 (IntKind.wrap .i64 ((1 : Int) + x108.2.1)))))) ∧ (IntKind.wrap .i64 (x108.1 + (IntKind.wrap .i64 (at_ x29 (IntKind.wrap .i64 ((1 : Int) + x108.2.1)))))) ≤ (x29.length : Int) then ((slices_Clone_byte_byte.f ((x29.take ((IntKind.wrap .i64 (x108.1 + (IntKind.wrap .i64 (at_ x29 (IntKind.wrap .i64 ((1 : Int) + x108.2.1))))))).toNat).drop (x108.1).toNat)).bind fun r205 => (if x108.2.2.length + ([r205]).length ≤ Lim then (some (Sum.inl ((IntKind.wrap .i64 (x108.1 + (IntKind.wrap .i64 (at_ x29 (IntKind.wrap .i64 ((1 : Int) + x108.2.1)))))), (IntKind.wrap .i64 (x108.2.1 + (1 : Int))), (x108.2.2 ++ [r205])))) else none)) else none) else none)))) else (((impl_PageBytes.f (Page.mk r16.1 x108.2.2)).bind fun r228 => ((bytes_Equal.f r228 a0).bind fun r233 => (if (!r233) = true then (some ((Page.mk (0 : Int) ([] : (List (List Int)))), false)) else (some ((Page.mk r16.1 x108.2.2), true))))).bind fun o => some (Sum.inr o)))
def impl_PageRead.b0  (x29 : (List Int)) (l43 : (List Int)) : Option (List Int) :=
 (if 0 ≤ (4 : Int) ∧ (4 : Int) ≤ (l43.length : Int) then (if x29.length + (l43.drop ((4 : Int)).toNat).length ≤ Lim then (some (x29 ++ (l43.drop ((4 : Int)).toNat))) else none) else none)
def impl_PageRead.f (a0 : (List Int)) : Option (Page × Bool) :=
 (if ((a0.length : Int) != (256 : Int)) = true then (some ((Page.mk (0 : Int) ([] : (List (List Int)))), false)) else ((impl_GetNum.f a0 (0 : Int) (4 : Int)).bind fun r16 => ((slices_Chunk_byte_byte.f a0 (64 : Int)).bind fun r25 => ((slices_Chunk_byte_byte_1.f impl_PageRead.b0 ([] : (List Int)) a0 (64 : Int)).bind fun x29 => (if 0 ≤ (0 : Int) ∧ (0 : Int) < (x29.length : Int) then (iter (impl_PageRead.b1 a0 r16 x29) ((IntKind.wrap .i64 ((1 : Int) + (IntKind.wrap .i64 (at_ x29 (0 : Int))))), (0 : Int), ([] : (List (List Int))))) else none)))))
def impl_PageRead.Q (w : World) (F : Nat → Prop) (r : Page × Bool) (v : Value) (w' : World) : Prop :=
 ∃ (v0 : Value), v = .tuple #[(.agg #[(iI r.1.Lsn), v0]), (.bool r.2)] ∧ FO kd59 w w' [(iI r.1.Lsn), v0] r.1 ∧ Ky [] w w'
theorem impl_PageRead.calls (a0 : (List Int)) (w : World) (F : Nat → Prop) (w0_0 : Value) (h0_0 : Yo.rd w [w0_0] a0 F) (r : Page × Bool) (m : impl_PageRead.f a0 = some r) :
  Calls prog 65 #[w0_0] w (RT (impl_PageRead.Q w F) r) := by
 obtain ⟨s0, rfl, kp0, z⟩ := Xk w F
 have A0_0 := z.rd h0_0
 refine Xd (args := [w0_0]) func65 ntmps65 rfl rfl m ?_
 unfold impl_PageRead.f
 refine sr (al' (cs := [(iI 0), (.slice none 0 0)]) 40 rfl o59 rfl (fun b2 s2 p2 B2 => ?_))
 refine Xc rfl (dn (sq (sr (Xx w0_0 rfl ?_))))
 have K4 := kp0.st p2 rfl
 refine Yl (A0_0.kp K4) u25 rfl (Xc rfl (dn (cd rfl (fun h6 => ?_) (fun h6 => ?_))))
 ·
  refine sr (bd' (cells := [(iI 0), (.slice none 0 0)]) pl59 o59 rfl rfl (Xu (vs := [(iI 0), (.slice none 0 0)]) B2 z59 rfl (Xb rfl (Xb rfl Xi)) rfl (fun s7 p7 B7 => ?_)))
  refine Xc rfl (dn ?_)
  have A9 : OwF kd59 s7 [(iI 0), (.slice none 0 0)] (Page.mk (0 : Int) ([] : (List (List Int)))) 41 := ow_z _ _ (Xz (fun x : Page => (x.Lsn, x.Slots)) (Page.mk (0 : Int) ([] : (List (List Int)))) (Xh (Xf .i64 (0 : Int)) (Ya 25 Yo)))
  have K11 := K4.st p7 rfl
  exact re rfl func65 rfl (r_b B7 u59 rfl z59 rfl (Xs rfl Xe)) rfl ⟨_, rfl, (.slice none 0 0), rfl, A9.fo K11 rfl z.l, z.ky K11⟩
 refine sk (sr (al' (cs := [(iI 0), (.slice none 0 0)]) 42 rfl o59 rfl (fun b12 s12 p12 B12 => ?_)))
 refine dn (sr (Xx w0_0 rfl ?_))
 have K14 := K4.st p12 rfl
 refine Ym 43 rfl func85 rfl (impl_GetNum.calls a0 (0 : Int) (4 : Int) s12.w (mm [0] s12) w0_0 (A0_0.kp K14)) (fun r16 s17 p17 n17 => ?_)
 refine Xc rfl (Xc (v := (iI r16.1)) rfl (Xc (v := (.bool r16.2)) rfl (Xt fa59_0 rfl ?_)))
 refine sv' (B12.st p17 rfl) z3 rfl rfl rfl (fun s19 p19 B19 => ?_)
 refine dn (sr (al' (cs := [(.slice none 0 0)]) 44 rfl o25 rfl (fun b21 s21 p21 B21 => ?_)))
 refine dn (sq (sr (Xx w0_0 rfl ?_)))
 have K23 := K14.st (Yi p17 p19 p21) rfl
 refine cl' rfl func91 rfl (slices_Chunk_byte_byte.calls a0 (64 : Int) s21.w (mm [0] s21) w0_0 (A0_0.kp K23)) ?_
 rintro r25 _ w25 m25 ⟨v25_0, v25_1, rfl, f25_0, f25_1, ky25⟩
 obtain ⟨s26, rfl, p26, n26⟩ := nwx s21 w25 45 ky25
 refine dn (bl ?_)
 refine rgC (te := 5) (K := (Kd.int .u8)) (v := w0_0) (n := (64 : Int)) (xs := a0) (C := [0]) (t1 := 25) (t2 := 3) (q1 := 45) (q2 := 45) (step_ := impl_PageRead.b0) (y0 := ([] : (List Int))) 46 (fun (Z29 : LpZ) (x29 : (List Int)) (s : St) => ∃ (vx29_0 : Value), Kp s0 s ∧ OwF Yo s [vx29_0] x29 47 ∧ LoopF Z29 46 .ready s ∧ BlF s v25_1 3 [(iI 64)] 45 ∧ BlF s v25_0 25 [w0_0] 45 ∧ BlF s b21 25 [vx29_0] 44 ∧ BlF s b12 59 [(iI r16.1), (.slice none 0 0)] 42 ∧ BlF s b2 59 [(iI 0), (.slice none 0 0)] 40) func119 rfl rfl rfl rfl ?_ ?_ ?_ ?_ ?_
 ·
  intro Z29 s78 p78 L78
  exact ⟨(.slice none 0 0), ((K23.st p26 rfl).st p78 rfl), (Yk 5 (Kd.int .u8) _ 47), L78, (BlF.st (f25_1.c n26) p78 rfl), (BlF.st (f25_0.c n26) p78 rfl), (B21.st (Xq p26 p78) rfl), (B19.st (Yi p21 p26 p78) rfl), (B2.st (tr6 p12 p17 p19 p21 p26 p78) rfl)⟩
 ·
  intro Z29 x29 s33 hI
  obtain ⟨vx29_0, Kx29, Ax29_0, Bx29_p97, Bx29_v25_1, Bx29_v25_0, Bx29_b21, Bx29_b12, Bx29_b2⟩ := hI
  exact ⟨Bx29_p97, Bx29_v25_0, Bx29_v25_1, (A0_0.kp Kx29)⟩
 ·
  exact fun J yl w hJ hJr hy hj r m => (slices_Chunk_byte_byte_1.calls impl_PageRead.b0 ([] : (List Int)) a0 (64 : Int) v25_0 v25_1 w0_0 J yl w hJ hJr hy hj r m).mono fun en w' ⟨v, e, _, h⟩ => ⟨v, e, h⟩
 ·
  intro Z29 x29 s33 s43 u43 l43 hI p43 A43
  obtain ⟨vx29_0, Kx29, Ax29_0, Bx29_p97, Bx29_v25_1, Bx29_v25_0, Bx29_b21, Bx29_b12, Bx29_b2⟩ := hI
  unfold impl_PageRead.b0
  refine rg (Yd u43 rfl (dn ?_))
  refine br (LoopF.st Bx29_p97 p43 rfl) rfl (fun s48 p48 L48 => ?_)
  refine bl (zdraw [[], [], [1], [0, 2], [3, 3, 0, 1, 2, 3]] [some 24, some 25, some 26, some 27, none] [[5], [6], [25], [24, 26], [5, 27]] [0, 1, 2, 3, 4] ⟨by kernel_rfl, by kernel_rfl, by kernel_rfl⟩ (by kernel_rfl) (fun s50 p50 l50 tb50 zd50 => ?_))
  refine Yc 2 [some 24] tb50 ((zd50.add 0 24 vx29_0 rfl).add 1 25 u43 rfl) (Xa (Xn u43 rfl) rfl (Xa (Xp (Bx29_b21.st (Yi p43 p48 p50) rfl) u25 rfl) rfl Xg)) (by kernel_rfl) rfl (fun l54 e54 zd54 => ?_)
  refine sla (A43.st (Xq p48 p50) rfl) u25 z5 rfl rfl rfl rfl rfl rfl rfl (fun v57 A57 => ?_)
  refine Xl (L' := [0]) (D' := [1, 2]) zd54 rfl (fun zd59 => ?_)
  refine zfin [3, 4] tb50 zd59 (Xa (Xp (Bx29_b21.st (Yi p43 p48 p50) rfl) u25 rfl) rfl Xg) (by kernel_rfl) (by decide) (apF' Xv sl25 (Ax29_0.st (Yi p43 p48 p50) rfl) A57 rfl (fun v62 s62 p62 A62 => ?_))
  refine sv' (Bx29_b21.st (tr4 p43 p48 p50 p62) rfl) z25 rfl A62.rd.one rfl (fun s65 p65 B65 => ?_)
  refine dn (ib ?_)
  refine rde (LoopF.st (LoopF.st (LoopF.st L48 p50 rfl) p62 rfl) p65 rfl) rfl rfl (fun s68 p68 L68 => ?_)
  exact ⟨rfl, s68, rfl, ⟨v62, (Kx29.st (tr6 p43 p48 p50 p62 p65 p68) rfl), (A62.st (Xq p65 p68) rfl), L68, (Bx29_v25_1.st (tr6 p43 p48 p50 p62 p65 p68) rfl), (Bx29_v25_0.st (tr6 p43 p48 p50 p62 p65 p68) rfl), (B65.st p68 rfl), (Bx29_b12.st (tr6 p43 p48 p50 p62 p65 p68) rfl), (Bx29_b2.st (tr6 p43 p48 p50 p62 p65 p68) rfl)⟩, (Kp.st (Kp.st (Kp.st (Kp.st (Kp.st (Kp.self s43) p48 rfl) p50 rfl) p62 rfl) p65 rfl) p68 rfl)⟩
 intro Z29 x29 s33 s101 hI p101 L101
 obtain ⟨vx29_0, Kx29, Ax29_0, Bx29_p97, Bx29_v25_1, Bx29_v25_0, Bx29_b21, Bx29_b12, Bx29_b2⟩ := hI
 refine ib (sr ?_)
 have A104 := Bx29_b21.st p101 rfl
 refine Yb A104 u25 rfl ?_
 have A105 := Ax29_0.st p101 rfl
 refine ix' A105.rd u25 z5 rfl (fun ad106 es106 h0_106 h1_106 he106 ce106 ia106 => ?_)
 obtain rfl := he106
 refine lc0' ce106 u5 rfl (cv' u3 u5 rfl (Xc rfl (dn (sr (Xc rfl (Xc rfl (Xc rfl (dn (sq (sr (Xc rfl (Xc rfl (dn (bl ?_))))))))))))))
 refine lpI (fun (x108 : Int × Int × (List (List Int))) e w => ∃ (s : St) (e0 : Env) (vx108_0 : Value), w = s.w ∧ e = upd (upd (upd (upd (upd (upd (upd e0 0 w0_0) 2 (pB b2)) 4 (pB b12)) 5 (pB b21)) 8 (iI x108.1)) 34 (iI (IntKind.wrap .i64 (at_ x29 (0 : Int))))) 35 (iI x108.2.1) ∧ Kp s0 s ∧ OwF (Kd.sl 25 Yo) s [vx108_0] x108.2.2 48 ∧ LoopF Z29 46 .exhausted s ∧ BlF s b21 25 [vx29_0] 44 ∧ BlF s b12 59 [(iI r16.1), vx108_0] 42 ∧ BlF s b2 59 [(iI 0), (.slice none 0 0)] 40 ∧ OwF Yo s [vx29_0] x29 47) ⟨s101, _, (.slice none 0 0), rfl, (ue (ue (ue (ue (ue (ue (ue rfl rfl) rfl) rfl) rfl) rfl) rfl) rfl), (Kx29.st p101 rfl), (Yk 25 Yo _ 48), L101, A104, (Bx29_b12.st p101 rfl), (Bx29_b2.st p101 rfl), A105⟩ (fun g108 ih108 => ?_)
 rintro x108 _ _ ⟨s112, _, vx108_0, rfl, rfl, Kx108, Ax108_0, Bx108_p97, Bx108_b21, Bx108_b12, Bx108_b2, Cx108_94⟩
 unfold impl_PageRead.b1
 refine sr (Xc rfl (dn (sq (cd rfl (fun h118 => ?_) (fun h118 => ?_)))))
 ·
  refine sk (sq (bl (sr (Xc rfl (Xc rfl (dn (sq (sq (zdraw [[], [], [1], [0, 2], [3], [4, 3], [5], [5], [5], [5], [9, 5], [8, 10, 5], [11, 5], [12, 5], [6, 7, 13, 5, 5], [14, 5], [5, 15]] [some 38, some 39, some 40, some 41, some 42, some 43, some 44, some 45, some 46, some 47, some 48, some 49, some 50, some 51, some 52, some 53, some 54] [[5], [9], [39], [38, 40], [41], [42], [5, 43], [8, 43], [5, 43], [9, 43], [47, 43], [46, 48, 43], [49, 43], [50, 43], [44, 45, 51, 43], [52, 43], [43, 53]] [0, 1, 2, 3, 4, 5, 6, 7, 8, 9, 10, 11, 12, 13, 14, 15, 16] ⟨by kernel_rfl, by kernel_rfl, by kernel_rfl⟩ (by kernel_rfl) (fun s119 p119 l119 tb119 zd119 => ?_))))))))))
  refine Yc 3 [] tb119 (((zd119.add 0 38 vx29_0 rfl).add 1 39 (iI x108.2.1) rfl).add 2 40 (iI (IntKind.wrap .i64 ((1 : Int) + x108.2.1))) rfl) (Xa (Xm rfl) rfl (Xa (Xm rfl) rfl (Xa (Xp (Bx108_b21.st p119 rfl) u25 rfl) rfl Xg))) (by kernel_rfl) rfl (fun l124 e124 zd124 => ?_)
  have A126 := Cx108_94.st p119 rfl
  refine Ym 49 rfl func92 rfl (impl_hasBytes.calls x29 (IntKind.wrap .i64 ((1 : Int) + x108.2.1)) (1 : Int) s119.w (mm [47] s119) vx29_0 A126.rd) (fun r127 s128 p128 n128 => ?_)
  refine Xl (L' := []) (D' := [1, 0, 2, 3]) zd124 rfl (fun zd129 => ?_)
  have zd131 := (zd129.add 4 42 (.bool (!r127)) rfl).add 5 43 (.bool (!r127)) rfl
  refine ji [] (fun (y132 : Bool) e w => ∃ (s : St) (e0 : Env), w = s.w ∧ e = upd (upd (upd (upd (upd (upd (upd (upd (upd e0 0 w0_0) 2 (pB b2)) 4 (pB b12)) 5 (pB b21)) 8 (iI x108.1)) 9 (iI x108.2.1)) 34 (iI (IntKind.wrap .i64 (at_ x29 (0 : Int))))) 35 (iI x108.2.1)) 54 (.bool y132) ∧ Kp s0 s ∧ LoopF Z29 46 .exhausted s ∧ BlF s b21 25 [vx29_0] 44 ∧ BlF s b12 59 [(iI r16.1), vx108_0] 42 ∧ BlF s b2 59 [(iI 0), (.slice none 0 0)] 40 ∧ OwF Yo s [vx29_0] x29 47 ∧ OwF (Kd.sl 25 Yo) s [vx108_0] x108.2.2 48) (fun Gj132 Kj132 => ?_) ?_
  ·
   rcases Yn (!r127) with hb132 | hb132
   ·
    rw [if_pos hb132]
    rw [hb132] at zd131
    try rw [hb132]
    refine zfin [14, 15, 16] tb119 ((((((((zd131.add 6 44 undef rfl).add 7 45 undef rfl).add 8 46 undef rfl).add 9 47 undef rfl).add 10 48 undef rfl).add 11 49 undef rfl).add 12 50 undef rfl).add 13 51 undef rfl) (Xa (uw_q rfl rfl rfl rfl rfl) rfl (Xa (uw_q rfl rfl rfl rfl rfl) rfl (Xa (uw_q rfl rfl rfl rfl rfl) rfl (Xa (uw_q rfl rfl rfl rfl rfl) rfl (Xa (uw_q rfl rfl rfl rfl rfl) rfl (Xa (uw_q rfl rfl rfl rfl rfl) rfl (Xa (uw_q rfl rfl rfl rfl rfl) rfl (Xa (uw_q rfl rfl rfl rfl rfl) rfl (Xa (Xm rfl) rfl (Xa (qv_b (Xm rfl) hb132) rfl Xg)))))))))) (by kernel_rfl) (by decide) (Xj rfl (Xj rfl (Xc rfl ?_)))
    exact Kj132 _ _ _ ⟨s128, _, rfl, (ue (ue (ue (ue (ue (ue (ue (ue (ue rfl rfl) rfl) rfl) rfl) rfl) rfl) rfl) rfl) rfl), (Kx108.st (Xq p119 p128) rfl), (LoopF.st (LoopF.st Bx108_p97 p119 rfl) p128 rfl), (Bx108_b21.st (Xq p119 p128) rfl), (Bx108_b12.st (Xq p119 p128) rfl), (Bx108_b2.st (Xq p119 p128) rfl), (A126.st p128 rfl), (Ax108_0.st (Xq p119 p128) rfl)⟩
   rw [if_neg (by rw [hb132]; decide)]
   rw [hb132] at zd131
   try rw [hb132]
   have A155 := A126.st p128 rfl
   refine mg fun hg156 => ?_
   obtain ⟨ad156, es156, he156, ce156, ia156⟩ := ix_e A155.rd rfl hg156.1 hg156.2
   obtain rfl := he156
   refine zfin [14, 15, 16] tb119 ((((((((zd131.add 6 44 vx29_0 rfl).add 7 45 (iI x108.1) rfl).add 8 46 vx29_0 rfl).add 9 47 (iI x108.2.1) rfl).add 10 48 (iI (IntKind.wrap .i64 ((1 : Int) + x108.2.1))) rfl).add 11 49 (.pointer (some ad156)) rfl).add 12 50 (.int .u8 (at_ x29 (IntKind.wrap .i64 ((1 : Int) + x108.2.1)))) rfl).add 13 51 (iI (IntKind.wrap .i64 (at_ x29 (IntKind.wrap .i64 ((1 : Int) + x108.2.1))))) rfl) (Xa (cv_q u3 u5 rfl rfl rfl rfl rfl rfl) rfl (Xa (lc0_q ce156 u5 rfl rfl rfl rfl rfl rfl rfl rfl) rfl (Xa (ix_q' A155.rd u25 z5 hg156.1 hg156.2 ia156 rfl) rfl (Xa (Xm rfl) rfl (Xa (Xm rfl) rfl (Xa (Xp (Bx108_b21.st (Xq p119 p128) rfl) u25 rfl) rfl (Xa (Xm rfl) rfl (Xa (Xp (Bx108_b21.st (Xq p119 p128) rfl) u25 rfl) rfl (Xa (Xm rfl) rfl (Xa (qv_b (Xm rfl) hb132) rfl Xg)))))))))) (by kernel_rfl) (by decide) (Ym 50 rfl func92 rfl (impl_hasBytes.calls x29 x108.1 (IntKind.wrap .i64 (at_ x29 (IntKind.wrap .i64 ((1 : Int) + x108.2.1)))) s128.w (mm [47] s128) vx29_0 A155.rd) (fun r163 s164 p164 n164 => ?_))
   refine Xc rfl (Xc rfl ?_)
   exact Kj132 _ _ _ ⟨s164, _, rfl, (ue (ue (ue (ue (ue (ue (ue (ue (ue rfl rfl) rfl) rfl) rfl) rfl) rfl) rfl) rfl) rfl), (Kx108.st (Yi p119 p128 p164) rfl), (LoopF.st (LoopF.st (LoopF.st Bx108_p97 p119 rfl) p128 rfl) p164 rfl), (Bx108_b21.st (Yi p119 p128 p164) rfl), (Bx108_b12.st (Yi p119 p128 p164) rfl), (Bx108_b2.st (Yi p119 p128 p164) rfl), (A155.st p164 rfl), (Ax108_0.st (Yi p119 p128 p164) rfl)⟩
  rintro y132 _ _ ⟨s172, _, rfl, rfl, Ky132, By132_p97, By132_b21, By132_b12, By132_b2, Cy132_94, Cy132_113⟩
  refine dn (cd rfl (fun h177 => ?_) (fun h177 => ?_))
  ·
   refine sr (bd' (cells := [(iI 0), (.slice none 0 0)]) pl59 o59 rfl rfl (Xu (vs := [(iI 0), (.slice none 0 0)]) By132_b2 z59 rfl (Xb rfl (Xb rfl Xi)) rfl (fun s178 p178 B178 => ?_)))
   refine Xc rfl (dn (sgi ?_))
   refine reD (LoopF.st By132_p97 p178 rfl) rfl rfl rfl func65 rfl (fun s181 p181 => ?_)
   have A182 : OwF kd59 s181 [(iI 0), (.slice none 0 0)] (Page.mk (0 : Int) ([] : (List (List Int)))) 51 := ow_z _ _ (Xz (fun x : Page => (x.Lsn, x.Slots)) (Page.mk (0 : Int) ([] : (List (List Int)))) (Xh (Xf .i64 (0 : Int)) (Ya 25 Yo)))
   have K185 := Ky132.st (Xq p178 p181) rfl
   exact ⟨_, _, (r_b (B178.st p181 rfl) u59 rfl z59 rfl (Xs rfl Xe)), rfl, ⟨_, rfl, (.slice none 0 0), rfl, A182.fo K185 rfl z.l, z.ky K185⟩⟩
  refine sk (sr (Xc rfl (Yb By132_b21 u25 rfl (Xc rfl (Xc rfl (ix' Cy132_94.rd u25 z5 rfl (fun ad186 es186 h0_186 h1_186 he186 ce186 ia186 => ?_)))))))
  obtain rfl := he186
  refine lc0' ce186 u5 rfl (cv' u3 u5 rfl (Xc rfl (Xc rfl (dn (sq (zdraw [[], [0], [], [], [], [2, 3, 4], [5], [6], [1, 7, 6], [0, 1, 2, 3, 4, 5, 6, 7, 8], [9, 8, 8, 0, 1, 2, 3, 4, 5, 6, 7, 8]] [some 64, some 65, some 66, some 67, some 68, some 69, some 70, some 71, some 72, some 73, none] [[4], [64], [5], [8], [10], [66, 67, 68], [69], [70], [65, 71], [4], [73, 72]] [0, 1, 2, 3, 4, 5, 6, 7, 8, 9, 10] ⟨by kernel_rfl, by kernel_rfl, by kernel_rfl⟩ (by kernel_rfl) (fun s188 p188 l188 tb188 zd188 => ?_)))))))
  refine Yc 5 [some 65, some 64] tb188 (((((zd188.add 0 64 (pO b12 1) rfl).add 1 65 vx108_0 rfl).add 2 66 vx29_0 rfl).add 3 67 (iI x108.1) rfl).add 4 68 (iI (IntKind.wrap .i64 (x108.1 + (IntKind.wrap .i64 (at_ x29 (IntKind.wrap .i64 ((1 : Int) + x108.2.1))))))) rfl) (Xa (Xm rfl) rfl (Xa (Xm rfl) rfl (Xa (Xp (By132_b21.st p188 rfl) u25 rfl) rfl (Xa (Xp (By132_b12.st p188 rfl) u57 rfl) rfl (Xa (Xr fa59_1 rfl) rfl Xg))))) (by kernel_rfl) rfl (fun l196 e196 zd196 => ?_)
  have A199 := Cy132_94.st p188 rfl
  refine slb A199.rd u25 z5 rfl rfl rfl rfl rfl rfl rfl rfl (fun v200 A200 => ?_)
  refine Xl (L' := [1, 0]) (D' := [2, 3, 4, 5]) zd196 rfl (fun zd202 => ?_)
  refine Yc 6 [some 65, some 64] tb188 zd202 (Xa (Xp (By132_b12.st p188 rfl) u57 rfl) rfl (Xa (Xr fa59_1 rfl) rfl Xg)) (by kernel_rfl) rfl (fun l203 e203 zd203 => ?_)
  refine clO 52 rfl func64 rfl (slices_Clone_byte_byte.calls ((x29.take ((IntKind.wrap .i64 (x108.1 + (IntKind.wrap .i64 (at_ x29 (IntKind.wrap .i64 ((1 : Int) + x108.2.1))))))).toNat).drop (x108.1).toNat) s188.w (mm [47] s188) v200 A200) (fun r205 v205_0 s206 p206 A205_0 => ?_)
  refine Xl (L' := [1, 0]) (D' := [6, 2, 3, 4, 5]) zd203 rfl (fun zd208 => ?_)
  refine Yc 7 [some 65, some 64] tb188 zd208 (Xa (Xp (By132_b12.st (Xq p188 p206) rfl) u57 rfl) rfl (Xa (Xr fa59_1 rfl) rfl Xg)) (by kernel_rfl) rfl (fun l209 e209 zd209 => ?_)
  refine ltO (K := Yo) (cells := [v205_0]) [r205] 52 u57 z25 o25 (lo_one A205_0) rfl rfl rfl rfl rfl rfl rfl rfl rfl (lfill_pc (pc_c (oc A205_0.rd.one) pc_n) rfl) (fun v212 s212 p212 A212 => ?_)
  refine Xl (L' := [1, 0]) (D' := [7, 6, 2, 3, 4, 5]) zd209 rfl (fun zd214 => ?_)
  refine zfin [8, 9, 10] tb188 zd214 (Xa (Xp (By132_b12.st (Yi p188 p206 p212) rfl) u57 rfl) rfl (Xa (Xr fa59_1 rfl) rfl Xg)) (by kernel_rfl) (by decide) (apO sl57 (Cy132_113.st (Yi p188 p206 p212) rfl) A212 rfl rfl rfl rfl rfl rfl rfl rfl rfl (fun v217 s217 p217 A217 => ?_))
  refine Xt fa59_1 rfl (sv' (By132_b12.st (tr4 p188 p206 p212 p217) rfl) z57 rfl A217.rd.one rfl (fun s220 p220 B220 => ?_))
  refine dn (rg (Xc rfl (Xc rfl (dn (ib (rg (Xc rfl (Xc rfl (dn ?_)))))))))
  exact lb ih108 ⟨s220, _, v217, rfl, (ue (ue (ue (ue (ue (ue (ue rfl rfl) rfl) rfl) rfl) rfl) rfl) rfl), (Ky132.st (tr5 p188 p206 p212 p217 p220) rfl), (A217.st p220 rfl), (LoopF.st (LoopF.st (LoopF.st (LoopF.st (LoopF.st By132_p97 p188 rfl) p206 rfl) p212 rfl) p217 rfl) p220 rfl), (By132_b21.st (tr5 p188 p206 p212 p217 p220) rfl), B220, (By132_b2.st (tr5 p188 p206 p212 p217 p220) rfl), (A199.st (tr4 p206 p212 p217 p220) rfl)⟩
 refine xt rfl (sgb (sq (sr (Xw (es := [(iI r16.1), vx108_0]) Bx108_b12 u59 z59 rfl (clO 54 rfl func93 rfl (impl_PageBytes.calls (Page.mk r16.1 x108.2.2) s112.w (mm [48] s112) vx108_0 Ax108_0.rd) (fun r228 v228_0 s229 p229 A228_0 => ?_))))))
 refine Xx w0_0 rfl ?_
 have K231 := Kx108.st p229 rfl
 refine Ym 55 rfl func89 rfl (bytes_Equal.calls r228 a0 s229.w (mm [54, 0] s229) v228_0 w0_0 (A228_0.rd.sub (D := [54, 0]) rfl) ((A0_0.kp K231).sub (D := [54, 0]) rfl)) (fun r233 s234 p234 n234 => ?_)
 refine Xc rfl (dn (cd rfl (fun h235 => ?_) (fun h235 => ?_)))
 ·
  refine sr (bd' (cells := [(iI 0), (.slice none 0 0)]) pl59 o59 rfl rfl ?_)
  refine Xu (vs := [(iI 0), (.slice none 0 0)]) (Bx108_b2.st (Xq p229 p234) rfl) z59 rfl (Xb rfl (Xb rfl Xi)) rfl (fun s237 p237 B237 => ?_)
  refine Xc rfl (dn ?_)
  refine reD (LoopF.st (LoopF.st (LoopF.st Bx108_p97 p229 rfl) p234 rfl) p237 rfl) rfl rfl rfl func65 rfl (fun s240 p240 => ?_)
  have A241 : OwF kd59 s240 [(iI 0), (.slice none 0 0)] (Page.mk (0 : Int) ([] : (List (List Int)))) 56 := ow_z _ _ (Xz (fun x : Page => (x.Lsn, x.Slots)) (Page.mk (0 : Int) ([] : (List (List Int)))) (Xh (Xf .i64 (0 : Int)) (Ya 25 Yo)))
  have K244 := K231.st (Yi p234 p237 p240) rfl
  exact ⟨_, _, (r_b (B237.st p240 rfl) u59 rfl z59 rfl (Xs rfl Xe)), rfl, ⟨_, rfl, (.slice none 0 0), rfl, A241.fo K244 rfl z.l, z.ky K244⟩⟩
 refine sk (sr ?_)
 refine Xw (es := [(iI r16.1), vx108_0]) (Bx108_b12.st (Xq p229 p234) rfl) u59 z59 rfl ?_
 have A247 := Ax108_0.st (Xq p229 p234) rfl
 refine Xu (vs := [(iI r16.1), vx108_0]) (Bx108_b2.st (Xq p229 p234) rfl) z59 rfl (Xb rfl (Xb A247.rd.one Xi)) rfl (fun s248 p248 B248 => ?_)
 refine Xc rfl (dn ?_)
 refine reD (LoopF.st (LoopF.st (LoopF.st Bx108_p97 p229 rfl) p234 rfl) p248 rfl) rfl rfl rfl func65 rfl (fun s251 p251 => ?_)
 have A252 : OwF kd59 s251 [(iI r16.1), vx108_0] (Page.mk r16.1 x108.2.2) 48 := (Xo (fun x : Page => (x.Lsn, x.Slots)) (Page.mk r16.1 x108.2.2) (Yg (Xf .i64 r16.1) (A247.st (Xq p248 p251) rfl)))
 have K256 := K231.st (Yi p234 p248 p251) rfl
 exact ⟨_, _, (r_b (B248.st p251 rfl) u59 rfl z59 rfl (Xs rfl Xe)), rfl, ⟨_, rfl, vx108_0, rfl, A252.fo K256 rfl z.l, z.ky K256⟩⟩
end Go.Proofs.YtkkpplnhcpjmgaaGreat
