/- The functions as models, and that the calls come to what the models tell. -/
import Derived.Test.YtkkpplnhcpjmgaaGreatGt
set_option linter.unusedVariables false
set_option linter.unusedSimpArgs false
set_option maxHeartbeats 4000000
set_option maxRecDepth 100000
noncomputable section
namespace Go.Proofs.YtkkpplnhcpjmgaaGreat
open Go V Tryz
def laws_szByteS.f (a0 : (List Int)) (a1 : Int) : Option (Int) :=
 (if (decide ((IntKind.wrap .i64 (a1 - (a0.length : Int))) < (0 : Int))) = true then (some (-1 : Int)) else (some (IntKind.wrap .i64 (a1 - (a0.length : Int)))))
def laws_szByteS.Q (w : World) (F : Nat → Prop) (r : Int) (v : Value) (w' : World) : Prop :=
 v = (iI r) ∧ Ky [] w w'
theorem laws_szByteS.calls (a0 : (List Int)) (a1 : Int) (w : World) (F : Nat → Prop) (w0_0 : Value) (h0_0 : Yo.rd w [w0_0] a0 F) (r : Int) (m : laws_szByteS.f a0 a1 = some r) :
  Calls prog 23 #[w0_0, (iI a1)] w (RT (laws_szByteS.Q w F) r) := by
 obtain ⟨s0, rfl, kp0, z⟩ := Xk w F
 refine Xd (args := [w0_0, (iI a1)]) func23 ntmps23 rfl rfl m ?_
 unfold laws_szByteS.f
 refine sr (Xc rfl (dn (sr (Xc rfl (Xx w0_0 rfl (Yl (z.rd h0_0) u25 rfl (Xc rfl (Xc rfl (dn (sq (sr (Xc rfl (Xc rfl (dn ?_))))))))))))))
 refine cd rfl (fun h2 => ?_) (fun h2 => ?_)
 ·
  exact sr (Xc rfl (dn (re rfl func23 rfl (Xs rfl Xe) rfl ⟨_, rfl, rfl, z.ky kp0⟩)))
 exact sk (sr (Xc rfl (Xc rfl (dn (re rfl func23 rfl (Xs rfl Xe) rfl ⟨_, rfl, rfl, z.ky kp0⟩)))))
def laws_szByteSS.b0 (a0 : (List (List Int))) (x3 : Int × Int) : Option ((Int × Int) ⊕ Int) :=
 (if (decide (x3.2 < (a0.length : Int))) = true then (if 0 ≤ x3.2 ∧ x3.2 < (a0.length : Int) then ((laws_szByteS.f (at_ a0 x3.2) x3.1).bind fun r10 => (if (decide (r10 < (0 : Int))) = true then (some (Sum.inr (-1 : Int))) else (some (Sum.inl (r10, (IntKind.wrap .i64 (x3.2 + (1 : Int)))))))) else none) else ((some x3.1).bind fun o => some (Sum.inr o)))
def laws_szByteSS.f (a0 : (List (List Int))) (a1 : Int) : Option (Int) :=
 (if (decide ((IntKind.wrap .i64 (a1 - (a0.length : Int))) < (0 : Int))) = true then (some (-1 : Int)) else (iter (laws_szByteSS.b0 a0) ((IntKind.wrap .i64 (a1 - (a0.length : Int))), (0 : Int))))
def laws_szByteSS.Q (w : World) (F : Nat → Prop) (r : Int) (v : Value) (w' : World) : Prop :=
 v = (iI r) ∧ Ky [] w w'
theorem laws_szByteSS.calls (a0 : (List (List Int))) (a1 : Int) (w : World) (F : Nat → Prop) (w0_0 : Value) (h0_0 : (Kd.sl 25 Yo).rd w [w0_0] a0 F) (r : Int) (m : laws_szByteSS.f a0 a1 = some r) :
  Calls prog 73 #[w0_0, (iI a1)] w (RT (laws_szByteSS.Q w F) r) := by
 obtain ⟨s0, rfl, kp0, z⟩ := Xk w F
 have A0_0 := z.rd h0_0
 refine Xd (args := [w0_0, (iI a1)]) func73 ntmps73 rfl rfl m ?_
 unfold laws_szByteSS.f
 refine sr (Xc rfl (dn (sr (Xc rfl (Xx w0_0 rfl (Yl A0_0 u57 rfl (Xc rfl (Xc rfl (dn (sq (sr (Xc rfl (Xc rfl (dn ?_))))))))))))))
 refine cd rfl (fun h2 => ?_) (fun h2 => ?_)
 ·
  exact sr (Xc rfl (dn (re rfl func73 rfl (Xs rfl Xe) rfl ⟨_, rfl, rfl, z.ky kp0⟩)))
 refine sk (sq (sr (Xc rfl (dn (bl (lpI (fun (x3 : Int × Int) e w => ∃ (s : St) (e0 : Env), w = s.w ∧ e = upd (upd (upd e0 0 w0_0) 1 (iI x3.1)) 5 (iI x3.2) ∧ Kp s0 s) ⟨s0, _, rfl, (ue (ue (ue rfl rfl) rfl) rfl), kp0⟩ (fun g3 ih3 => ?_)))))))
 rintro x3 _ _ ⟨s4, _, rfl, rfl, Kx3⟩
 unfold laws_szByteSS.b0
 refine sq (sr (Xc rfl (Xx w0_0 rfl ?_)))
 have A5 := A0_0.kp Kx3
 refine Yl A5 u57 rfl (Xc rfl (dn (cd rfl (fun h6 => ?_) (fun h6 => ?_))))
 ·
  refine sk (sq (bl (sr (Xx w0_0 rfl (Xc rfl (ix' A5 u57 z25 rfl (fun ad7 es7 h0_7 h1_7 he7 ce7 ia7 => ?_)))))))
  obtain ⟨v7, rfl, he7'⟩ := he7
  have A7 : RdF Yo s4 [v7] (at_ a0 x3.2) [0] := ⟨v7, rfl, he7'⟩
  refine lc0' ce7 u25 rfl (Xc rfl (Ym 40 rfl func23 rfl (laws_szByteS.calls (at_ a0 x3.2) x3.1 s4.w (mm [0] s4) v7 A7) (fun r10 s11 p11 n11 => ?_)))
  refine Xc rfl (dn (sr (Xc rfl (Xc rfl (dn (cd rfl (fun h12 => ?_) (fun h12 => ?_)))))))
  ·
   refine sr (Xc rfl (dn (sgi ?_)))
   exact re rfl func73 rfl (Xs rfl Xe) rfl ⟨_, rfl, rfl, z.ky (Kx3.st p11 rfl)⟩
  refine sk (ib (rg (Xc rfl (Xc rfl (Xc rfl (dn ?_))))))
  exact lb ih3 ⟨s11, _, rfl, (ue (ue (ue rfl rfl) rfl) rfl), (Kx3.st p11 rfl)⟩
 exact xt rfl (sgb (sr (Xc rfl (Xc rfl (dn (re rfl func73 rfl (Xs rfl Xe) rfl ⟨_, rfl, rfl, z.ky Kx3⟩))))))
def laws_szPage.f (a0 : Page) (a1 : Int) : Option (Int) :=
 ((laws_szByteSS.f a0.Slots a1).bind fun r6 => (if (decide (r6 < (0 : Int))) = true then (some (-1 : Int)) else (some r6)))
def laws_szPage.Q (w : World) (F : Nat → Prop) (r : Int) (v : Value) (w' : World) : Prop :=
 v = (iI r) ∧ Ky [] w w'
theorem laws_szPage.calls (a0 : Page) (a1 : Int) (w : World) (F : Nat → Prop) (w0_0 : Value) (h0_0 : (Kd.sl 25 Yo).rd w [w0_0] a0.Slots F) (r : Int) (m : laws_szPage.f a0 a1 = some r) :
  Calls prog 42 #[(.agg #[(iI a0.Lsn), w0_0]), (iI a1)] w (RT (laws_szPage.Q w F) r) := by
 obtain ⟨s0, rfl, kp0, z⟩ := Xk w F
 refine Xd (args := [(.agg #[(iI a0.Lsn), w0_0]), (iI a1)]) func42 ntmps42 rfl rfl m ?_
 unfold laws_szPage.f
 refine sr (bx' (cs := [(iI a0.Lsn), w0_0]) 40 rfl rfl (fun b2 s2 p2 B2 => ?_))
 refine Xc rfl (dn (sr (Xt fa73_1 rfl (Yb B2 u57 rfl (Xc rfl ?_)))))
 have K4 := kp0.st p2 rfl
 refine Ym 41 rfl func73 rfl (laws_szByteSS.calls a0.Slots a1 s2.w (mm [0] s2) w0_0 ((z.rd h0_0).kp K4)) (fun r6 s7 p7 n7 => ?_)
 refine Xc rfl (dn (sq (sr (Xc rfl (Xc rfl (dn (cd rfl (fun h8 => ?_) (fun h8 => ?_))))))))
 ·
  refine sr (Xc rfl (dn ?_))
  exact re rfl func42 rfl (Xs rfl Xe) rfl ⟨_, rfl, rfl, z.ky (K4.st p7 rfl)⟩
 refine sk (sr (Xc rfl (Xc rfl (dn ?_))))
 exact re rfl func42 rfl (Xs rfl Xe) rfl ⟨_, rfl, rfl, z.ky (K4.st p7 rfl)⟩
def laws_szPageS.b0 (a0 : (List Page)) (x3 : Int × Int) : Option ((Int × Int) ⊕ Int) :=
 (if (decide (x3.2 < (a0.length : Int))) = true then (if 0 ≤ x3.2 ∧ x3.2 < (a0.length : Int) then ((laws_szPage.f (at_ a0 x3.2) x3.1).bind fun r10 => (if (decide (r10 < (0 : Int))) = true then (some (Sum.inr (-1 : Int))) else (some (Sum.inl (r10, (IntKind.wrap .i64 (x3.2 + (1 : Int)))))))) else none) else ((some x3.1).bind fun o => some (Sum.inr o)))
def laws_szPageS.f (a0 : (List Page)) (a1 : Int) : Option (Int) :=
 (if (decide ((IntKind.wrap .i64 (a1 - (a0.length : Int))) < (0 : Int))) = true then (some (-1 : Int)) else (iter (laws_szPageS.b0 a0) ((IntKind.wrap .i64 (a1 - (a0.length : Int))), (0 : Int))))
def laws_szPageS.Q (w : World) (F : Nat → Prop) (r : Int) (v : Value) (w' : World) : Prop :=
 v = (iI r) ∧ Ky [] w w'
theorem laws_szPageS.calls (a0 : (List Page)) (a1 : Int) (w : World) (F : Nat → Prop) (w0_0 : Value) (h0_0 : (Kd.sl 73 kd73).rd w [w0_0] a0 F) (r : Int) (m : laws_szPageS.f a0 a1 = some r) :
  Calls prog 22 #[w0_0, (iI a1)] w (RT (laws_szPageS.Q w F) r) := by
 obtain ⟨s0, rfl, kp0, z⟩ := Xk w F
 have A0_0 := z.rd h0_0
 refine Xd (args := [w0_0, (iI a1)]) func22 ntmps22 rfl rfl m ?_
 unfold laws_szPageS.f
 refine sr (Xc rfl (dn (sr (Xc rfl (Xx w0_0 rfl (Yl A0_0 u22 rfl (Xc rfl (Xc rfl (dn (sq (sr (Xc rfl (Xc rfl (dn ?_))))))))))))))
 refine cd rfl (fun h2 => ?_) (fun h2 => ?_)
 ·
  exact sr (Xc rfl (dn (re rfl func22 rfl (Xs rfl Xe) rfl ⟨_, rfl, rfl, z.ky kp0⟩)))
 refine sk (sq (sr (Xc rfl (dn (bl (lpI (fun (x3 : Int × Int) e w => ∃ (s : St) (e0 : Env), w = s.w ∧ e = upd (upd (upd e0 0 w0_0) 1 (iI x3.1)) 5 (iI x3.2) ∧ Kp s0 s) ⟨s0, _, rfl, (ue (ue (ue rfl rfl) rfl) rfl), kp0⟩ (fun g3 ih3 => ?_)))))))
 rintro x3 _ _ ⟨s4, _, rfl, rfl, Kx3⟩
 unfold laws_szPageS.b0
 refine sq (sr (Xc rfl (Xx w0_0 rfl ?_)))
 have A5 := A0_0.kp Kx3
 refine Yl A5 u22 rfl (Xc rfl (dn (cd rfl (fun h6 => ?_) (fun h6 => ?_))))
 ·
  refine sk (sq (bl (sr (Xx w0_0 rfl (Xc rfl (ix' A5 u22 z73 rfl (fun ad7 es7 h0_7 h1_7 he7 ce7 ia7 => ?_)))))))
  obtain ⟨v7_0, rfl, A7_0⟩ := op73 he7
  refine lca ce7 u73 z73 rfl rfl rfl rfl rfl rfl rfl (Xc rfl (Ym 40 rfl func42 rfl (laws_szPage.calls (at_ a0 x3.2) x3.1 s4.w (mm [0] s4) v7_0 A7_0) (fun r10 s11 p11 n11 => ?_)))
  refine Xc rfl (dn (sr (Xc rfl (Xc rfl (dn (cd rfl (fun h12 => ?_) (fun h12 => ?_)))))))
  ·
   refine sr (Xc rfl (dn (sgi ?_)))
   exact re rfl func22 rfl (Xs rfl Xe) rfl ⟨_, rfl, rfl, z.ky (Kx3.st p11 rfl)⟩
  refine sk (ib (rg (Xc rfl (Xc rfl (Xc rfl (dn ?_))))))
  exact lb ih3 ⟨s11, _, rfl, (ue (ue (ue rfl rfl) rfl) rfl), (Kx3.st p11 rfl)⟩
 exact xt rfl (sgb (sr (Xc rfl (Xc rfl (dn (re rfl func22 rfl (Xs rfl Xe) rfl ⟨_, rfl, rfl, z.ky Kx3⟩))))))
def laws_szHeap.f (a0 : Heap) (a1 : Int) : Option (Int) :=
 ((laws_szPageS.f a0.Pages a1).bind fun r6 => (if (decide (r6 < (0 : Int))) = true then (some (-1 : Int)) else (some r6)))
def laws_szHeap.Q (w : World) (F : Nat → Prop) (r : Int) (v : Value) (w' : World) : Prop :=
 v = (iI r) ∧ Ky [] w w'
theorem laws_szHeap.calls (a0 : Heap) (a1 : Int) (w : World) (F : Nat → Prop) (w0_0 : Value) (h0_0 : (Kd.sl 73 kd73).rd w [w0_0] a0.Pages F) (r : Int) (m : laws_szHeap.f a0 a1 = some r) :
  Calls prog 5 #[(.agg #[w0_0]), (iI a1)] w (RT (laws_szHeap.Q w F) r) := by
 obtain ⟨s0, rfl, kp0, z⟩ := Xk w F
 refine Xd (args := [(.agg #[w0_0]), (iI a1)]) func5 ntmps5 rfl rfl m ?_
 unfold laws_szHeap.f
 refine sr (bx' (cs := [w0_0]) 40 rfl rfl (fun b2 s2 p2 B2 => ?_))
 refine Xc rfl (dn (sr (Xt fa24_0 rfl (Yb B2 u22 rfl (Xc rfl ?_)))))
 have K4 := kp0.st p2 rfl
 refine Ym 41 rfl func22 rfl (laws_szPageS.calls a0.Pages a1 s2.w (mm [0] s2) w0_0 ((z.rd h0_0).kp K4)) (fun r6 s7 p7 n7 => ?_)
 refine Xc rfl (dn (sq (sr (Xc rfl (Xc rfl (dn (cd rfl (fun h8 => ?_) (fun h8 => ?_))))))))
 ·
  refine sr (Xc rfl (dn ?_))
  exact re rfl func5 rfl (Xs rfl Xe) rfl ⟨_, rfl, rfl, z.ky (K4.st p7 rfl)⟩
 refine sk (sr (Xc rfl (Xc rfl (dn ?_))))
 exact re rfl func5 rfl (Xs rfl Xe) rfl ⟨_, rfl, rfl, z.ky (K4.st p7 rfl)⟩
def laws_szRecord.f (a0 : Record) (a1 : Int) : Option (Int) :=
 ((laws_szByteS.f a0.Data a1).bind fun r6 => (if (decide (r6 < (0 : Int))) = true then (some (-1 : Int)) else (some r6)))
def laws_szRecord.Q (w : World) (F : Nat → Prop) (r : Int) (v : Value) (w' : World) : Prop :=
 v = (iI r) ∧ Ky [] w w'
theorem laws_szRecord.calls (a0 : Record) (a1 : Int) (w : World) (F : Nat → Prop) (w0_0 : Value) (h0_0 : Yo.rd w [w0_0] a0.Data F) (r : Int) (m : laws_szRecord.f a0 a1 = some r) :
  Calls prog 6 #[(.agg #[(iI a0.Kind), (iI a0.Lsn), (iI a0.Xid), (iI a0.Page), (iI a0.Slot), w0_0]), (iI a1)] w (RT (laws_szRecord.Q w F) r) := by
 obtain ⟨s0, rfl, kp0, z⟩ := Xk w F
 refine Xd (args := [(.agg #[(iI a0.Kind), (iI a0.Lsn), (iI a0.Xid), (iI a0.Page), (iI a0.Slot), w0_0]), (iI a1)]) func6 ntmps6 rfl rfl m ?_
 unfold laws_szRecord.f
 refine sr (bx' (cs := [(iI a0.Kind), (iI a0.Lsn), (iI a0.Xid), (iI a0.Page), (iI a0.Slot), w0_0]) 40 rfl rfl (fun b2 s2 p2 B2 => ?_))
 refine Xc rfl (dn (sr (Xt fa27_5 rfl (Yb B2 u25 rfl (Xc rfl ?_)))))
 have K4 := kp0.st p2 rfl
 refine Ym 41 rfl func23 rfl (laws_szByteS.calls a0.Data a1 s2.w (mm [0] s2) w0_0 ((z.rd h0_0).kp K4)) (fun r6 s7 p7 n7 => ?_)
 refine Xc rfl (dn (sq (sr (Xc rfl (Xc rfl (dn (cd rfl (fun h8 => ?_) (fun h8 => ?_))))))))
 ·
  refine sr (Xc rfl (dn ?_))
  exact re rfl func6 rfl (Xs rfl Xe) rfl ⟨_, rfl, rfl, z.ky (K4.st p7 rfl)⟩
 refine sk (sr (Xc rfl (Xc rfl (dn ?_))))
 exact re rfl func6 rfl (Xs rfl Xe) rfl ⟨_, rfl, rfl, z.ky (K4.st p7 rfl)⟩
def laws_toByteS.b0 (a0 : (List Int)) (x4 : (List Int) × Int) : Option (((List Int) × Int) ⊕ (List Int)) :=
 (if (decide (x4.2 < (a0.length : Int))) = true then (if 0 ≤ x4.2 ∧ x4.2 < (a0.length : Int) then (if 0 ≤ x4.2 ∧ x4.2 < (x4.1.length : Int) then (some (Sum.inl ((x4.1.set (x4.2).toNat (at_ a0 x4.2)), (IntKind.wrap .i64 (x4.2 + (1 : Int)))))) else none) else none) else ((some x4.1).bind fun o => some (Sum.inr o)))
def laws_toByteS.f (a0 : (List Int)) : Option ((List Int)) :=
 (if 0 ≤ (a0.length : Int) ∧ (a0.length : Int) ≤ (Lim : Int) then (iter (laws_toByteS.b0 a0) ((List.replicate ((a0.length : Int)).toNat (0 : Int)), (0 : Int))) else none)
def laws_toByteS.Q (w : World) (F : Nat → Prop) (r : (List Int)) (v : Value) (w' : World) : Prop :=
 FO Yo w w' [v] r ∧ Ky [] w w'
theorem laws_toByteS.calls (a0 : (List Int)) (w : World) (F : Nat → Prop) (w0_0 : Value) (h0_0 : Yo.rd w [w0_0] a0 F) (r : (List Int)) (m : laws_toByteS.f a0 = some r) :
  Calls prog 32 #[w0_0] w (RT (laws_toByteS.Q w F) r) := by
 obtain ⟨s0, rfl, kp0, z⟩ := Xk w F
 have A0_0 := z.rd h0_0
 refine Xd (args := [w0_0]) func32 ntmps32 rfl rfl m ?_
 unfold laws_toByteS.f
 refine sr (Xc rfl (dn (sr (Xx w0_0 rfl (Yl A0_0 u25 rfl (mk (x0 := (0 : Int)) (K := (Kd.int .u8)) 40 sl25 o5 (fun _ => ⟨rfl, rfl⟩) rfl rfl rfl rfl rfl rfl rfl (fun v2 s2 p2 A2 => ?_)))))))
 refine Yd v2 rfl (dn (sq (sr (Xc rfl (dn (bl ?_))))))
 refine lpI (fun (x4 : (List Int) × Int) e w => ∃ (s : St) (e0 : Env), w = s.w ∧ e = upd (upd (upd e0 0 w0_0) 3 v2) 4 (iI x4.2) ∧ Kp s0 s ∧ OwF Yo s [v2] x4.1 40) ⟨s2, _, rfl, (ue (ue (ue rfl rfl) rfl) rfl), (kp0.st p2 rfl), A2⟩ (fun g4 ih4 => ?_)
 rintro x4 _ _ ⟨s6, _, rfl, rfl, Kx4, Ax4_0⟩
 unfold laws_toByteS.b0
 refine sq (sr (Xc rfl (Xx w0_0 rfl ?_)))
 have A8 := A0_0.kp Kx4
 refine Yl A8 u25 rfl (Xc rfl (dn (cd rfl (fun h9 => ?_) (fun h9 => ?_))))
 ·
  refine sk (sq (bl (rg (Xx v2 rfl (Xc rfl (Xx w0_0 rfl (Xc rfl (ix' A8 u25 z5 rfl (fun ad10 es10 h0_10 h1_10 he10 ce10 ia10 => ?_)))))))))
  obtain rfl := he10
  refine lc0' ce10 u5 rfl (ix' Ax4_0.rd u25 z5 rfl (fun ad12 es12 h0_12 h1_12 he12 ce12 ia12 => ?_))
  obtain rfl := he12
  refine so (x' := (at_ a0 x4.2)) Ax4_0 ia12 h0_12 h1_12 cs_flat z5 rfl rfl rfl rfl rfl rfl (fun s14 p14 A14 => ?_)
  refine dn (ib (rg (Xc rfl (Xc rfl (Xc rfl (dn ?_))))))
  exact lb ih4 ⟨s14, _, rfl, (ue (ue (ue rfl rfl) rfl) rfl), (Kx4.st p14 rfl), A14⟩
 exact xt rfl (sgb (sr (Xx v2 rfl (Yd v2 rfl (dn (re rfl func32 rfl (Xs rfl Xe) rfl ⟨_, rfl, Ax4_0.fo Kx4 rfl z.l, z.ky Kx4⟩))))))
def laws_toByteSS.b0 (a0 : (List (List Int))) (x4 : (List (List Int)) × Int) : Option (((List (List Int)) × Int) ⊕ (List (List Int))) :=
 (if (decide (x4.2 < (a0.length : Int))) = true then (if 0 ≤ x4.2 ∧ x4.2 < (a0.length : Int) then ((laws_toByteS.f (at_ a0 x4.2)).bind fun r13 => (if 0 ≤ x4.2 ∧ x4.2 < (x4.1.length : Int) then (some (Sum.inl ((x4.1.set (x4.2).toNat r13), (IntKind.wrap .i64 (x4.2 + (1 : Int)))))) else none)) else none) else ((some x4.1).bind fun o => some (Sum.inr o)))
def laws_toByteSS.f (a0 : (List (List Int))) : Option ((List (List Int))) :=
 (if 0 ≤ (a0.length : Int) ∧ (a0.length : Int) ≤ (Lim : Int) then (iter (laws_toByteSS.b0 a0) ((List.replicate ((a0.length : Int)).toNat ([] : (List Int))), (0 : Int))) else none)
def laws_toByteSS.Q (w : World) (F : Nat → Prop) (r : (List (List Int))) (v : Value) (w' : World) : Prop :=
 FO (Kd.sl 25 Yo) w w' [v] r ∧ Ky [] w w'
theorem laws_toByteSS.calls (a0 : (List (List Int))) (w : World) (F : Nat → Prop) (w0_0 : Value) (h0_0 : (Kd.sl 25 Yo).rd w [w0_0] a0 F) (r : (List (List Int))) (m : laws_toByteSS.f a0 = some r) :
  Calls prog 80 #[w0_0] w (RT (laws_toByteSS.Q w F) r) := by
 obtain ⟨s0, rfl, kp0, z⟩ := Xk w F
 have A0_0 := z.rd h0_0
 refine Xd (args := [w0_0]) func80 ntmps80 rfl rfl m ?_
 unfold laws_toByteSS.f
 refine sr (Xc rfl (dn (sr (Xx w0_0 rfl (Yl A0_0 u57 rfl (mk (x0 := ([] : (List Int))) (K := Yo) 40 sl57 o25 (fun _ => ⟨_, rfl, [], [], [], rfl, ⟨by simp, .inl ⟨rfl, rfl, rfl⟩⟩, ⟨rfl, rfl⟩⟩) rfl rfl rfl rfl rfl rfl rfl (fun v2 s2 p2 A2 => ?_)))))))
 refine Yd v2 rfl (dn (sq (sr (Xc rfl (dn (bl ?_))))))
 refine lpI (fun (x4 : (List (List Int)) × Int) e w => ∃ (s : St) (e0 : Env), w = s.w ∧ e = upd (upd (upd e0 0 w0_0) 3 v2) 4 (iI x4.2) ∧ Kp s0 s ∧ OwF (Kd.sl 25 Yo) s [v2] x4.1 40) ⟨s2, _, rfl, (ue (ue (ue rfl rfl) rfl) rfl), (kp0.st p2 rfl), A2⟩ (fun g4 ih4 => ?_)
 rintro x4 _ _ ⟨s6, _, rfl, rfl, Kx4, Ax4_0⟩
 unfold laws_toByteSS.b0
 refine sq (sr (Xc rfl (Xx w0_0 rfl ?_)))
 have A8 := A0_0.kp Kx4
 refine Yl A8 u57 rfl (Xc rfl (dn (cd rfl (fun h9 => ?_) (fun h9 => ?_))))
 ·
  refine sk (sq (bl (rg (Xx v2 rfl (Xc rfl (Xx w0_0 rfl (Xc rfl (ix' A8 u57 z25 rfl (fun ad10 es10 h0_10 h1_10 he10 ce10 ia10 => ?_)))))))))
  obtain ⟨v10, rfl, he10'⟩ := he10
  have A10 : RdF Yo s6 [v10] (at_ a0 x4.2) [0] := ⟨v10, rfl, he10'⟩
  refine lc0' ce10 u25 rfl (clO 41 rfl func32 rfl (laws_toByteS.calls (at_ a0 x4.2) s6.w (mm [0] s6) v10 A10) (fun r13 v13_0 s14 p14 A13_0 => ?_))
  have A16 := Ax4_0.st p14 rfl
  refine ix' A16.rd u57 z25 rfl (fun ad17 es17 h0_17 h1_17 he17 ce17 ia17 => ?_)
  obtain ⟨v17, rfl, he17'⟩ := he17
  have A17 : RdF Yo s14 [v17] (at_ x4.1 x4.2) [40] := ⟨v17, rfl, he17'⟩
  refine sog (x' := r13) lg_id A16 ia17 h0_17 h1_17 A13_0 rfl rfl z25 rfl rfl rfl rfl rfl (oc A13_0.rd.one) (fun s20 p20 A20 => ?_)
  refine dn (ib (rg (Xc rfl (Xc rfl (Xc rfl (dn ?_))))))
  exact lb ih4 ⟨s20, _, rfl, (ue (ue (ue rfl rfl) rfl) rfl), (Kx4.st (Xq p14 p20) rfl), A20⟩
 exact xt rfl (sgb (sr (Xx v2 rfl (Yd v2 rfl (dn (re rfl func80 rfl (Xs rfl Xe) rfl ⟨_, rfl, Ax4_0.fo Kx4 rfl z.l, z.ky Kx4⟩))))))
def laws_toPage.f (a0 : Page) : Option (Page) :=
 ((laws_toByteSS.f a0.Slots).bind fun r14 => (some (Page.mk a0.Lsn r14)))
def laws_toPage.Q (w : World) (F : Nat → Prop) (r : Page) (v : Value) (w' : World) : Prop :=
 ∃ (v0 : Value), v = (.agg #[(iI r.Lsn), v0]) ∧ FO kd59 w w' [(iI r.Lsn), v0] r ∧ Ky [] w w'
theorem laws_toPage.calls (a0 : Page) (w : World) (F : Nat → Prop) (w0_0 : Value) (h0_0 : (Kd.sl 25 Yo).rd w [w0_0] a0.Slots F) (r : Page) (m : laws_toPage.f a0 = some r) :
  Calls prog 52 #[(.agg #[(iI a0.Lsn), w0_0])] w (RT (laws_toPage.Q w F) r) := by
 obtain ⟨s0, rfl, kp0, z⟩ := Xk w F
 refine Xd (args := [(.agg #[(iI a0.Lsn), w0_0])]) func52 ntmps52 rfl rfl m ?_
 unfold laws_toPage.f
 refine sr (bx' (cs := [(iI a0.Lsn), w0_0]) 40 rfl rfl (fun b2 s2 p2 B2 => ?_))
 refine al' (cs := [(iI 0), (.slice none 0 0)]) 41 rfl o59 rfl (fun b4 s4 p4 B4 => ?_)
 refine dn (sr (al' (cs := [(iI 0), (.slice none 0 0)]) 42 rfl o59 rfl (fun b6 s6 p6 B6 => ?_)))
 refine dn (sr (Xt fa73_0 rfl ?_))
 have A8 := B2.st (Xq p4 p6) rfl
 refine Yb A8 u3 rfl (Xt fa59_0 rfl (sv' B6 z3 rfl rfl rfl (fun s9 p9 B9 => ?_)))
 refine dn (sr (Xt fa73_1 rfl ?_))
 refine Yb (A8.st p9 rfl) u57 rfl ?_
 have K12 := kp0.st (tr4 p2 p4 p6 p9) rfl
 refine clO 43 rfl func80 rfl (laws_toByteSS.calls a0.Slots s9.w (mm [0] s9) w0_0 ((z.rd h0_0).kp K12)) (fun r14 v14_0 s15 p15 A14_0 => ?_)
 refine Xt fa59_1 rfl (sv' (B9.st p15 rfl) z57 rfl A14_0.rd.one rfl (fun s18 p18 B18 => ?_))
 refine dn (sr (Xw (es := [(iI a0.Lsn), v14_0]) B18 u59 z59 rfl ?_))
 have A21 := A14_0.st p18 rfl
 refine Xu (vs := [(iI a0.Lsn), v14_0]) (B4.st (tr4 p6 p9 p15 p18) rfl) z59 rfl (Xb rfl (Xb A21.rd.one Xi)) rfl (fun s22 p22 B22 => ?_)
 refine dn ?_
 have A24 : OwF kd59 s22 [(iI a0.Lsn), v14_0] (Page.mk a0.Lsn r14) 43 := (Xo (fun x : Page => (x.Lsn, x.Slots)) (Page.mk a0.Lsn r14) (Yg (Xf .i64 a0.Lsn) (A21.st p22 rfl)))
 have K27 := K12.st (Yi p15 p18 p22) rfl
 exact re rfl func52 rfl (r_b B22 u59 rfl z59 rfl Xe) rfl ⟨_, rfl, v14_0, rfl, A24.fo K27 rfl z.l, z.ky K27⟩
def laws_toPageS.b0 (a0 : (List Page)) (x4 : (List Page) × Int) : Option (((List Page) × Int) ⊕ (List Page)) :=
 (if (decide (x4.2 < (a0.length : Int))) = true then (if 0 ≤ x4.2 ∧ x4.2 < (a0.length : Int) then ((laws_toPage.f (at_ a0 x4.2)).bind fun r13 => (if 0 ≤ x4.2 ∧ x4.2 < (x4.1.length : Int) then (some (Sum.inl ((x4.1.set (x4.2).toNat r13), (IntKind.wrap .i64 (x4.2 + (1 : Int)))))) else none)) else none) else ((some x4.1).bind fun o => some (Sum.inr o)))
def laws_toPageS.f (a0 : (List Page)) : Option ((List Page)) :=
 (if 0 ≤ (a0.length : Int) ∧ (a0.length : Int) ≤ (Lim : Int) then (iter (laws_toPageS.b0 a0) ((List.replicate ((a0.length : Int)).toNat (Page.mk (0 : Int) ([] : (List (List Int))))), (0 : Int))) else none)
def laws_toPageS.Q (w : World) (F : Nat → Prop) (r : (List Page)) (v : Value) (w' : World) : Prop :=
 FO Yp w w' [v] r ∧ Ky [] w w'
theorem laws_toPageS.calls (a0 : (List Page)) (w : World) (F : Nat → Prop) (w0_0 : Value) (h0_0 : (Kd.sl 73 kd73).rd w [w0_0] a0 F) (r : (List Page)) (m : laws_toPageS.f a0 = some r) :
  Calls prog 31 #[w0_0] w (RT (laws_toPageS.Q w F) r) := by
 obtain ⟨s0, rfl, kp0, z⟩ := Xk w F
 have A0_0 := z.rd h0_0
 refine Xd (args := [w0_0]) func31 ntmps31 rfl rfl m ?_
 unfold laws_toPageS.f
 refine sr (Xc rfl (dn (sr (Xx w0_0 rfl (Yl A0_0 u22 rfl (mk (x0 := (Page.mk (0 : Int) ([] : (List (List Int))))) (K := kd59) 40 sl30 o59 (fun _ => ⟨_, _, [], [], rfl, rfl, ⟨rfl, rfl⟩, ⟨_, rfl, [], [], [], rfl, ⟨by simp, .inl ⟨rfl, rfl, rfl⟩⟩, ⟨rfl, rfl⟩⟩⟩) rfl rfl rfl rfl rfl rfl rfl (fun v2 s2 p2 A2 => ?_)))))))
 refine Yd v2 rfl (dn (sq (sr (Xc rfl (dn (bl ?_))))))
 refine lpI (fun (x4 : (List Page) × Int) e w => ∃ (s : St) (e0 : Env), w = s.w ∧ e = upd (upd (upd e0 0 w0_0) 3 v2) 4 (iI x4.2) ∧ Kp s0 s ∧ OwF Yp s [v2] x4.1 40) ⟨s2, _, rfl, (ue (ue (ue rfl rfl) rfl) rfl), (kp0.st p2 rfl), A2⟩ (fun g4 ih4 => ?_)
 rintro x4 _ _ ⟨s6, _, rfl, rfl, Kx4, Ax4_0⟩
 unfold laws_toPageS.b0
 refine sq (sr (Xc rfl (Xx w0_0 rfl ?_)))
 have A8 := A0_0.kp Kx4
 refine Yl A8 u22 rfl (Xc rfl (dn (cd rfl (fun h9 => ?_) (fun h9 => ?_))))
 ·
  refine sk (sq (bl (rg (Xx v2 rfl (Xc rfl (Xx w0_0 rfl (Xc rfl (ix' A8 u22 z73 rfl (fun ad10 es10 h0_10 h1_10 he10 ce10 ia10 => ?_)))))))))
  obtain ⟨v10_0, rfl, A10_0⟩ := op73 he10
  refine lca ce10 u73 z73 rfl rfl rfl rfl rfl rfl rfl (cl' rfl func52 rfl (laws_toPage.calls (at_ a0 x4.2) s6.w (mm [0] s6) v10_0 A10_0) ?_)
  rintro r13 _ w13 m13 ⟨v13_0, rfl, f13_0, ky13⟩
  obtain ⟨s14, rfl, p14, n14⟩ := nwx s6 w13 41 ky13
  have A16 := Ax4_0.st p14 rfl
  refine ix' A16.rd u30 z59 rfl (fun ad17 es17 h0_17 h1_17 he17 ce17 ia17 => ?_)
  obtain ⟨v17_0, rfl, A17_0⟩ := op59 he17
  have A20 : OwF kd59 s14 [(iI r13.Lsn), v13_0] r13 41 := (Xo (fun x : Page => (x.Lsn, x.Slots)) r13 (Yg (Xf .i64 r13.Lsn) (ap59 (f13_0.c n14))))
  refine som (x' := r13) A16 ia17 h0_17 h1_17 A20 rfl rfl z59 rfl rfl rfl rfl rfl rfl (fun s22 p22 A22 => ?_)
  refine dn (ib (rg (Xc rfl (Xc rfl (Xc rfl (dn ?_))))))
  exact lb ih4 ⟨s22, _, rfl, (ue (ue (ue rfl rfl) rfl) rfl), (Kx4.st (Xq p14 p22) rfl), A22⟩
 exact xt rfl (sgb (sr (Xx v2 rfl (Yd v2 rfl (dn (re rfl func31 rfl (Xs rfl Xe) rfl ⟨_, rfl, Ax4_0.fo Kx4 rfl z.l, z.ky Kx4⟩))))))
def laws_toHeap.f (a0 : Heap) : Option (Heap) :=
 ((laws_toPageS.f a0.Pages).bind fun r11 => (some (Heap.mk r11)))
def laws_toHeap.Q (w : World) (F : Nat → Prop) (r : Heap) (v : Value) (w' : World) : Prop :=
 ∃ (v0 : Value), v = (.agg #[v0]) ∧ FO kd32 w w' [v0] r ∧ Ky [] w w'
theorem laws_toHeap.calls (a0 : Heap) (w : World) (F : Nat → Prop) (w0_0 : Value) (h0_0 : (Kd.sl 73 kd73).rd w [w0_0] a0.Pages F) (r : Heap) (m : laws_toHeap.f a0 = some r) :
  Calls prog 8 #[(.agg #[w0_0])] w (RT (laws_toHeap.Q w F) r) := by
 obtain ⟨s0, rfl, kp0, z⟩ := Xk w F
 refine Xd (args := [(.agg #[w0_0])]) func8 ntmps8 rfl rfl m ?_
 unfold laws_toHeap.f
 refine sr (bx' (cs := [w0_0]) 40 rfl rfl (fun b2 s2 p2 B2 => ?_))
 refine al' (cs := [(.slice none 0 0)]) 41 rfl o32 rfl (fun b4 s4 p4 B4 => ?_)
 refine dn (sr (al' (cs := [(.slice none 0 0)]) 42 rfl o32 rfl (fun b6 s6 p6 B6 => ?_)))
 refine dn (sr (Xt fa24_0 rfl ?_))
 refine Yb (B2.st (Xq p4 p6) rfl) u22 rfl ?_
 have K9 := kp0.st (Yi p2 p4 p6) rfl
 refine clO 43 rfl func31 rfl (laws_toPageS.calls a0.Pages s6.w (mm [0] s6) w0_0 ((z.rd h0_0).kp K9)) (fun r11 v11_0 s12 p12 A11_0 => ?_)
 refine Xt fa32_0 rfl (sv' (B6.st p12 rfl) z30 rfl A11_0.rd.one rfl (fun s15 p15 B15 => ?_))
 refine dn (sr (Xw (es := [v11_0]) B15 u32 z32 rfl ?_))
 have A18 := A11_0.st p15 rfl
 refine Xu (vs := [v11_0]) (B4.st (Yi p6 p12 p15) rfl) z32 rfl (Xb A18.rd.one Xi) rfl (fun s19 p19 B19 => ?_)
 refine dn ?_
 have A21 : OwF kd32 s19 [v11_0] (Heap.mk r11) 43 := (Xo (fun x : Heap => (x.Pages)) (Heap.mk r11) (A18.st p19 rfl))
 have K24 := K9.st (Yi p12 p15 p19) rfl
 exact re rfl func8 rfl (r_b B19 u32 rfl z32 rfl Xe) rfl ⟨_, rfl, v11_0, rfl, A21.fo K24 rfl z.l, z.ky K24⟩
def laws_toRecord.f (a0 : Record) : Option (Record) :=
 ((laws_toByteS.f a0.Data).bind fun r26 => (some (Record.mk a0.Kind a0.Lsn a0.Xid a0.Page a0.Slot r26)))
def laws_toRecord.Q (w : World) (F : Nat → Prop) (r : Record) (v : Value) (w' : World) : Prop :=
 ∃ (v0 : Value), v = (.agg #[(iI r.Kind), (iI r.Lsn), (iI r.Xid), (iI r.Page), (iI r.Slot), v0]) ∧ FO kd36 w w' [(iI r.Kind), (iI r.Lsn), (iI r.Xid), (iI r.Page), (iI r.Slot), v0] r ∧ Ky [] w w'
theorem laws_toRecord.calls (a0 : Record) (w : World) (F : Nat → Prop) (w0_0 : Value) (h0_0 : Yo.rd w [w0_0] a0.Data F) (r : Record) (m : laws_toRecord.f a0 = some r) :
  Calls prog 9 #[(.agg #[(iI a0.Kind), (iI a0.Lsn), (iI a0.Xid), (iI a0.Page), (iI a0.Slot), w0_0])] w (RT (laws_toRecord.Q w F) r) := by
 obtain ⟨s0, rfl, kp0, z⟩ := Xk w F
 refine Xd (args := [(.agg #[(iI a0.Kind), (iI a0.Lsn), (iI a0.Xid), (iI a0.Page), (iI a0.Slot), w0_0])]) func9 ntmps9 rfl rfl m ?_
 unfold laws_toRecord.f
 refine sr (bx' (cs := [(iI a0.Kind), (iI a0.Lsn), (iI a0.Xid), (iI a0.Page), (iI a0.Slot), w0_0]) 40 rfl rfl (fun b2 s2 p2 B2 => ?_))
 refine al' (cs := [(iI 0), (iI 0), (iI 0), (iI 0), (iI 0), (.slice none 0 0)]) 41 rfl o36 rfl (fun b4 s4 p4 B4 => ?_)
 refine dn (sr (al' (cs := [(iI 0), (iI 0), (iI 0), (iI 0), (iI 0), (.slice none 0 0)]) 42 rfl o36 rfl (fun b6 s6 p6 B6 => ?_)))
 refine dn (sr (Xt fa27_0 rfl ?_))
 have A8 := B2.st (Xq p4 p6) rfl
 refine Yb A8 u3 rfl (Xt fa36_0 rfl (sv' B6 z3 rfl rfl rfl (fun s9 p9 B9 => ?_)))
 refine dn (sr (Xt fa27_1 rfl ?_))
 have A11 := A8.st p9 rfl
 refine Yb A11 u3 rfl (Xt fa36_1 rfl (sv' B9 z3 rfl rfl rfl (fun s12 p12 B12 => ?_)))
 refine dn (sr (Xt fa27_2 rfl ?_))
 have A14 := A11.st p12 rfl
 refine Yb A14 u3 rfl (Xt fa36_2 rfl (sv' B12 z3 rfl rfl rfl (fun s15 p15 B15 => ?_)))
 refine dn (sr (Xt fa27_3 rfl ?_))
 have A17 := A14.st p15 rfl
 refine Yb A17 u3 rfl (Xt fa36_3 rfl (sv' B15 z3 rfl rfl rfl (fun s18 p18 B18 => ?_)))
 refine dn (sr (Xt fa27_4 rfl ?_))
 have A20 := A17.st p18 rfl
 refine Yb A20 u3 rfl (Xt fa36_4 rfl (sv' B18 z3 rfl rfl rfl (fun s21 p21 B21 => ?_)))
 refine dn (sr (Xt fa27_5 rfl ?_))
 refine Yb (A20.st p21 rfl) u25 rfl ?_
 have K24 := kp0.st (tr8 p2 p4 p6 p9 p12 p15 p18 p21) rfl
 refine clO 43 rfl func32 rfl (laws_toByteS.calls a0.Data s21.w (mm [0] s21) w0_0 ((z.rd h0_0).kp K24)) (fun r26 v26_0 s27 p27 A26_0 => ?_)
 refine Xt fa36_5 rfl (sv' (B21.st p27 rfl) z25 rfl A26_0.rd.one rfl (fun s30 p30 B30 => ?_))
 refine dn (sr (Xw (es := [(iI a0.Kind), (iI a0.Lsn), (iI a0.Xid), (iI a0.Page), (iI a0.Slot), v26_0]) B30 u36 z36 rfl ?_))
 have A33 := A26_0.st p30 rfl
 refine Xu (vs := [(iI a0.Kind), (iI a0.Lsn), (iI a0.Xid), (iI a0.Page), (iI a0.Slot), v26_0]) (B4.st (tr8 p6 p9 p12 p15 p18 p21 p27 p30) rfl) z36 rfl (Xb rfl (Xb rfl (Xb rfl (Xb rfl (Xb rfl (Xb A33.rd.one Xi)))))) rfl (fun s34 p34 B34 => ?_)
 refine dn ?_
 have A36 : OwF kd36 s34 [(iI a0.Kind), (iI a0.Lsn), (iI a0.Xid), (iI a0.Page), (iI a0.Slot), v26_0] (Record.mk a0.Kind a0.Lsn a0.Xid a0.Page a0.Slot r26) 43 := (Xo (fun x : Record => (x.Kind, x.Lsn, x.Xid, x.Page, x.Slot, x.Data)) (Record.mk a0.Kind a0.Lsn a0.Xid a0.Page a0.Slot r26) (Yg (Xf .i64 a0.Kind) (Yg (Xf .i64 a0.Lsn) (Yg (Xf .i64 a0.Xid) (Yg (Xf .i64 a0.Page) (Yg (Xf .i64 a0.Slot) (A33.st p34 rfl)))))))
 have K39 := K24.st (Yi p27 p30 p34) rfl
 exact re rfl func9 rfl (r_b B34 u36 rfl z36 rfl Xe) rfl ⟨_, rfl, v26_0, rfl, A36.fo K39 rfl z.l, z.ky K39⟩
def spec_l5in.f (a0 : Int) (a1 : Int) (a2 : Int) : Option (Bool) :=
 (some ((decide (a0 ≥ a1)) && (decide (a0 ≤ a2))))
def spec_l5in.Q (w : World) (F : Nat → Prop) (r : Bool) (v : Value) (w' : World) : Prop :=
 v = (.bool r) ∧ Ky [] w w'
theorem spec_l5in.calls (a0 : Int) (a1 : Int) (a2 : Int) (w : World) (F : Nat → Prop)   (r : Bool) (m : spec_l5in.f a0 a1 a2 = some r) :
  Calls prog 45 #[(iI a0), (iI a1), (iI a2)] w (RT (spec_l5in.Q w F) r) := by
 obtain ⟨s0, rfl, kp0, z⟩ := Xk w F
 refine Xd (args := [(iI a0), (iI a1), (iI a2)]) func45 ntmps45 rfl rfl m ?_
 unfold spec_l5in.f
 refine sr (Xc rfl (dn (sr (Xc rfl (Xc rfl (Xc rfl (Xc rfl (jy [10, 11, 12, 13, 14] [8] 14 (.bool ((decide (a0 ≥ a1)) && (decide (a0 ≤ a2)))) rfl (fun Kg1 => ?_) (fun j1 => ?_)))))))))
 ·
  rcases Yn (decide (a0 ≥ a1)) with hb1 | hb1
  ·
   exact Xy hb1 (Xc rfl (Xc rfl (Xc rfl (Xc rfl (Kg1 _ (Ag.put ((Ag.put ((Ag.put ((Ag.put (Ag.base rfl) rfl)) rfl)) rfl)) rfl) (by rw [hb1]; rfl))))))
  exact Xy hb1 (Xj rfl (Xj rfl (Xj rfl (Xc rfl (Kg1 _ (Ag.put ((Ag.put ((Ag.put ((Ag.put (Ag.base rfl) rfl)) rfl)) rfl)) rfl) (by rw [hb1]; rfl))))))
 exact Xc rfl (dn (re rfl func45 rfl (Xs rfl Xe) rfl ⟨_, rfl, rfl, z.ky kp0⟩))
def spec_PageUsed.b0 (a0 : Page) (x15 : Int × Int) : Option ((Int × Int) ⊕ Int) :=
 (if (decide (x15.2 < (a0.Slots.length : Int))) = true then (if 0 ≤ x15.2 ∧ x15.2 < (a0.Slots.length : Int) then (if (decide (((at_ a0.Slots x15.2).length : Int) > (92 : Int))) = true then (some (Sum.inr (-1 : Int))) else (if 0 ≤ x15.2 ∧ x15.2 < (a0.Slots.length : Int) then (some (Sum.inl ((IntKind.wrap .i64 (x15.1 + ((at_ a0.Slots x15.2).length : Int))), (IntKind.wrap .i64 (x15.2 + (1 : Int)))))) else none)) else none) else (((if (decide ((a0.Slots.length : Int) > (0 : Int))) = true then (if 0 ≤ (IntKind.wrap .i64 ((a0.Slots.length : Int) - (1 : Int))) ∧ (IntKind.wrap .i64 ((a0.Slots.length : Int) - (1 : Int))) < (a0.Slots.length : Int) then (some (((at_ a0.Slots (IntKind.wrap .i64 ((a0.Slots.length : Int) - (1 : Int)))).length : Int) == (0 : Int))) else none) else (some false)).bind fun y27 => (if y27 = true then (some (-1 : Int)) else (if (decide (x15.1 > (240 : Int))) = true then (some (-1 : Int)) else (some x15.1)))).bind fun o => some (Sum.inr o)))
def spec_PageUsed.f (a0 : Page) : Option (Int) :=
 ((spec_l5in.f a0.Lsn (0 : Int) (1000000 : Int)).bind fun r4 => (if ((!r4) || (decide ((a0.Slots.length : Int) > (16 : Int)))) = true then (some (-1 : Int)) else (iter (spec_PageUsed.b0 a0) ((IntKind.wrap .i64 ((1 : Int) + (a0.Slots.length : Int))), (0 : Int)))))
def spec_PageUsed.Q (w : World) (F : Nat → Prop) (r : Int) (v : Value) (w' : World) : Prop :=
 v = (iI r) ∧ Ky [] w w'
theorem spec_PageUsed.calls (a0 : Page) (w : World) (F : Nat → Prop) (w0_0 : Value) (h0_0 : (Kd.sl 25 Yo).rd w [w0_0] a0.Slots F) (r : Int) (m : spec_PageUsed.f a0 = some r) :
  Calls prog 43 #[(.agg #[(iI a0.Lsn), w0_0])] w (RT (spec_PageUsed.Q w F) r) := by
 obtain ⟨s0, rfl, kp0, z⟩ := Xk w F
 have A0_0 := z.rd h0_0
 refine Xd (args := [(.agg #[(iI a0.Lsn), w0_0])]) func43 ntmps43 rfl rfl m ?_
 unfold spec_PageUsed.f
 refine sr (bx' (cs := [(iI a0.Lsn), w0_0]) 40 rfl rfl (fun b2 s2 p2 B2 => ?_))
 refine Xc rfl (dn (sq (sr (Xt fa59_0 rfl (Yb B2 u3 rfl (Ym 41 rfl func45 rfl (spec_l5in.calls a0.Lsn (0 : Int) (1000000 : Int) s2.w (mm [] s2)) (fun r4 s5 p5 n5 => ?_)))))))
 refine Xc rfl (Xc rfl (jy [9, 10, 11, 12, 13, 14] [] 14 (.bool ((!r4) || (decide ((a0.Slots.length : Int) > (16 : Int))))) rfl (fun Kg6 => ?_) (fun j6 => ?_)))
 ·
  rcases Yn (!r4) with hb6 | hb6
  ·
   exact Xy hb6 (Xj rfl (Xj rfl (Xj rfl (Xj rfl (Xc rfl (Kg6 _ (Ag.put ((Ag.put ((Ag.put ((Ag.put ((Ag.put (Ag.base rfl) rfl)) rfl)) rfl)) rfl)) rfl) (by rw [hb6]; rfl)))))))
  refine Xy hb6 (Xt fa59_1 rfl ?_)
  exact Yb (B2.st p5 rfl) u57 rfl (Yl (A0_0.kp (kp0.st (Xq p2 p5) rfl)) u57 rfl (Xc rfl (Xc rfl (Kg6 _ (Ag.put ((Ag.put ((Ag.put ((Ag.put ((Ag.put (Ag.base rfl) rfl)) rfl)) rfl)) rfl)) rfl) (by rw [hb6]; rfl)))))
 refine dn (cd rfl (fun h10 => ?_) (fun h10 => ?_))
 ·
  refine sr (Xc rfl (dn ?_))
  exact re rfl func43 rfl (Xs rfl Xe) rfl ⟨_, rfl, rfl, z.ky (kp0.st (Xq p2 p5) rfl)⟩
 refine sk (sr (Xt fa59_1 rfl ?_))
 have A12 := B2.st p5 rfl
 refine Yb A12 u57 rfl ?_
 have K13 := kp0.st (Xq p2 p5) rfl
 refine Yl (A0_0.kp K13) u57 rfl (Xc rfl (Xc rfl (dn (sq (sr (Xc rfl (dn (bl (lpI (fun (x15 : Int × Int) e w => ∃ (s : St) (e0 : Env), w = s.w ∧ e = upd (upd (upd e0 1 (pB b2)) 3 (iI x15.1)) 4 (iI x15.2) ∧ Kp s0 s ∧ BlF s b2 59 [(iI a0.Lsn), w0_0] 40) ⟨s5, _, rfl, (ue (ue (ue rfl rfl) rfl) rfl), K13, A12⟩ (fun g15 ih15 => ?_))))))))))
 rintro x15 _ _ ⟨s16, _, rfl, rfl, Kx15, Bx15_b2⟩
 unfold spec_PageUsed.b0
 refine sq (sr (Xc rfl (Xt fa59_1 rfl (Yb Bx15_b2 u57 rfl ?_))))
 have A18 := A0_0.kp Kx15
 refine Yl A18 u57 rfl (Xc rfl (dn (cd rfl (fun h19 => ?_) (fun h19 => ?_))))
 ·
  refine sk (sq (bl (sq (sr (Xt fa59_1 rfl (Yb Bx15_b2 u57 rfl (Xc rfl (ix' A18 u57 z25 rfl (fun ad20 es20 h0_20 h1_20 he20 ce20 ia20 => ?_)))))))))
  obtain ⟨v20, rfl, he20'⟩ := he20
  have A20 : RdF Yo s16 [v20] (at_ a0.Slots x15.2) [0] := ⟨v20, rfl, he20'⟩
  refine lc0' ce20 u25 rfl (Yl A20 u25 rfl (Xc rfl (dn (cd rfl (fun h23 => ?_) (fun h23 => ?_)))))
  ·
   exact sr (Xc rfl (dn (sgi (re rfl func43 rfl (Xs rfl Xe) rfl ⟨_, rfl, rfl, z.ky Kx15⟩))))
  refine sk (rg (Xc rfl (Xt fa59_1 rfl (Yb Bx15_b2 u57 rfl (Xc rfl (ix' A18 u57 z25 rfl (fun ad24 es24 h0_24 h1_24 he24 ce24 ia24 => ?_)))))))
  obtain ⟨v24, rfl, he24'⟩ := he24
  have A24 : RdF Yo s16 [v24] (at_ a0.Slots x15.2) [0] := ⟨v24, rfl, he24'⟩
  exact lc0' ce24 u25 rfl (Yl A24 u25 rfl (Xc rfl (Xc rfl (dn (ib (rg (Xc rfl (Xc rfl (Xc rfl (dn (lb ih15 ⟨s16, _, rfl, (ue (ue (ue rfl rfl) rfl) rfl), Kx15, Bx15_b2⟩)))))))))))
 refine xt rfl (sgb (sq (sr (Xt fa59_1 rfl (Yb Bx15_b2 u57 rfl (Yl A18 u57 rfl (Xc rfl (Xc rfl (ji [] (fun (y27 : Bool) e w => ∃ (s : St) (e0 : Env), w = s.w ∧ e = upd (upd e0 3 (iI x15.1)) 56 (.bool y27) ∧ Kp s0 s) (fun Gj27 Kj27 => ?_) ?_)))))))))
 ·
  rcases Yn (decide ((a0.Slots.length : Int) > (0 : Int))) with hb27 | hb27
  ·
   refine Xy hb27 ?_
   rw [if_pos hb27]
   refine Xt fa59_1 rfl (Yb Bx15_b2 u57 rfl (Xt fa59_1 rfl (Yb Bx15_b2 u57 rfl (Yl A18 u57 rfl (Xc rfl (ix' A18 u57 z25 rfl (fun ad28 es28 h0_28 h1_28 he28 ce28 ia28 => ?_)))))))
   obtain ⟨v28, rfl, he28'⟩ := he28
   have A28 : RdF Yo s16 [v28] (at_ a0.Slots (IntKind.wrap .i64 ((a0.Slots.length : Int) - (1 : Int)))) [0] := ⟨v28, rfl, he28'⟩
   exact lc0' ce28 u25 rfl (Yl A28 u25 rfl (Xc rfl (Xc rfl (Kj27 _ _ _ ⟨s16, _, rfl, (ue (ue rfl rfl) rfl), Kx15⟩))))
  refine Xy hb27 ?_
  rw [if_neg (by rw [hb27]; decide)]
  exact Xj rfl (Xj rfl (Xj rfl (Xj rfl (Xj rfl (Xj rfl (Xj rfl (Xj rfl (Xj rfl (Xj rfl (Xc rfl (Kj27 _ _ _ ⟨s16, _, rfl, (ue (ue rfl rfl) rfl), Kx15⟩)))))))))))
 rintro y27 _ _ ⟨s31, _, rfl, rfl, Ky27⟩
 refine dn (cd rfl (fun h32 => ?_) (fun h32 => ?_))
 ·
  exact sr (Xc rfl (dn (re rfl func43 rfl (Xs rfl Xe) rfl ⟨_, rfl, rfl, z.ky Ky27⟩)))
 refine sk (sq (sr (Xc rfl (Xc rfl (dn (cd rfl (fun h33 => ?_) (fun h33 => ?_)))))))
 ·
  exact sr (Xc rfl (dn (re rfl func43 rfl (Xs rfl Xe) rfl ⟨_, rfl, rfl, z.ky Ky27⟩)))
 exact sk (sr (Xc rfl (Xc rfl (dn (re rfl func43 rfl (Xs rfl Xe) rfl ⟨_, rfl, rfl, z.ky Ky27⟩)))))
def spec_GetNum.b0 (a0 : (List Int)) (a1 : Int) (x7 : Int × Int) : Option ((Int × Int) ⊕ (Int × Bool)) :=
 (if (decide (x7.2 ≥ (0 : Int))) = true then (if 0 ≤ (IntKind.wrap .i64 (a1 + x7.2)) ∧ (IntKind.wrap .i64 (a1 + x7.2)) < (a0.length : Int) then (if ((x7.2 == (7 : Int)) && (decide ((IntKind.wrap .i64 (at_ a0 (IntKind.wrap .i64 (a1 + x7.2)))) > (127 : Int)))) = true then (some (Sum.inr ((0 : Int), false))) else (some (Sum.inl ((IntKind.wrap .i64 ((IntKind.wrap .i64 (x7.1 * (256 : Int))) + (IntKind.wrap .i64 (at_ a0 (IntKind.wrap .i64 (a1 + x7.2)))))), (IntKind.wrap .i64 (x7.2 - (1 : Int))))))) else none) else ((some (x7.1, true)).bind fun o => some (Sum.inr o)))
def spec_GetNum.f (a0 : (List Int)) (a1 : Int) (a2 : Int) : Option (Int × Bool) :=
 (if (((((decide (a2 < (1 : Int))) || (decide (a2 > (8 : Int)))) || (decide (a1 < (0 : Int)))) || (decide (a1 > (a0.length : Int)))) || (decide (a2 > (IntKind.wrap .i64 ((a0.length : Int) - a1))))) = true then (some ((0 : Int), false)) else (iter (spec_GetNum.b0 a0 a1) ((0 : Int), (IntKind.wrap .i64 (a2 - (1 : Int))))))
def spec_GetNum.Q (w : World) (F : Nat → Prop) (r : Int × Bool) (v : Value) (w' : World) : Prop :=
 v = .tuple #[(iI r.1), (.bool r.2)] ∧ Ky [] w w'
theorem spec_GetNum.calls (a0 : (List Int)) (a1 : Int) (a2 : Int) (w : World) (F : Nat → Prop) (w0_0 : Value) (h0_0 : Yo.rd w [w0_0] a0 F) (r : Int × Bool) (m : spec_GetNum.f a0 a1 a2 = some r) :
  Calls prog 47 #[w0_0, (iI a1), (iI a2)] w (RT (spec_GetNum.Q w F) r) := by
 obtain ⟨s0, rfl, kp0, z⟩ := Xk w F
 have A0_0 := z.rd h0_0
 refine Xd (args := [w0_0, (iI a1), (iI a2)]) func47 ntmps47 rfl rfl m ?_
 unfold spec_GetNum.f
 refine sr (Xc rfl (Xc rfl (dn (sq (sr (Xc rfl (Xc rfl (Xc rfl (jy [13, 14, 15, 16] [6, 7, 8, 9, 10, 11, 12, 13, 14, 15, 16, 17, 18, 19, 20, 21, 22, 23] 16 (.bool ((decide (a2 < (1 : Int))) || (decide (a2 > (8 : Int))))) rfl (fun Kg2 => ?_) (fun j2 => ?_))))))))))
 ·
  rcases Yn (decide (a2 < (1 : Int))) with hb2 | hb2
  ·
   exact Xy hb2 (Xj rfl (Xj rfl (Xc rfl (Kg2 _ (Ag.put ((Ag.put ((Ag.put (Ag.base rfl) rfl)) rfl)) rfl) (by rw [hb2]; rfl)))))
  exact Xy hb2 (Xc rfl (Xc rfl (Xc rfl (Kg2 _ (Ag.put ((Ag.put ((Ag.put (Ag.base rfl) rfl)) rfl)) rfl) (by rw [hb2]; rfl)))))
 refine Xc rfl (jy [17, 18, 19, 20] [10, 11, 12, 13, 14, 15, 16, 17, 18, 19, 20, 21, 22, 23] 20 (.bool (((decide (a2 < (1 : Int))) || (decide (a2 > (8 : Int)))) || (decide (a1 < (0 : Int))))) rfl (fun Kg3 => ?_) (fun j3 => ?_))
 ·
  rcases Yn ((decide (a2 < (1 : Int))) || (decide (a2 > (8 : Int)))) with hb3 | hb3
  ·
   exact Xy hb3 (Xj rfl (Xj rfl (Xc rfl (Kg3 _ (Ag.put ((Ag.put ((Ag.put (Ag.base rfl) rfl)) rfl)) rfl) (by rw [hb3]; rfl)))))
  exact Xy hb3 (Xc rfl (Xc rfl (Xc rfl (Kg3 _ (Ag.put ((Ag.put ((Ag.put (Ag.base rfl) rfl)) rfl)) rfl) (by rw [hb3]; rfl)))))
 refine Xc rfl (jy [21, 22, 23, 24, 25, 26] [16, 17, 18, 19, 20, 21, 22, 23] 26 (.bool ((((decide (a2 < (1 : Int))) || (decide (a2 > (8 : Int)))) || (decide (a1 < (0 : Int)))) || (decide (a1 > (a0.length : Int))))) rfl (fun Kg4 => ?_) (fun j4 => ?_))
 ·
  rcases Yn (((decide (a2 < (1 : Int))) || (decide (a2 > (8 : Int)))) || (decide (a1 < (0 : Int)))) with hb4 | hb4
  ·
   exact Xy hb4 (Xj rfl (Xj rfl (Xj rfl (Xj rfl (Xc rfl (Kg4 _ (Ag.put ((Ag.put ((Ag.put ((Ag.put ((Ag.put (Ag.base rfl) rfl)) rfl)) rfl)) rfl)) rfl) (by rw [hb4]; rfl)))))))
  exact Xy hb4 (Xc rfl (Xx w0_0 rfl (Yl A0_0 u25 rfl (Xc rfl (Xc rfl (Kg4 _ (Ag.put ((Ag.put ((Ag.put ((Ag.put ((Ag.put (Ag.base rfl) rfl)) rfl)) rfl)) rfl)) rfl) (by rw [hb4]; rfl)))))))
 refine Xc rfl (jy [27, 28, 29, 30, 31, 32, 33, 34] [] 34 (.bool (((((decide (a2 < (1 : Int))) || (decide (a2 > (8 : Int)))) || (decide (a1 < (0 : Int)))) || (decide (a1 > (a0.length : Int)))) || (decide (a2 > (IntKind.wrap .i64 ((a0.length : Int) - a1)))))) rfl (fun Kg5 => ?_) (fun j5 => ?_))
 ·
  rcases Yn ((((decide (a2 < (1 : Int))) || (decide (a2 > (8 : Int)))) || (decide (a1 < (0 : Int)))) || (decide (a1 > (a0.length : Int)))) with hb5 | hb5
  ·
   exact Xy hb5 (Xj rfl (Xj rfl (Xj rfl (Xj rfl (Xj rfl (Xj rfl (Xc rfl (Kg5 _ (Ag.put ((Ag.put ((Ag.put ((Ag.put ((Ag.put ((Ag.put ((Ag.put (Ag.base rfl) rfl)) rfl)) rfl)) rfl)) rfl)) rfl)) rfl) (by rw [hb5]; rfl)))))))))
  exact Xy hb5 (Xc rfl (Xx w0_0 rfl (Yl A0_0 u25 rfl (Xc rfl (Xc rfl (Xc rfl (Xc rfl (Kg5 _ (Ag.put ((Ag.put ((Ag.put ((Ag.put ((Ag.put ((Ag.put ((Ag.put (Ag.base rfl) rfl)) rfl)) rfl)) rfl)) rfl)) rfl)) rfl) (by rw [hb5]; rfl)))))))))
 refine dn (cd rfl (fun h6 => ?_) (fun h6 => ?_))
 ·
  exact sr (Xc rfl (Xc rfl (dn (re rfl func47 rfl (Xs rfl (Xs rfl Xe)) rfl ⟨_, rfl, rfl, z.ky kp0⟩))))
 refine sk (sr (Xc rfl (dn (sq (sr (Xc rfl (Xc rfl (Xc rfl (dn (bl (lpI (fun (x7 : Int × Int) e w => ∃ (s : St) (e0 : Env), w = s.w ∧ e = upd (upd (upd (upd e0 0 w0_0) 1 (iI a1)) 8 (iI x7.1)) 9 (iI x7.2) ∧ Kp s0 s) ⟨s0, _, rfl, (ue (ue (ue (ue rfl rfl) rfl) rfl) rfl), kp0⟩ (fun g7 ih7 => ?_))))))))))))
 rintro x7 _ _ ⟨s8, _, rfl, rfl, Kx7⟩
 unfold spec_GetNum.b0
 refine sq (sr (Xc rfl (Xc rfl (dn (cd rfl (fun h9 => ?_) (fun h9 => ?_))))))
 ·
  refine sk (sq (bl (sr (Xx w0_0 rfl (Xc rfl (Xc rfl (Xc rfl ?_)))))))
  refine ix' (A0_0.kp Kx7) u25 z5 rfl (fun ad11 es11 h0_11 h1_11 he11 ce11 ia11 => ?_)
  obtain rfl := he11
  refine lc0' ce11 u5 rfl (cv' u3 u5 rfl (Xc rfl (dn (sq (sr (Xc rfl (Xc rfl (Xc rfl (jy [50, 51, 52, 53] [] 53 (.bool ((x7.2 == (7 : Int)) && (decide ((IntKind.wrap .i64 (at_ a0 (IntKind.wrap .i64 (a1 + x7.2)))) > (127 : Int))))) rfl (fun Kg13 => ?_) (fun j13 => ?_))))))))))
  ·
   rcases Yn (x7.2 == (7 : Int)) with hb13 | hb13
   ·
    exact Xy hb13 (Xc rfl (Xc rfl (Xc rfl (Kg13 _ (Ag.put ((Ag.put ((Ag.put (Ag.base rfl) rfl)) rfl)) rfl) (by rw [hb13]; rfl)))))
   exact Xy hb13 (Xj rfl (Xj rfl (Xc rfl (Kg13 _ (Ag.put ((Ag.put ((Ag.put (Ag.base rfl) rfl)) rfl)) rfl) (by rw [hb13]; rfl)))))
  refine dn (cd rfl (fun h14 => ?_) (fun h14 => ?_))
  ·
   exact sr (Xc rfl (Xc rfl (dn (sgi (re rfl func47 rfl (Xs rfl (Xs rfl Xe)) rfl ⟨_, rfl, rfl, z.ky Kx7⟩)))))
  exact sk (rg (Xc rfl (Xc rfl (Xc rfl (Xc rfl (Xc rfl (dn (ib (rg (Xc rfl (Xc rfl (Xc rfl (dn (lb ih7 ⟨s8, _, rfl, (ue (ue (ue (ue rfl rfl) rfl) rfl) rfl), Kx7⟩))))))))))))))
 exact xt rfl (sgb (sr (Xc rfl (Xc rfl (Xc rfl (dn (re rfl func47 rfl (Xs rfl (Xs rfl Xe)) rfl ⟨_, rfl, rfl, z.ky Kx7⟩)))))))
def spec_l3low.b0 (a0 : (List Int)) (x2 : Int × Int) : Option ((Int × Int) ⊕ Int) :=
 (if (decide (x2.2 < (a0.length : Int))) = true then (if 0 ≤ x2.2 ∧ x2.2 < (a0.length : Int) then (some (Sum.inl ((ior .u64 (ishl .u64 x2.1 (8 : Int)) (IntKind.wrap .u64 (at_ a0 x2.2))), (IntKind.wrap .i64 (x2.2 + (1 : Int)))))) else none) else ((some x2.1).bind fun o => some (Sum.inr o)))
def spec_l3low.f (a0 : (List Int)) : Option (Int) :=
 (iter (spec_l3low.b0 a0) ((0 : Int), (0 : Int)))
def spec_l3low.Q (w : World) (F : Nat → Prop) (r : Int) (v : Value) (w' : World) : Prop :=
 v = (.int .u64 r) ∧ Ky [] w w'
theorem spec_l3low.calls (a0 : (List Int)) (w : World) (F : Nat → Prop) (w0_0 : Value) (h0_0 : Yo.rd w [w0_0] a0 F) (r : Int) (m : spec_l3low.f a0 = some r) :
  Calls prog 99 #[w0_0] w (RT (spec_l3low.Q w F) r) := by
 obtain ⟨s0, rfl, kp0, z⟩ := Xk w F
 refine Xd (args := [w0_0]) func99 ntmps99 rfl rfl m ?_
 unfold spec_l3low.f
 refine sr (Xc rfl (dn (sr (Xc rfl (dn (sq (sr (Xc rfl (dn (bl (lpI (fun (x2 : Int × Int) e w => ∃ (s : St) (e0 : Env), w = s.w ∧ e = upd (upd (upd e0 0 w0_0) 3 (.int .u64 x2.1)) 4 (iI x2.2) ∧ Kp s0 s) ⟨s0, _, rfl, (ue (ue (ue rfl rfl) rfl) rfl), kp0⟩ (fun g2 ih2 => ?_))))))))))))
 rintro x2 _ _ ⟨s3, _, rfl, rfl, Kx2⟩
 unfold spec_l3low.b0
 refine sq (sr (Xc rfl (Xx w0_0 rfl ?_)))
 have A4 := (z.rd h0_0).kp Kx2
 refine Yl A4 u25 rfl (Xc rfl (dn (cd rfl (fun h5 => ?_) (fun h5 => ?_))))
 ·
  refine sk (sq (bl (rg (Xc rfl (shlK rfl rfl rfl rfl rfl rfl rfl rfl (Xx w0_0 rfl (Xc rfl (ix' A4 u25 z5 rfl (fun ad6 es6 h0_6 h1_6 he6 ce6 ia6 => ?_)))))))))
  obtain rfl := he6
  exact lc0' ce6 u5 rfl (cv' u111 u5 rfl (Xc rfl (Xc rfl (dn (ib (rg (Xc rfl (Xc rfl (Xc rfl (dn (lb ih2 ⟨s3, _, rfl, (ue (ue (ue rfl rfl) rfl) rfl), Kx2⟩)))))))))))
 exact xt rfl (sgb (sr (Xc rfl (Xc rfl (dn (re rfl func99 rfl (Xs rfl Xe) rfl ⟨_, rfl, rfl, z.ky Kx2⟩))))))
def spec_FloatOf.b1  (x21 : Nat × Int) : Option ((Nat × Int) ⊕ (Nat ⊕ Nat)) :=
 (if (decide (x21.2 < (0 : Int))) = true then (some (Sum.inl ((far .quo x21.1 (4611686018427387904 : Nat)), (IntKind.wrap .i64 (x21.2 + (1 : Int)))))) else ((some (Sum.inl x21.1)).bind fun o => some (Sum.inr o)))
def spec_FloatOf.b0  (x16 : Nat × Int) : Option ((Nat × Int) ⊕ (Nat ⊕ Nat)) :=
 (if (decide (x16.2 > (0 : Int))) = true then (some (Sum.inl ((far .mul x16.1 (4611686018427387904 : Nat)), (IntKind.wrap .i64 (x16.2 - (1 : Int)))))) else ((iter spec_FloatOf.b1 (x16.1, x16.2)).bind fun o => some (Sum.inr o)))
def spec_FloatOf.f (a0 : Int) : Option (Nat) :=
 ((if ((IntKind.wrap .i64 (iand .u64 (ishr .u64 a0 (52 : Int)) (2047 : Int))) == (2047 : Int)) = true then (if ((iand .u64 a0 (4503599627370495 : Int)) != (0 : Int)) = true then (some (Sum.inr (far .quo (0 : Nat) (0 : Nat)))) else (some (Sum.inl (far .quo (4607182418800017408 : Nat) (0 : Nat))))) else ((if ((IntKind.wrap .i64 (iand .u64 (ishr .u64 a0 (52 : Int)) (2047 : Int))) == (0 : Int)) = true then (some ((far .quo (FloatKind.f64.nearest (iand .u64 a0 (4503599627370495 : Int))) (4841369599423283200 : Nat)), (-1022 : Int))) else (some ((far .add (far .quo (FloatKind.f64.nearest (iand .u64 a0 (4503599627370495 : Int))) (4841369599423283200 : Nat)) (4607182418800017408 : Nat)), (IntKind.wrap .i64 ((IntKind.wrap .i64 (iand .u64 (ishr .u64 a0 (52 : Int)) (2047 : Int))) - (1023 : Int)))))).bind fun y10 => (iter spec_FloatOf.b0 (y10.1, y10.2)))).bind (sel fun y3 => (if ((ishr .u64 a0 (63 : Int)) == (1 : Int)) = true then (some (fneg y3)) else (some y3))))
def spec_FloatOf.Q (w : World) (F : Nat → Prop) (r : Nat) (v : Value) (w' : World) : Prop :=
 FL v r ∧ Ky [] w w'
theorem spec_FloatOf.calls (a0 : Int) (w : World) (F : Nat → Prop)   (r : Nat) (m : spec_FloatOf.f a0 = some r) :
  Calls prog 101 #[(.int .u64 a0)] w (RT (spec_FloatOf.Q w F) r) := by
 obtain ⟨s0, rfl, kp0, z⟩ := Xk w F
 refine Xd (args := [(.int .u64 a0)]) func101 ntmps101 rfl rfl m ?_
 unfold spec_FloatOf.f
 refine sr (Yd (.float .f64 0) rfl (dn (sr (Xc rfl (shrK rfl rfl rfl rfl rfl rfl rfl rfl (Xc rfl (cv' u3 u111 rfl (Xc rfl (dn (sr (Xc rfl (Xc rfl (Xc rfl (dn ?_))))))))))))))
 refine sr (Yd (.float .f64 0) rfl (dn (sr (Xc rfl (i2f u75 u111 rfl rfl rfl rfl rfl rfl (fun v1 A1 => ?_))))))
 refine fa_ A1 (Yh rfl) (by simp) rfl rfl rfl rfl rfl rfl rfl (fun v2 s2 p2 A2 => ?_)
 refine Yd v2 rfl (dn (sq (sr (Xc rfl (Xc rfl (dn (jr (fun (y3 : Nat) e w => ∃ (s : St) (e0 : Env) (uy3_0 : Value), w = s.w ∧ e = upd (upd e0 0 (.int .u64 a0)) 6 uy3_0 ∧ Kp s0 s ∧ FL uy3_0 y3) (fun Gj3 Kj3 hG3 => ?_) ?_)))))))
 ·
  refine cd rfl (fun h4 => ?_) (fun h4 => ?_)
  ·
   refine sq (sr (Xc rfl (Xc rfl (dn (cd rfl (fun h5 => ?_) (fun h5 => ?_))))))
   ·
    refine sr (Xx (.float .f64 0) rfl (Xx (.float .f64 0) rfl (fa_ (Yh rfl) (Yh rfl) (by simp) rfl rfl rfl rfl rfl rfl rfl (fun v6 s6 p6 A6 => ?_))))
    refine Yd v6 rfl (dn (jri hG3 ?_))
    exact re rfl func101 rfl (Xs rfl Xe) rfl ⟨_, rfl, A6, z.ky (kp0.st (Xq p2 p6) rfl)⟩
   refine sk (rg (Xx (.float .f64 0) rfl (fa_ (Yh rfl) (Yh rfl) (by simp) rfl rfl rfl rfl rfl rfl rfl (fun v8 s8 p8 A8 => ?_))))
   refine Yd v8 rfl (dn ?_)
   exact Kj3 _ _ _ ⟨s8, _, v8, rfl, (ue (ue rfl rfl) rfl), (kp0.st (Xq p2 p8) rfl), A8⟩
  refine sr (Xc rfl (Xc rfl (Xc rfl (dn (sq (sr (Xc rfl (Xc rfl (dn (jc (fun (y10 : Nat × Int) e w => ∃ (s : St) (e0 : Env) (uy10_0 : Value), w = s.w ∧ e = upd (upd (upd e0 0 (.int .u64 a0)) 6 uy10_0) 7 (iI y10.2) ∧ Kp s0 s ∧ FL uy10_0 y10.1) (fun Gj10 Kj10 => ?_) ?_))))))))))
  ·
   refine cd rfl (fun h11 => ?_) (fun h11 => ?_)
   ·
    refine rg (Xc rfl (dn ?_))
    exact Kj10 _ _ _ ⟨s2, _, v2, rfl, (ue (ue (ue rfl rfl) rfl) rfl), (kp0.st p2 rfl), A2⟩
   refine rg (Xx v2 rfl (fa_ A2 (Yh rfl) (by simp) rfl rfl rfl rfl rfl rfl rfl (fun v13 s13 p13 A13 => ?_)))
   refine Yd v13 rfl (dn ?_)
   exact Kj10 _ _ _ ⟨s13, _, v13, rfl, (ue (ue (ue rfl rfl) rfl) rfl), (kp0.st (Xq p2 p13) rfl), A13⟩
  rintro y10 _ _ ⟨s15, _, uy10_0, rfl, rfl, Ky10, Fy10_0⟩
  refine sq (bl (lpI (fun (x16 : Nat × Int) e w => ∃ (s : St) (e0 : Env) (ux16_0 : Value), w = s.w ∧ e = upd (upd (upd e0 0 (.int .u64 a0)) 6 ux16_0) 7 (iI x16.2) ∧ Kp s0 s ∧ FL ux16_0 x16.1) ⟨s15, _, uy10_0, rfl, (ue (ue (ue rfl rfl) rfl) rfl), Ky10, Fy10_0⟩ (fun g16 ih16 => ?_)))
  rintro x16 _ _ ⟨s17, _, ux16_0, rfl, rfl, Kx16, Fx16_0⟩
  unfold spec_FloatOf.b0
  refine sq (sr (Xc rfl (Xc rfl (dn (cd rfl (fun h18 => ?_) (fun h18 => ?_))))))
  ·
   refine sk (sq (bl (rg (Xx ux16_0 rfl (fa_ Fx16_0 (Yh rfl) (by simp) rfl rfl rfl rfl rfl rfl rfl (fun v19 s19 p19 A19 => ?_))))))
   refine Yd v19 rfl (dn (ib (rg (Xc rfl (Xc rfl (Xc rfl (dn ?_)))))))
   exact lb ih16 ⟨s19, _, v19, rfl, (ue (ue (ue rfl rfl) rfl) rfl), (Kx16.st p19 rfl), A19⟩
  refine xt rfl (sgb (bl (lpI (fun (x21 : Nat × Int) e w => ∃ (s : St) (e0 : Env) (ux21_0 : Value), w = s.w ∧ e = upd (upd (upd e0 0 (.int .u64 a0)) 6 ux21_0) 7 (iI x21.2) ∧ Kp s0 s ∧ FL ux21_0 x21.1) ⟨s17, _, ux16_0, rfl, (ue (ue (ue rfl rfl) rfl) rfl), Kx16, Fx16_0⟩ (fun g21 ih21 => ?_))))
  rintro x21 _ _ ⟨s22, _, ux21_0, rfl, rfl, Kx21, Fx21_0⟩
  unfold spec_FloatOf.b1
  refine sq (sr (Xc rfl (Xc rfl (dn (cd rfl (fun h23 => ?_) (fun h23 => ?_))))))
  ·
   refine sk (sq (bl (rg (Xx ux21_0 rfl (fa_ Fx21_0 (Yh rfl) (by simp) rfl rfl rfl rfl rfl rfl rfl (fun v24 s24 p24 A24 => ?_))))))
   refine Yd v24 rfl (dn (ib (rg (Xc rfl (Xc rfl (Xc rfl (dn ?_)))))))
   exact lb ih21 ⟨s24, _, v24, rfl, (ue (ue (ue rfl rfl) rfl) rfl), (Kx21.st p24 rfl), A24⟩
  exact xt rfl (sgb (Kj3 _ _ _ ⟨s22, _, ux21_0, rfl, (ue (ue rfl rfl) rfl), Kx21, Fx21_0⟩))
 rintro y3 _ _ ⟨s26, _, uy3_0, rfl, rfl, Ky3, Fy3_0⟩
 refine sq (sr (Xc rfl (shrK rfl rfl rfl rfl rfl rfl rfl rfl (Xc rfl (dn (cd rfl (fun h27 => ?_) (fun h27 => ?_)))))))
 ·
  refine sr (Xx uy3_0 rfl (fng_ Fy3_0 rfl rfl rfl rfl rfl rfl (fun v28 A28 => ?_)))
  exact Yd v28 rfl (dn (re rfl func101 rfl (Xs rfl Xe) rfl ⟨_, rfl, A28, z.ky Ky3⟩))
 exact sk (sr (Xx uy3_0 rfl (Yd uy3_0 rfl (dn (re rfl func101 rfl (Xs rfl Xe) rfl ⟨_, rfl, Fy3_0, z.ky Ky3⟩)))))
def spec_FloatBits.b1 (y8 : Int × Nat) (x19 : Nat × Int) : Option ((Nat × Int) ⊕ Int) :=
 (if ((fcmp .f64 x19.1 (4607182418800017408 : Nat) == some .lt) && (decide (x19.2 > (-1022 : Int)))) = true then (some (Sum.inl ((far .mul x19.1 (4611686018427387904 : Nat)), (IntKind.wrap .i64 (x19.2 - (1 : Int)))))) else ((if (fcmp .f64 x19.1 (4607182418800017408 : Nat) == some .lt) = true then ((floatToIntVal .f64 (far .mul x19.1 (4841369599423283200 : Nat)) .u64).bind fun r27 => (some (ior .u64 y8.1 r27))) else ((floatToIntVal .f64 (far .mul (far .sub x19.1 (4607182418800017408 : Nat)) (4841369599423283200 : Nat)) .u64).bind fun r31 => (some (ior .u64 (ior .u64 y8.1 (ishl .u64 (IntKind.wrap .u64 (IntKind.wrap .i64 (x19.2 + (1023 : Int)))) (52 : Int))) r31)))).bind fun o => some (Sum.inr o)))
def spec_FloatBits.b0 (y8 : Int × Nat) (x14 : Nat × Int) : Option ((Nat × Int) ⊕ Int) :=
 (if (fcmp .f64 x14.1 (4611686018427387904 : Nat) == some .gt || fcmp .f64 x14.1 (4611686018427387904 : Nat) == some .eq) = true then (some (Sum.inl ((far .quo x14.1 (4611686018427387904 : Nat)), (IntKind.wrap .i64 (x14.2 + (1 : Int)))))) else ((iter (spec_FloatBits.b1 y8) (x14.1, x14.2)).bind fun o => some (Sum.inr o)))
def spec_FloatBits.f (a0 : Nat) : Option (Int) :=
 (if (fcmp .f64 a0 a0 != some .eq) = true then (some (9221120237041090560 : Int)) else ((if (fcmp .f64 a0 (0 : Nat) == some .lt) = true then (some true) else ((if (fcmp .f64 a0 (0 : Nat) == some .eq) = true then (some (fcmp .f64 (far .quo (4607182418800017408 : Nat) a0) (0 : Nat) == some .lt)) else (some false)).bind fun y3 => (some y3))).bind fun y2 => ((if y2 = true then (some ((9223372036854775808 : Int), (fneg a0))) else (some ((0 : Int), a0))).bind fun y8 => (if (fcmp .f64 y8.2 (0 : Nat) == some .eq) = true then (some y8.1) else (if (fcmp .f64 y8.2 (9218868437227405311 : Nat) == some .gt) = true then (some (ior .u64 y8.1 (9218868437227405312 : Int))) else (iter (spec_FloatBits.b0 y8) (y8.2, (0 : Int))))))))
def spec_FloatBits.Q (w : World) (F : Nat → Prop) (r : Int) (v : Value) (w' : World) : Prop :=
 v = (.int .u64 r) ∧ Ky [] w w'
theorem spec_FloatBits.calls (a0 : Nat) (w : World) (F : Nat → Prop) (w0_0 : Value) (h0_0 : Kd.flt.rd w [w0_0] a0 F) (r : Int) (m : spec_FloatBits.f a0 = some r) :
  Calls prog 106 #[w0_0] w (RT (spec_FloatBits.Q w F) r) := by
 obtain ⟨s0, rfl, kp0, z⟩ := Xk w F
 have A0_0 := fl_of h0_0
 refine Xd (args := [w0_0]) func106 ntmps106 rfl rfl m ?_
 unfold spec_FloatBits.f
 refine sr (Xc rfl (dn (sq (sr (Xx w0_0 rfl (Xx w0_0 rfl (fq_ A0_0 A0_0 rfl rfl rfl rfl rfl rfl rfl rfl (dn (cd rfl (fun h1 => ?_) (fun h1 => ?_))))))))))
 ·
  exact sr (Xc rfl (dn (re rfl func106 rfl (Xs rfl Xe) rfl ⟨_, rfl, rfl, z.ky kp0⟩)))
 refine sk (sr (Xc rfl (dn (sr (Xx w0_0 rfl (Yd w0_0 rfl (dn (sq (sr (Xx w0_0 rfl (fq_ A0_0 (Yh rfl) rfl rfl rfl rfl rfl rfl rfl rfl (Xc rfl (ji [] (fun (y2 : Bool) e w => ∃ (s : St) (e0 : Env), w = s.w ∧ e = upd (upd (upd (upd e0 0 w0_0) 3 (.int .u64 (0 : Int))) 4 w0_0) 20 (.bool y2) ∧ Kp s0 s) (fun Gj2 Kj2 => ?_) ?_)))))))))))))
 ·
  rcases Yn (fcmp .f64 a0 (0 : Nat) == some .lt) with hb2 | hb2
  ·
   refine Xy hb2 ?_
   rw [if_pos hb2]
   exact Xj rfl (Xj rfl (Xj rfl (Xj rfl (Xj rfl (Xj rfl (Xj rfl (Xc rfl (Kj2 _ _ _ ⟨s0, _, rfl, (ue (ue (ue (ue rfl rfl) rfl) rfl) rfl), kp0⟩))))))))
  refine Xy hb2 ?_
  rw [if_neg (by rw [hb2]; decide)]
  refine Xx w0_0 rfl (fq_ A0_0 (Yh rfl) rfl rfl rfl rfl rfl rfl rfl rfl (Xc rfl (ji [10] (fun (y3 : Bool) e w => ∃ (s : St) (e0 : Env), w = s.w ∧ e = upd (upd (upd (upd (upd e0 0 w0_0) 3 (.int .u64 (0 : Int))) 4 w0_0) 12 (.bool false)) 19 (.bool y3) ∧ Kp s0 s) (fun Gj3 Kj3 => ?_) ?_)))
  ·
   rcases Yn (fcmp .f64 a0 (0 : Nat) == some .eq) with hb3 | hb3
   ·
    refine Xy hb3 ?_
    rw [if_pos hb3]
    refine Xx w0_0 rfl (fa_ (Yh rfl) A0_0 (by simp) rfl rfl rfl rfl rfl rfl rfl (fun v4 s4 p4 A4 => ?_))
    refine fq_ A4 (Yh rfl) rfl rfl rfl rfl rfl rfl rfl rfl (Xc rfl ?_)
    exact Kj3 _ _ _ ⟨s4, _, rfl, (ue (ue (ue (ue (ue rfl rfl) rfl) rfl) rfl) rfl), (kp0.st p4 rfl)⟩
   refine Xy hb3 ?_
   rw [if_neg (by rw [hb3]; decide)]
   exact Xj rfl (Xj rfl (Xj rfl (Xc rfl (Kj3 _ _ _ ⟨s0, _, rfl, (ue (ue (ue (ue (ue rfl rfl) rfl) rfl) rfl) rfl), kp0⟩))))
  rintro y3 _ _ ⟨s6, _, rfl, rfl, Ky3⟩
  exact Xc rfl (Kj2 _ _ _ ⟨s6, _, rfl, (ue (ue (ue (ue rfl rfl) rfl) rfl) rfl), Ky3⟩)
 rintro y2 _ _ ⟨s7, _, rfl, rfl, Ky2⟩
 refine dn (jc (fun (y8 : Int × Nat) e w => ∃ (s : St) (e0 : Env) (uy8_0 : Value), w = s.w ∧ e = upd (upd e0 3 (.int .u64 y8.1)) 4 uy8_0 ∧ Kp s0 s ∧ FL uy8_0 y8.2) (fun Gj8 Kj8 => ?_) ?_)
 ·
  refine cd rfl (fun h9 => ?_) (fun h9 => ?_)
  ·
   refine sr (Xc rfl (dn (rg (Xx w0_0 rfl (fng_ A0_0 rfl rfl rfl rfl rfl rfl (fun v10 A10 => ?_))))))
   exact Yd v10 rfl (dn (Kj8 _ _ _ ⟨s7, _, v10, rfl, (ue (ue rfl rfl) rfl), Ky2, A10⟩))
  exact sk (Kj8 _ _ _ ⟨s7, _, w0_0, rfl, (ue (ue rfl rfl) rfl), Ky2, A0_0⟩)
 rintro y8 _ _ ⟨s11, _, uy8_0, rfl, rfl, Ky8, Fy8_0⟩
 refine sq (sr (Xx uy8_0 rfl (fq_ Fy8_0 (Yh rfl) rfl rfl rfl rfl rfl rfl rfl rfl (dn (cd rfl (fun h12 => ?_) (fun h12 => ?_))))))
 ·
  exact sr (Xc rfl (Xc rfl (dn (re rfl func106 rfl (Xs rfl Xe) rfl ⟨_, rfl, rfl, z.ky Ky8⟩))))
 refine sk (sq (sr (Xx uy8_0 rfl (fq_ Fy8_0 (Yh rfl) rfl rfl rfl rfl rfl rfl rfl rfl (dn (cd rfl (fun h13 => ?_) (fun h13 => ?_)))))))
 ·
  exact sr (Xc rfl (Xc rfl (Xc rfl (dn (re rfl func106 rfl (Xs rfl Xe) rfl ⟨_, rfl, rfl, z.ky Ky8⟩)))))
 refine sk (sr (Xc rfl (dn (sq (bl (lpI (fun (x14 : Nat × Int) e w => ∃ (s : St) (e0 : Env) (ux14_0 : Value), w = s.w ∧ e = upd (upd (upd e0 3 (.int .u64 y8.1)) 4 ux14_0) 5 (iI x14.2) ∧ Kp s0 s ∧ FL ux14_0 x14.1) ⟨s11, _, uy8_0, rfl, (ue (ue (ue rfl rfl) rfl) rfl), Ky8, Fy8_0⟩ (fun g14 ih14 => ?_)))))))
 rintro x14 _ _ ⟨s15, _, ux14_0, rfl, rfl, Kx14, Fx14_0⟩
 unfold spec_FloatBits.b0
 refine sq (sr (Xx ux14_0 rfl (fq_ Fx14_0 (Yh rfl) rfl rfl rfl rfl rfl rfl rfl rfl (dn (cd rfl (fun h16 => ?_) (fun h16 => ?_))))))
 ·
  refine sk (bl (sr (Xx ux14_0 rfl (fa_ Fx14_0 (Yh rfl) (by simp) rfl rfl rfl rfl rfl rfl rfl (fun v17 s17 p17 A17 => ?_)))))
  refine Yd v17 rfl (dn (rg (Xc rfl (Xc rfl (Xc rfl (dn (ib ?_)))))))
  exact lb ih14 ⟨s17, _, v17, rfl, (ue (ue (ue rfl rfl) rfl) rfl), (Kx14.st p17 rfl), A17⟩
 refine xt rfl (sgb (sq (bl (lpI (fun (x19 : Nat × Int) e w => ∃ (s : St) (e0 : Env) (ux19_0 : Value), w = s.w ∧ e = upd (upd (upd e0 3 (.int .u64 y8.1)) 4 ux19_0) 5 (iI x19.2) ∧ Kp s0 s ∧ FL ux19_0 x19.1) ⟨s15, _, ux14_0, rfl, (ue (ue (ue rfl rfl) rfl) rfl), Kx14, Fx14_0⟩ (fun g19 ih19 => ?_)))))
 rintro x19 _ _ ⟨s20, _, ux19_0, rfl, rfl, Kx19, Fx19_0⟩
 unfold spec_FloatBits.b1
 refine sq (sr (Xx ux19_0 rfl (fq_ Fx19_0 (Yh rfl) rfl rfl rfl rfl rfl rfl rfl rfl (Xc rfl (jy [38, 39, 40, 41] [] 41 (.bool ((fcmp .f64 x19.1 (4607182418800017408 : Nat) == some .lt) && (decide (x19.2 > (-1022 : Int))))) rfl (fun Kg21 => ?_) (fun j21 => ?_))))))
 ·
  rcases Yn (fcmp .f64 x19.1 (4607182418800017408 : Nat) == some .lt) with hb21 | hb21
  ·
   exact Xy hb21 (Xc rfl (Xc rfl (Xc rfl (Kg21 _ (Ag.put ((Ag.put ((Ag.put (Ag.base rfl) rfl)) rfl)) rfl) (by rw [hb21]; rfl)))))
  exact Xy hb21 (Xj rfl (Xj rfl (Xc rfl (Kg21 _ (Ag.put ((Ag.put ((Ag.put (Ag.base rfl) rfl)) rfl)) rfl) (by rw [hb21]; rfl)))))
 refine dn (cd rfl (fun h22 => ?_) (fun h22 => ?_))
 ·
  refine sk (bl (sr (Xx ux19_0 rfl (fa_ Fx19_0 (Yh rfl) (by simp) rfl rfl rfl rfl rfl rfl rfl (fun v23 s23 p23 A23 => ?_)))))
  refine Yd v23 rfl (dn (rg (Xc rfl (Xc rfl (Xc rfl (dn (ib ?_)))))))
  exact lb ih19 ⟨s23, _, v23, rfl, (ue (ue (ue rfl rfl) rfl) rfl), (Kx19.st p23 rfl), A23⟩
 refine xt rfl (sgb (sq (sr (Xx ux19_0 rfl (fq_ Fx19_0 (Yh rfl) rfl rfl rfl rfl rfl rfl rfl rfl (dn (cd rfl (fun h25 => ?_) (fun h25 => ?_))))))))
 ·
  refine sr (Xc rfl (Xx ux19_0 rfl (fa_ Fx19_0 (Yh rfl) (by simp) rfl rfl rfl rfl rfl rfl rfl (fun v26 s26 p26 A26 => ?_))))
  refine f2i A26 u111 u75 rfl rfl rfl rfl rfl rfl (fun r27 m27 => ?_)
  refine Xc rfl (Xc rfl (dn ?_))
  exact re rfl func106 rfl (Xs rfl Xe) rfl ⟨_, rfl, rfl, z.ky (Kx19.st p26 rfl)⟩
 refine sk (sr (Xc rfl (Xc rfl (Xc rfl (cv' u111 u3 rfl (shlK rfl rfl rfl rfl rfl rfl rfl rfl (Xc rfl (Xx ux19_0 rfl (fa_ Fx19_0 (Yh rfl) (by simp) rfl rfl rfl rfl rfl rfl rfl (fun v29 s29 p29 A29 => ?_))))))))))
 refine fa_ A29 (Yh rfl) (by simp) rfl rfl rfl rfl rfl rfl rfl (fun v30 s30 p30 A30 => ?_)
 refine f2i A30 u111 u75 rfl rfl rfl rfl rfl rfl (fun r31 m31 => ?_)
 refine Xc rfl (Xc rfl (dn ?_))
 exact re rfl func106 rfl (Xs rfl Xe) rfl ⟨_, rfl, rfl, z.ky (Kx19.st (Xq p29 p30) rfl)⟩
def spec_FloatRank.f (a0 : Nat) : Option (Int) :=
 ((spec_FloatBits.f a0).bind fun r1 => (if (r1 == (9221120237041090560 : Int)) = true then (some (18446744073709551615 : Int)) else (if (fcmp .f64 a0 (0 : Nat) == some .eq) = true then (some (9223372036854775808 : Int)) else (if ((ishr .u64 r1 (63 : Int)) == (1 : Int)) = true then (some (ixor .u64 (IntKind.max .u64) r1)) else (some (ior .u64 r1 (9223372036854775808 : Int)))))))
def spec_FloatRank.Q (w : World) (F : Nat → Prop) (r : Int) (v : Value) (w' : World) : Prop :=
 v = (.int .u64 r) ∧ Ky [] w w'
theorem spec_FloatRank.calls (a0 : Nat) (w : World) (F : Nat → Prop) (w0_0 : Value) (h0_0 : Kd.flt.rd w [w0_0] a0 F) (r : Int) (m : spec_FloatRank.f a0 = some r) :
  Calls prog 105 #[w0_0] w (RT (spec_FloatRank.Q w F) r) := by
 obtain ⟨s0, rfl, kp0, z⟩ := Xk w F
 have A0_0 := fl_of h0_0
 refine Xd (args := [w0_0]) func105 ntmps105 rfl rfl m ?_
 unfold spec_FloatRank.f
 refine sr (Xc rfl (dn (sr (Xx w0_0 rfl (Ym 40 rfl func106 rfl (spec_FloatBits.calls a0 s0.w (mm [] s0) w0_0 (Ye (s := s0) A0_0)) (fun r1 s2 p2 n2 => ?_))))))
 refine Xc rfl (dn (sq (sr (Xc rfl (Xc rfl (dn (cd rfl (fun h3 => ?_) (fun h3 => ?_))))))))
 ·
  refine sr (Xc rfl (dn ?_))
  exact re rfl func105 rfl (Xs rfl Xe) rfl ⟨_, rfl, rfl, z.ky (kp0.st p2 rfl)⟩
 refine sk (sq (sr (Xx w0_0 rfl (fq_ A0_0 (Yh rfl) rfl rfl rfl rfl rfl rfl rfl rfl (dn (cd rfl (fun h5 => ?_) (fun h5 => ?_)))))))
 ·
  refine sr (Xc rfl (dn ?_))
  exact re rfl func105 rfl (Xs rfl Xe) rfl ⟨_, rfl, rfl, z.ky (kp0.st p2 rfl)⟩
 refine sk (sq (sr (Xc rfl (shrK rfl rfl rfl rfl rfl rfl rfl rfl (Xc rfl (dn (cd rfl (fun h7 => ?_) (fun h7 => ?_))))))))
 ·
  refine sr (Xc rfl (Xc rfl (Xc rfl (dn ?_))))
  exact re rfl func105 rfl (Xs rfl Xe) rfl ⟨_, rfl, rfl, z.ky (kp0.st p2 rfl)⟩
 refine sk (sr (Xc rfl (Xc rfl (Xc rfl (dn ?_)))))
 exact re rfl func105 rfl (Xs rfl Xe) rfl ⟨_, rfl, rfl, z.ky (kp0.st p2 rfl)⟩
def spec_FloatUnrank.f (a0 : Int) : Option (Nat × Bool) :=
 ((if (a0 == (18446744073709551615 : Int)) = true then (some (9221120237041090560 : Int)) else ((if ((ishr .u64 a0 (63 : Int)) == (1 : Int)) = true then (some (iand .u64 a0 (9223372036854775807 : Int))) else (some (ixor .u64 (IntKind.max .u64) a0))).bind fun y3 => (some y3))).bind fun y1 => ((spec_FloatOf.f y1).bind fun r7 => ((spec_FloatRank.f r7).bind fun r9 => (if (r9 != a0) = true then (some ((0 : Nat), false)) else (some (r7, true))))))
def spec_FloatUnrank.Q (w : World) (F : Nat → Prop) (r : Nat × Bool) (v : Value) (w' : World) : Prop :=
 ∃ (v0 : Value), v = .tuple #[v0, (.bool r.2)] ∧ FL v0 r.1 ∧ Ky [] w w'
theorem spec_FloatUnrank.calls (a0 : Int) (w : World) (F : Nat → Prop)   (r : Nat × Bool) (m : spec_FloatUnrank.f a0 = some r) :
  Calls prog 100 #[(.int .u64 a0)] w (RT (spec_FloatUnrank.Q w F) r) := by
 obtain ⟨s0, rfl, kp0, z⟩ := Xk w F
 refine Xd (args := [(.int .u64 a0)]) func100 ntmps100 rfl rfl m ?_
 unfold spec_FloatUnrank.f
 refine sr (Yd (.float .f64 0) rfl (Xc rfl (dn (sr (Xc rfl (dn (sq (sr (Xc rfl (Xc rfl (dn (jc (fun (y1 : Int) e w => ∃ (s : St) (e0 : Env), w = s.w ∧ e = upd (upd e0 0 (.int .u64 a0)) 4 (.int .u64 y1) ∧ Kp s0 s) (fun Gj1 Kj1 => ?_) ?_))))))))))))
 ·
  refine cd rfl (fun h2 => ?_) (fun h2 => ?_)
  ·
   exact rg (Xc rfl (dn (Kj1 _ _ _ ⟨s0, _, rfl, (ue (ue rfl rfl) rfl), kp0⟩)))
  refine sr (Xc rfl (shrK rfl rfl rfl rfl rfl rfl rfl rfl (Xc rfl (dn (jc (fun (y3 : Int) e w => ∃ (s : St) (e0 : Env), w = s.w ∧ e = upd (upd e0 0 (.int .u64 a0)) 4 (.int .u64 y3) ∧ Kp s0 s) (fun Gj3 Kj3 => ?_) ?_)))))
  ·
   refine cd rfl (fun h4 => ?_) (fun h4 => ?_)
   ·
    exact rg (Xc rfl (Xc rfl (Xc rfl (dn (Kj3 _ _ _ ⟨s0, _, rfl, (ue (ue rfl rfl) rfl), kp0⟩)))))
   exact rg (Xc rfl (Xc rfl (Xc rfl (dn (Kj3 _ _ _ ⟨s0, _, rfl, (ue (ue rfl rfl) rfl), kp0⟩)))))
  rintro y3 _ _ ⟨s5, _, rfl, rfl, Ky3⟩
  exact Kj1 _ _ _ ⟨s5, _, rfl, (ue (ue rfl rfl) rfl), Ky3⟩
 rintro y1 _ _ ⟨s6, _, rfl, rfl, Ky1⟩
 refine sr (Xc rfl (cl' rfl func101 rfl (spec_FloatOf.calls y1 s6.w (mm [] s6)) ?_))
 rintro r7 v7_0 w7 m7 ⟨f7_0, ky7⟩
 obtain ⟨s8, rfl, p8, n8⟩ := nwx s6 w7 40 ky7
 refine Yd v7_0 rfl (dn (sq (sr (Xx v7_0 rfl (Ym 41 rfl func105 rfl (spec_FloatRank.calls r7 s8.w (mm [] s8) v7_0 (Ye (s := s8) f7_0)) (fun r9 s10 p10 n10 => ?_))))))
 refine Xc rfl (Xc rfl (dn (cd rfl (fun h11 => ?_) (fun h11 => ?_))))
 ·
  refine sr (Yd (.float .f64 0) rfl (Xc rfl (dn ?_)))
  exact re rfl func100 rfl (Xs rfl (Xs rfl Xe)) rfl ⟨_, rfl, (.float .f64 0), rfl, (Yh rfl), z.ky (Ky1.st (Xq p8 p10) rfl)⟩
 refine sk (sr (Xx v7_0 rfl (Yd v7_0 rfl (Xc rfl (dn ?_)))))
 exact re rfl func100 rfl (Xs rfl (Xs rfl Xe)) rfl ⟨_, rfl, v7_0, rfl, f7_0, z.ky (Ky1.st (Xq p8 p10) rfl)⟩
def spec_ItemOk.f (a0 : Item) : Option (Bool) :=
 (if (((decide (a0.Kind < (0 : Int))) || (decide (a0.Kind > (3 : Int)))) || (decide ((a0.T.length : Int) > (40 : Int)))) = true then (some false) else (if ((a0.Kind != (1 : Int)) && (a0.N != (0 : Int))) = true then (some false) else ((if (a0.Kind != (2 : Int)) = true then ((spec_FloatBits.f a0.F).bind fun r14 => (some (r14 != (0 : Int)))) else (some false)).bind fun y13 => (if y13 = true then (some false) else (some ((a0.Kind == (3 : Int)) || ((a0.T.length : Int) == (0 : Int))))))))
def spec_ItemOk.Q (w : World) (F : Nat → Prop) (r : Bool) (v : Value) (w' : World) : Prop :=
 v = (.bool r) ∧ Ky [] w w'
theorem spec_ItemOk.calls (a0 : Item) (w : World) (F : Nat → Prop) (w0_0 : Value) (w0_1 : Value) (h0_0 : Kd.flt.rd w [w0_0] a0.F F) (h0_1 : Yo.rd w [w0_1] a0.T F) (r : Bool) (m : spec_ItemOk.f a0 = some r) :
  Calls prog 103 #[(.agg #[(iI a0.Kind), (iI a0.N), w0_0, w0_1])] w (RT (spec_ItemOk.Q w F) r) := by
 obtain ⟨s0, rfl, kp0, z⟩ := Xk w F
 have A0_1 := z.rd h0_1
 refine Xd (args := [(.agg #[(iI a0.Kind), (iI a0.N), w0_0, w0_1])]) func103 ntmps103 rfl rfl m ?_
 unfold spec_ItemOk.f
 refine sr (bx' (cs := [(iI a0.Kind), (iI a0.N), w0_0, w0_1]) 40 rfl rfl (fun b2 s2 p2 B2 => ?_))
 refine Xc rfl (dn (sq (sr (Xt fa77_0 rfl (Yb B2 u3 rfl (Xc rfl (Xc rfl (jy [6, 7, 8, 9, 10] [8, 9, 10, 11, 12, 13] 10 (.bool ((decide (a0.Kind < (0 : Int))) || (decide (a0.Kind > (3 : Int))))) rfl (fun Kg4 => ?_) (fun j4 => ?_)))))))))
 ·
  rcases Yn (decide (a0.Kind < (0 : Int))) with hb4 | hb4
  ·
   exact Xy hb4 (Xj rfl (Xj rfl (Xj rfl (Xc rfl (Kg4 _ (Ag.put ((Ag.put ((Ag.put ((Ag.put (Ag.base rfl) rfl)) rfl)) rfl)) rfl) (by rw [hb4]; rfl))))))
  exact Xy hb4 (Xt fa77_0 rfl (Yb B2 u3 rfl (Xc rfl (Xc rfl (Kg4 _ (Ag.put ((Ag.put ((Ag.put ((Ag.put (Ag.base rfl) rfl)) rfl)) rfl)) rfl) (by rw [hb4]; rfl))))))
 refine Xc rfl (jy [11, 12, 13, 14, 15, 16] [] 16 (.bool (((decide (a0.Kind < (0 : Int))) || (decide (a0.Kind > (3 : Int)))) || (decide ((a0.T.length : Int) > (40 : Int))))) rfl (fun Kg5 => ?_) (fun j5 => ?_))
 ·
  rcases Yn ((decide (a0.Kind < (0 : Int))) || (decide (a0.Kind > (3 : Int)))) with hb5 | hb5
  ·
   exact Xy hb5 (Xj rfl (Xj rfl (Xj rfl (Xj rfl (Xc rfl (Kg5 _ (Ag.put ((Ag.put ((Ag.put ((Ag.put ((Ag.put (Ag.base rfl) rfl)) rfl)) rfl)) rfl)) rfl) (by rw [hb5]; rfl)))))))
  refine Xy hb5 (Xt fa77_3 rfl (Yb B2 u25 rfl ?_))
  exact Yl (A0_1.kp (kp0.st p2 rfl)) u25 rfl (Xc rfl (Xc rfl (Kg5 _ (Ag.put ((Ag.put ((Ag.put ((Ag.put ((Ag.put (Ag.base rfl) rfl)) rfl)) rfl)) rfl)) rfl) (by rw [hb5]; rfl))))
 refine dn (cd rfl (fun h8 => ?_) (fun h8 => ?_))
 ·
  refine sr (Xc rfl (dn ?_))
  exact re rfl func103 rfl (Xs rfl Xe) rfl ⟨_, rfl, rfl, z.ky (kp0.st p2 rfl)⟩
 refine sk (sq (sr (Xt fa77_0 rfl (Yb B2 u3 rfl (Xc rfl (Xc rfl (jy [20, 21, 22, 23, 24] [] 24 (.bool ((a0.Kind != (1 : Int)) && (a0.N != (0 : Int)))) rfl (fun Kg10 => ?_) (fun j10 => ?_))))))))
 ·
  rcases Yn (a0.Kind != (1 : Int)) with hb10 | hb10
  ·
   exact Xy hb10 (Xt fa77_1 rfl (Yb B2 u3 rfl (Xc rfl (Xc rfl (Kg10 _ (Ag.put ((Ag.put ((Ag.put ((Ag.put (Ag.base rfl) rfl)) rfl)) rfl)) rfl) (by rw [hb10]; rfl))))))
  exact Xy hb10 (Xj rfl (Xj rfl (Xj rfl (Xc rfl (Kg10 _ (Ag.put ((Ag.put ((Ag.put ((Ag.put (Ag.base rfl) rfl)) rfl)) rfl)) rfl) (by rw [hb10]; rfl))))))
 refine dn (cd rfl (fun h11 => ?_) (fun h11 => ?_))
 ·
  refine sr (Xc rfl (dn ?_))
  exact re rfl func103 rfl (Xs rfl Xe) rfl ⟨_, rfl, rfl, z.ky (kp0.st p2 rfl)⟩
 refine sk (sq (sr (Xt fa77_0 rfl (Yb B2 u3 rfl (Xc rfl (Xc rfl (ji [] (fun (y13 : Bool) e w => ∃ (s : St) (e0 : Env), w = s.w ∧ e = upd (upd e0 1 (pB b2)) 33 (.bool y13) ∧ Kp s0 s ∧ BlF s b2 77 [(iI a0.Kind), (iI a0.N), w0_0, w0_1] 40) (fun Gj13 Kj13 => ?_) ?_)))))))
 ·
  rcases Yn (a0.Kind != (2 : Int)) with hb13 | hb13
  ·
   refine Xy hb13 ?_
   rw [if_pos hb13]
   refine Xt fa77_2 rfl (Yb B2 u75 rfl (Ym 41 rfl func106 rfl (spec_FloatBits.calls a0.F s2.w (mm [] s2) w0_0 (Ye (s := s2) (fl_of h0_0))) (fun r14 s15 p15 n15 => ?_)))
   refine Xc rfl (Xc rfl ?_)
   exact Kj13 _ _ _ ⟨s15, _, rfl, (ue (ue rfl rfl) rfl), (kp0.st (Xq p2 p15) rfl), (B2.st p15 rfl)⟩
  refine Xy hb13 ?_
  rw [if_neg (by rw [hb13]; decide)]
  refine Xj rfl (Xj rfl (Xj rfl (Xj rfl (Xc rfl ?_))))
  exact Kj13 _ _ _ ⟨s2, _, rfl, (ue (ue rfl rfl) rfl), (kp0.st p2 rfl), B2⟩
 rintro y13 _ _ ⟨s19, _, rfl, rfl, Ky13, By13_b2⟩
 refine dn (cd rfl (fun h21 => ?_) (fun h21 => ?_))
 ·
  exact sr (Xc rfl (dn (re rfl func103 rfl (Xs rfl Xe) rfl ⟨_, rfl, rfl, z.ky Ky13⟩)))
 refine sk (sr (Xt fa77_0 rfl (Yb By13_b2 u3 rfl (Xc rfl (Xc rfl (jy [37, 38, 39, 40, 41, 42] [9] 42 (.bool ((a0.Kind == (3 : Int)) || ((a0.T.length : Int) == (0 : Int)))) rfl (fun Kg22 => ?_) (fun j22 => ?_)))))))
 ·
  rcases Yn (a0.Kind == (3 : Int)) with hb22 | hb22
  ·
   exact Xy hb22 (Xj rfl (Xj rfl (Xj rfl (Xj rfl (Xc rfl (Kg22 _ (Ag.put ((Ag.put ((Ag.put ((Ag.put ((Ag.put (Ag.base rfl) rfl)) rfl)) rfl)) rfl)) rfl) (by rw [hb22]; rfl)))))))
  refine Xy hb22 (Xt fa77_3 rfl (Yb By13_b2 u25 rfl ?_))
  exact Yl (A0_1.kp Ky13) u25 rfl (Xc rfl (Xc rfl (Kg22 _ (Ag.put ((Ag.put ((Ag.put ((Ag.put ((Ag.put (Ag.base rfl) rfl)) rfl)) rfl)) rfl)) rfl) (by rw [hb22]; rfl))))
 exact Xc rfl (dn (re rfl func103 rfl (Xs rfl Xe) rfl ⟨_, rfl, rfl, z.ky Ky13⟩))
def spec_KeyOk.f (a0 : Item) : Option (Bool) :=
 ((spec_ItemOk.f a0).bind fun r6 => ((if (r6 && (a0.Kind != (0 : Int))) = true then ((if (fcmp .f64 a0.F (0 : Nat) == some .eq) = true then ((spec_FloatBits.f a0.F).bind fun r13 => (some (r13 != (0 : Int)))) else (some false)).bind fun y12 => (some (!y12))) else (some false)).bind fun y10 => (some y10)))
def spec_KeyOk.Q (w : World) (F : Nat → Prop) (r : Bool) (v : Value) (w' : World) : Prop :=
 v = (.bool r) ∧ Ky [] w w'
theorem spec_KeyOk.calls (a0 : Item) (w : World) (F : Nat → Prop) (w0_0 : Value) (w0_1 : Value) (h0_0 : Kd.flt.rd w [w0_0] a0.F F) (h0_1 : Yo.rd w [w0_1] a0.T F) (r : Bool) (m : spec_KeyOk.f a0 = some r) :
  Calls prog 102 #[(.agg #[(iI a0.Kind), (iI a0.N), w0_0, w0_1])] w (RT (spec_KeyOk.Q w F) r) := by
 obtain ⟨s0, rfl, kp0, z⟩ := Xk w F
 have A0_0 := fl_of h0_0
 refine Xd (args := [(.agg #[(iI a0.Kind), (iI a0.N), w0_0, w0_1])]) func102 ntmps102 rfl rfl m ?_
 unfold spec_KeyOk.f
 refine sr (bx' (cs := [(iI a0.Kind), (iI a0.N), w0_0, w0_1]) 40 rfl rfl (fun b2 s2 p2 B2 => ?_))
 refine Xc rfl (dn (sr (Xw (es := [(iI a0.Kind), (iI a0.N), w0_0, w0_1]) B2 u77 z77 rfl ?_)))
 have K4 := kp0.st p2 rfl
 refine Ym 41 rfl func103 rfl (spec_ItemOk.calls a0 s2.w (mm [0] s2) w0_0 w0_1 ((Ye (s := s2) A0_0).sub (D := [0]) rfl) ((z.rd h0_1).kp K4)) (fun r6 s7 p7 n7 => ?_)
 refine Xc rfl (jy [5, 6, 7, 8, 9] [7, 8, 9, 10, 11, 12, 13, 14, 15, 16, 17, 18, 19] 9 (.bool (r6 && (a0.Kind != (0 : Int)))) rfl (fun Kg8 => ?_) (fun j8 => ?_))
 ·
  rcases Yn r6 with hb8 | hb8
  ·
   refine Xy hb8 (Xt fa77_0 rfl ?_)
   exact Yb (B2.st p7 rfl) u3 rfl (Xc rfl (Xc rfl (Kg8 _ (Ag.put ((Ag.put ((Ag.put ((Ag.put (Ag.base rfl) rfl)) rfl)) rfl)) rfl) (by rw [hb8]; rfl))))
  exact Xy hb8 (Xj rfl (Xj rfl (Xj rfl (Xc rfl (Kg8 _ (Ag.put ((Ag.put ((Ag.put ((Ag.put (Ag.base rfl) rfl)) rfl)) rfl)) rfl) (by rw [hb8]; rfl))))))
 refine Xc rfl (ji [19] (fun (y10 : Bool) e w => ∃ (s : St) (e0 : Env), w = s.w ∧ e = upd e0 21 (.bool y10) ∧ Kp s0 s) (fun Gj10 Kj10 => ?_) ?_)
 ·
  rcases Yn (r6 && (a0.Kind != (0 : Int))) with hb10 | hb10
  ·
   refine Xy hb10 ?_
   rw [if_pos hb10]
   refine Xt fa77_2 rfl ?_
   have A11 := B2.st p7 rfl
   refine Yb A11 u75 rfl (fq_ A0_0 (Yh rfl) rfl rfl rfl rfl rfl rfl rfl rfl (Xc rfl (ji [17, 18, 19] (fun (y12 : Bool) e w => ∃ (s : St) (e0 : Env), w = s.w ∧ e = upd (upd e0 10 (.bool true)) 19 (.bool y12) ∧ Kp s0 s) (fun Gj12 Kj12 => ?_) ?_)))
   ·
    rcases Yn (fcmp .f64 a0.F (0 : Nat) == some .eq) with hb12 | hb12
    ·
     refine Xy hb12 ?_
     rw [if_pos hb12]
     refine Xt fa77_2 rfl (Yb A11 u75 rfl (Ym 42 rfl func106 rfl (spec_FloatBits.calls a0.F s7.w (mm [] s7) w0_0 (Ye (s := s7) A0_0)) (fun r13 s14 p14 n14 => ?_)))
     refine Xc rfl (Xc rfl ?_)
     exact Kj12 _ _ _ ⟨s14, _, rfl, (ue (ue rfl rfl) rfl), (K4.st (Xq p7 p14) rfl)⟩
    refine Xy hb12 ?_
    rw [if_neg (by rw [hb12]; decide)]
    refine Xj rfl (Xj rfl (Xj rfl (Xj rfl (Xc rfl ?_))))
    exact Kj12 _ _ _ ⟨s7, _, rfl, (ue (ue rfl rfl) rfl), (K4.st p7 rfl)⟩
   rintro y12 _ _ ⟨s17, _, rfl, rfl, Ky12⟩
   exact Xc rfl (Xc rfl (Kj10 _ _ _ ⟨s17, _, rfl, (ue rfl rfl), Ky12⟩))
  refine Xy hb10 ?_
  rw [if_neg (by rw [hb10]; decide)]
  refine Xj rfl (Xj rfl (Xj rfl (Xj rfl (Xj rfl (Xj rfl (Xj rfl (Xj rfl (Xj rfl (Xj rfl (Xc rfl ?_))))))))))
  exact Kj10 _ _ _ ⟨s7, _, rfl, (ue rfl rfl), (K4.st p7 rfl)⟩
 rintro y10 _ _ ⟨s19, _, rfl, rfl, Ky10⟩
 exact Xc rfl (dn (re rfl func102 rfl (Xs rfl Xe) rfl ⟨_, rfl, rfl, z.ky Ky10⟩))
def spec_l3high.b0 (a0 : Int) (x1 : (List Int) × Int) : Option (((List Int) × Int) ⊕ (List Int)) :=
 (if (decide (x1.2 ≥ (0 : Int))) = true then (if 0 ≤ (IntKind.wrap .u64 (IntKind.wrap .i64 ((8 : Int) * x1.2))) then (if x1.1.length + ([(IntKind.wrap .u8 (iand .u64 (ishr .u64 a0 (IntKind.wrap .u64 (IntKind.wrap .i64 ((8 : Int) * x1.2)))) (255 : Int)))]).length ≤ Lim then (some (Sum.inl ((x1.1 ++ [(IntKind.wrap .u8 (iand .u64 (ishr .u64 a0 (IntKind.wrap .u64 (IntKind.wrap .i64 ((8 : Int) * x1.2)))) (255 : Int)))]), (IntKind.wrap .i64 (x1.2 - (1 : Int)))))) else none) else none) else ((some x1.1).bind fun o => some (Sum.inr o)))
def spec_l3high.f (a0 : Int) : Option ((List Int)) :=
 (iter (spec_l3high.b0 a0) (([] : (List Int)), (7 : Int)))
def spec_l3high.Q (w : World) (F : Nat → Prop) (r : (List Int)) (v : Value) (w' : World) : Prop :=
 FO Yo w w' [v] r ∧ Ky [] w w'
theorem spec_l3high.calls (a0 : Int) (w : World) (F : Nat → Prop)   (r : (List Int)) (m : spec_l3high.f a0 = some r) :
  Calls prog 121 #[(.int .u64 a0)] w (RT (spec_l3high.Q w F) r) := by
 obtain ⟨s0, rfl, kp0, z⟩ := Xk w F
 refine Xd (args := [(.int .u64 a0)]) func121 ntmps121 rfl rfl m ?_
 unfold spec_l3high.f
 refine sr (Xc rfl (dn (sr (Xc rfl (dn (sq (sr (Xc rfl (dn (bl (lpI (fun (x1 : (List Int) × Int) e w => ∃ (s : St) (e0 : Env) (vx1_0 : Value), w = s.w ∧ e = upd (upd (upd e0 0 (.int .u64 a0)) 3 vx1_0) 4 (iI x1.2) ∧ Kp s0 s ∧ OwF Yo s [vx1_0] x1.1 40) ⟨s0, _, (.slice none 0 0), rfl, (ue (ue (ue rfl rfl) rfl) rfl), kp0, (Yk 5 (Kd.int .u8) _ 40)⟩ (fun g1 ih1 => ?_))))))))))))
 rintro x1 _ _ ⟨s2, _, vx1_0, rfl, rfl, Kx1, Ax1_0⟩
 unfold spec_l3high.b0
 refine sq (sr (Xc rfl (Xc rfl (dn (cd rfl (fun h4 => ?_) (fun h4 => ?_))))))
 ·
  refine sk (sq (bl (rg (Xx vx1_0 rfl (Xc rfl (Xc rfl (Xc rfl (cv' u121 u3 rfl (shr_ rfl rfl rfl rfl rfl rfl rfl (Xc rfl (cv' u5 u111 rfl (ltF' (K := (Kd.int .u8)) (cells := [(.int .u8 (IntKind.wrap .u8 (iand .u64 (ishr .u64 a0 (IntKind.wrap .u64 (IntKind.wrap .i64 ((8 : Int) * x1.2)))) (255 : Int))))]) [(IntKind.wrap .u8 (iand .u64 (ishr .u64 a0 (IntKind.wrap .u64 (IntKind.wrap .i64 ((8 : Int) * x1.2)))) (255 : Int)))] 41 Xv u25 z5 o5 (fun w => (Yf _ _ _)) rfl (fun v5 s5 p5 A5 => ?_)))))))))))))
  refine apF' Xv sl25 (Ax1_0.st p5 rfl) A5.rd rfl (fun v8 s8 p8 A8 => ?_)
  refine Yd v8 rfl (dn (ib (rg (Xc rfl (Xc rfl (Xc rfl (dn ?_)))))))
  exact lb ih1 ⟨s8, _, v8, rfl, (ue (ue (ue rfl rfl) rfl) rfl), (Kx1.st (Xq p5 p8) rfl), A8⟩
 exact xt rfl (sgb (sr (Xx vx1_0 rfl (Yd vx1_0 rfl (dn (re rfl func121 rfl (Xs rfl Xe) rfl ⟨_, rfl, Ax1_0.fo Kx1 rfl z.l, z.ky Kx1⟩))))))
def spec_l3bytes.f (a0 : Item) (a1 : Int) : Option ((List Int)) :=
 (if (a0.Kind == (1 : Int)) = true then ((spec_l3high.f (ixor .u64 (IntKind.wrap .u64 a0.N) (9223372036854775808 : Int))).bind fun r8 => (if ([(IntKind.wrap .u8 a0.Kind)]).length + r8.length ≤ Lim then (some ([(IntKind.wrap .u8 a0.Kind)] ++ r8)) else none)) else (if (a0.Kind == (2 : Int)) = true then ((spec_l3high.f a1).bind fun r16 => (if ([(IntKind.wrap .u8 a0.Kind)]).length + r16.length ≤ Lim then (some ([(IntKind.wrap .u8 a0.Kind)] ++ r16)) else none)) else (if ([(IntKind.wrap .u8 a0.Kind)]).length + a0.T.length ≤ Lim then (some ([(IntKind.wrap .u8 a0.Kind)] ++ a0.T)) else none)))
def spec_l3bytes.Q (w : World) (F : Nat → Prop) (r : (List Int)) (v : Value) (w' : World) : Prop :=
 FO Yo w w' [v] r ∧ Ky [] w w'
theorem spec_l3bytes.calls (a0 : Item) (a1 : Int) (w : World) (F : Nat → Prop) (w0_0 : Value) (w0_1 : Value) (h0_0 : Kd.flt.rd w [w0_0] a0.F F) (h0_1 : Yo.rd w [w0_1] a0.T F) (r : (List Int)) (m : spec_l3bytes.f a0 a1 = some r) :
  Calls prog 104 #[(.agg #[(iI a0.Kind), (iI a0.N), w0_0, w0_1]), (.int .u64 a1)] w (RT (spec_l3bytes.Q w F) r) := by
 obtain ⟨s0, rfl, kp0, z⟩ := Xk w F
 refine Xd (args := [(.agg #[(iI a0.Kind), (iI a0.N), w0_0, w0_1]), (.int .u64 a1)]) func104 ntmps104 rfl rfl m ?_
 unfold spec_l3bytes.f
 refine sr (bx' (cs := [(iI a0.Kind), (iI a0.N), w0_0, w0_1]) 40 rfl rfl (fun b2 s2 p2 B2 => ?_))
 refine Xc rfl (dn (sr (Xt fa77_0 rfl (Yb B2 u3 rfl (cv' u5 u3 rfl (ltF' (K := (Kd.int .u8)) (cells := [(.int .u8 (IntKind.wrap .u8 a0.Kind))]) [(IntKind.wrap .u8 a0.Kind)] 41 Xv u25 z5 o5 (fun w => (Yf _ _ _)) rfl (fun v4 s4 p4 A4 => ?_)))))))
 refine Yd v4 rfl (dn (sq (sr (Xt fa77_0 rfl ?_))))
 have A6 := B2.st p4 rfl
 refine Yb A6 u3 rfl (dn (bl (sr (Xc rfl (Xc rfl (dn (cd rfl (fun h7 => ?_) (fun h7 => ?_))))))))
 ·
  refine sr (Xx v4 rfl (Xt fa77_1 rfl (Yb A6 u3 rfl (cv' u111 u3 rfl (Xc rfl (clO 42 rfl func121 rfl (spec_l3high.calls (ixor .u64 (IntKind.wrap .u64 a0.N) (9223372036854775808 : Int)) s4.w (mm [] s4)) (fun r8 v8_0 s9 p9 A8_0 => ?_)))))))
  refine apF' Xv sl25 (A4.st p9 rfl) A8_0.rd rfl (fun v12 s12 p12 A12 => ?_)
  refine Yd v12 rfl (dn ?_)
  have K14 := kp0.st (tr4 p2 p4 p9 p12) rfl
  exact re rfl func104 rfl (Xs rfl Xe) rfl ⟨_, rfl, A12.fo K14 rfl z.l, z.ky K14⟩
 refine sr (Xc rfl (Xc rfl (dn (cd rfl (fun h15 => ?_) (fun h15 => ?_)))))
 ·
  refine sr (Xx v4 rfl (Xc rfl (clO 43 rfl func121 rfl (spec_l3high.calls a1 s4.w (mm [] s4)) (fun r16 v16_0 s17 p17 A16_0 => ?_))))
  refine apF' Xv sl25 (A4.st p17 rfl) A16_0.rd rfl (fun v20 s20 p20 A20 => ?_)
  refine Yd v20 rfl (dn ?_)
  have K22 := kp0.st (tr4 p2 p4 p17 p20) rfl
  exact re rfl func104 rfl (Xs rfl Xe) rfl ⟨_, rfl, A20.fo K22 rfl z.l, z.ky K22⟩
 refine sk (ib (sr (Xx v4 rfl (Xt fa77_3 rfl (Yb A6 u25 rfl ?_)))))
 have K23 := kp0.st (Xq p2 p4) rfl
 refine apF' Xv sl25 A4 ((z.rd h0_1).kp K23) rfl (fun v25 s25 p25 A25 => ?_)
 refine Yd v25 rfl (dn ?_)
 have K27 := K23.st p25 rfl
 exact re rfl func104 rfl (Xs rfl Xe) rfl ⟨_, rfl, A25.fo K27 rfl z.l, z.ky K27⟩
def spec_KeyBytes.f (a0 : Item) : Option ((List Int)) :=
 ((spec_KeyOk.f a0).bind fun r6 => (if (!r6) = true then (some ([] : (List Int))) else ((spec_FloatRank.f a0.F).bind fun r19 => ((spec_l3bytes.f a0 r19).bind fun r25 => (some r25)))))
def spec_KeyBytes.Q (w : World) (F : Nat → Prop) (r : (List Int)) (v : Value) (w' : World) : Prop :=
 FO Yo w w' [v] r ∧ Ky [] w w'
theorem spec_KeyBytes.calls (a0 : Item) (w : World) (F : Nat → Prop) (w0_0 : Value) (w0_1 : Value) (h0_0 : Kd.flt.rd w [w0_0] a0.F F) (h0_1 : Yo.rd w [w0_1] a0.T F) (r : (List Int)) (m : spec_KeyBytes.f a0 = some r) :
  Calls prog 78 #[(.agg #[(iI a0.Kind), (iI a0.N), w0_0, w0_1])] w (RT (spec_KeyBytes.Q w F) r) := by
 obtain ⟨s0, rfl, kp0, z⟩ := Xk w F
 have A0_0 := fl_of h0_0
 have A0_1 := z.rd h0_1
 refine Xd (args := [(.agg #[(iI a0.Kind), (iI a0.N), w0_0, w0_1])]) func78 ntmps78 rfl rfl m ?_
 unfold spec_KeyBytes.f
 refine sr (bx' (cs := [(iI a0.Kind), (iI a0.N), w0_0, w0_1]) 40 rfl rfl (fun b2 s2 p2 B2 => ?_))
 refine Xc rfl (dn (sq (sr (Xw (es := [(iI a0.Kind), (iI a0.N), w0_0, w0_1]) B2 u77 z77 rfl ?_))))
 have K4 := kp0.st p2 rfl
 refine Ym 41 rfl func102 rfl (spec_KeyOk.calls a0 s2.w (mm [0] s2) w0_0 w0_1 ((Ye (s := s2) A0_0).sub (D := [0]) rfl) (A0_1.kp K4)) (fun r6 s7 p7 n7 => ?_)
 refine Xc rfl (dn (cd rfl (fun h8 => ?_) (fun h8 => ?_)))
 ·
  refine sr (Xc rfl (dn ?_))
  have K9 := K4.st p7 rfl
  exact re rfl func78 rfl (Xs rfl Xe) rfl ⟨_, rfl, (Yk 5 (Kd.int .u8) s7 40).fo K9 rfl z.l, z.ky K9⟩
 refine sk (sq (zdraw [[], [], [1], [2], [0, 3, 3], [4, 4, 0, 1, 2, 3, 4]] [some 6, some 7, some 8, some 9, some 10, some 2] [[1], [1], [7], [8], [6, 9], [10]] [0, 1, 2, 3, 4, 5] ⟨by kernel_rfl, by kernel_rfl, by kernel_rfl⟩ (by kernel_rfl) (fun s10 p10 l10 tb10 zd10 => ?_)))
 refine Yc 3 [some 6] tb10 (((zd10.add 0 6 (.agg #[(iI a0.Kind), (iI a0.N), w0_0, w0_1]) rfl).add 1 7 (pO b2 2) rfl).add 2 8 w0_0 rfl) (Xa (Xp (B2.st (Xq p7 p10) rfl) u75 rfl) rfl (Xa (Xr fa77_2 rfl) rfl (Xa (lda_q' (es := [(iI a0.Kind), (iI a0.N), w0_0, w0_1]) (B2.st (Xq p7 p10) rfl) u77 z77 rfl) rfl Xg))) (by kernel_rfl) rfl (fun l16 e16 zd16 => ?_)
 refine Ym 42 rfl func105 rfl (spec_FloatRank.calls a0.F s10.w (mm [] s10) w0_0 (Ye (s := s10) A0_0)) (fun r19 s20 p20 n20 => ?_)
 refine Xl (L' := [0]) (D' := [1, 2, 3]) zd16 rfl (fun zd21 => ?_)
 refine zfin [4, 5] tb10 zd21 (Xa (lda_q' (es := [(iI a0.Kind), (iI a0.N), w0_0, w0_1]) (B2.st (Yi p7 p10 p20) rfl) u77 z77 rfl) rfl Xg) (by kernel_rfl) (by decide) ?_
 have K23 := K4.st (Yi p7 p10 p20) rfl
 refine clO 43 rfl func104 rfl (spec_l3bytes.calls a0 r19 s20.w (mm [0] s20) w0_0 w0_1 ((Ye (s := s20) A0_0).sub (D := [0]) rfl) (A0_1.kp K23)) (fun r25 v25_0 s26 p26 A25_0 => ?_)
 refine Yd v25_0 rfl (dn ?_)
 have K28 := K23.st p26 rfl
 exact re rfl func78 rfl (Xs rfl Xe) rfl ⟨_, rfl, A25_0.fo K28 rfl z.l, z.ky K28⟩
def spec_KeyRead.f (a0 : (List Int)) : Option (Item × Bool) :=
 (if ((decide ((a0.length : Int) < (1 : Int))) || (decide ((a0.length : Int) > (41 : Int)))) = true then (some ((Item.mk (0 : Int) (0 : Int) (0 : Nat) ([] : (List Int))), false)) else (if 0 ≤ (0 : Int) ∧ (0 : Int) < (a0.length : Int) then ((if ((IntKind.wrap .i64 (at_ a0 (0 : Int))) == (1 : Int)) = true then (if 0 ≤ (1 : Int) ∧ (1 : Int) ≤ (a0.length : Int) then ((spec_l3low.f (a0.drop ((1 : Int)).toNat)).bind fun r26 => (some ((IntKind.wrap .i64 (ixor .u64 r26 (9223372036854775808 : Int))), (0 : Nat), ([] : (List Int))))) else none) else ((if ((IntKind.wrap .i64 (at_ a0 (0 : Int))) == (2 : Int)) = true then (if 0 ≤ (1 : Int) ∧ (1 : Int) ≤ (a0.length : Int) then ((spec_l3low.f (a0.drop ((1 : Int)).toNat)).bind fun r39 => ((spec_FloatUnrank.f r39).bind fun r41 => (some (r41.1, ([] : (List Int)))))) else none) else ((if ((IntKind.wrap .i64 (at_ a0 (0 : Int))) == (3 : Int)) = true then (if 0 ≤ (1 : Int) ∧ (1 : Int) ≤ (a0.length : Int) then (if ([] : (List Int)).length + (a0.drop ((1 : Int)).toNat).length ≤ Lim then (some (([] : (List Int)) ++ (a0.drop ((1 : Int)).toNat))) else none) else none) else (some ([] : (List Int)))).bind fun y48 => (some ((0 : Nat), y48)))).bind fun y33 => (some ((0 : Int), y33.1, y33.2)))).bind fun y20 => ((spec_KeyBytes.f (Item.mk (IntKind.wrap .i64 (at_ a0 (0 : Int))) y20.1 y20.2.1 y20.2.2)).bind fun r90 => (if (!((str r90).toList == (str a0).toList)) = true then (some ((Item.mk (0 : Int) (0 : Int) (0 : Nat) ([] : (List Int))), false)) else (some ((Item.mk (IntKind.wrap .i64 (at_ a0 (0 : Int))) y20.1 y20.2.1 y20.2.2), true))))) else none))
def spec_KeyRead.Q (w : World) (F : Nat → Prop) (r : Item × Bool) (v : Value) (w' : World) : Prop :=
 ∃ (v0 : Value) (v1 : Value), v = .tuple #[(.agg #[(iI r.1.Kind), (iI r.1.N), v0, v1]), (.bool r.2)] ∧ FO kd77 w w' [(iI r.1.Kind), (iI r.1.N), v0, v1] r.1 ∧ Ky [] w w'
theorem spec_KeyRead.calls (a0 : (List Int)) (w : World) (F : Nat → Prop) (w0_0 : Value) (h0_0 : Yo.rd w [w0_0] a0 F) (r : Item × Bool) (m : spec_KeyRead.f a0 = some r) :
  Calls prog 74 #[w0_0] w (RT (spec_KeyRead.Q w F) r) := by
 obtain ⟨s0, rfl, kp0, z⟩ := Xk w F
 have A0_0 := z.rd h0_0
 refine Xd (args := [w0_0]) func74 ntmps74 rfl rfl m ?_
 unfold spec_KeyRead.f
 refine sr (al' (cs := [(iI 0), (iI 0), (.float .f64 0), (.slice none 0 0)]) 40 rfl o77 rfl (fun b2 s2 p2 B2 => ?_))
 refine Xc rfl (dn (sr (al' (cs := [(iI 0), (iI 0), (.float .f64 0), (.slice none 0 0)]) 41 rfl o77 rfl (fun b4 s4 p4 B4 => ?_))))
 refine dn (sq (sr (Xx w0_0 rfl ?_)))
 have K6 := kp0.st (Xq p2 p4) rfl
 have A7 := A0_0.kp K6
 refine Yl A7 u25 rfl (Xc rfl (Xc rfl (jy [8, 9, 10, 11, 12] [] 12 (.bool ((decide ((a0.length : Int) < (1 : Int))) || (decide ((a0.length : Int) > (41 : Int))))) rfl (fun Kg8 => ?_) (fun j8 => ?_))))
 ·
  rcases Yn (decide ((a0.length : Int) < (1 : Int))) with hb8 | hb8
  ·
   exact Xy hb8 (Xj rfl (Xj rfl (Xj rfl (Xc rfl (Kg8 _ (Ag.put ((Ag.put ((Ag.put ((Ag.put (Ag.base rfl) rfl)) rfl)) rfl)) rfl) (by rw [hb8]; rfl))))))
  exact Xy hb8 (Xx w0_0 rfl (Yl A7 u25 rfl (Xc rfl (Xc rfl (Kg8 _ (Ag.put ((Ag.put ((Ag.put ((Ag.put (Ag.base rfl) rfl)) rfl)) rfl)) rfl) (by rw [hb8]; rfl))))))
 refine dn (cd rfl (fun h9 => ?_) (fun h9 => ?_))
 ·
  refine sr (Xw (es := [(iI 0), (iI 0), (.float .f64 0), (.slice none 0 0)]) B4 u77 z77 rfl ?_)
  refine Xu (vs := [(iI 0), (iI 0), (.float .f64 0), (.slice none 0 0)]) (B2.st p4 rfl) z77 rfl (Xb rfl (Xb rfl (Xb (FL.one (Yh rfl)) (Xb rfl Xi)))) rfl (fun s11 p11 B11 => ?_)
  refine Xc rfl (dn ?_)
  have A13 : OwF kd77 s11 [(iI 0), (iI 0), (.float .f64 0), (.slice none 0 0)] (Item.mk (0 : Int) (0 : Int) (0 : Nat) ([] : (List Int))) 42 := ow_z _ _ (Xz (fun x : Item => (x.Kind, x.N, x.F, x.T)) (Item.mk (0 : Int) (0 : Int) (0 : Nat) ([] : (List Int))) (Xh (Xf .i64 (0 : Int)) (Xh (Xf .i64 (0 : Int)) (Xh (Yj (Yh rfl)) (Ya 5 (Kd.int .u8))))))
  have K15 := K6.st p11 rfl
  exact re rfl func74 rfl (r_b B11 u77 rfl z77 rfl (Xs rfl Xe)) rfl ⟨_, rfl, (.float .f64 0), (.slice none 0 0), rfl, A13.fo K15 rfl z.l, z.ky K15⟩
 refine sk (sr (Xx w0_0 rfl (ix' A7 u25 z5 rfl (fun ad16 es16 h0_16 h1_16 he16 ce16 ia16 => ?_))))
 obtain rfl := he16
 refine lc0' ce16 u5 rfl (cv' u3 u5 rfl (Xt fa77_0 rfl (sv' B4 z3 rfl rfl rfl (fun s18 p18 B18 => ?_))))
 refine dn (sq (sr (Xt fa77_0 rfl (Yb B18 u3 rfl (dn (bl (sr (Xc rfl (Xc rfl (dn (jc (fun (y20 : Int × Nat × (List Int)) e w => ∃ (s : St) (e0 : Env) (vy20_0 uy20_0 : Value), w = s.w ∧ e = upd (upd (upd e0 0 w0_0) 2 (pB b2)) 4 (pB b4) ∧ Kp s0 s ∧ OwF Yo s [vy20_0] y20.2.2 46 ∧ FL uy20_0 y20.2.1 ∧ BlF s b4 77 [(iI (IntKind.wrap .i64 (at_ a0 (0 : Int)))), (iI y20.1), uy20_0, vy20_0] 41 ∧ BlF s b2 77 [(iI 0), (iI 0), (.float .f64 0), (.slice none 0 0)] 40) (fun Gj20 Kj20 => ?_) ?_)))))))))))
 ·
  refine cd rfl (fun h21 => ?_) (fun h21 => ?_)
  ·
   refine rg (Xx w0_0 rfl ?_)
   have K22 := K6.st p18 rfl
   refine sla (A0_0.kp K22) u25 z5 rfl rfl rfl rfl rfl rfl rfl (fun v24 A24 => ?_)
   refine Ym 43 rfl func99 rfl (spec_l3low.calls (a0.drop ((1 : Int)).toNat) s18.w (mm [0] s18) v24 A24) (fun r26 s27 p27 n27 => ?_)
   refine Xc rfl (cv' u3 u111 rfl (Xt fa77_1 rfl ?_))
   refine sv' (B18.st p27 rfl) z3 rfl rfl rfl (fun s29 p29 B29 => ?_)
   exact dn (Kj20 _ _ _ ⟨s29, _, (.slice none 0 0), (.float .f64 0), rfl, (ue (ue (ue rfl rfl) rfl) rfl), (K22.st (Xq p27 p29) rfl), (Yk 5 (Kd.int .u8) _ 46), (Yh rfl), B29, (B2.st (tr4 p4 p18 p27 p29) rfl)⟩)
  refine sr (Xc rfl (Xc rfl (dn (jc (fun (y33 : Nat × (List Int)) e w => ∃ (s : St) (e0 : Env) (vy33_0 uy33_0 : Value), w = s.w ∧ e = upd (upd (upd e0 0 w0_0) 2 (pB b2)) 4 (pB b4) ∧ Kp s0 s ∧ OwF Yo s [vy33_0] y33.2 46 ∧ FL uy33_0 y33.1 ∧ BlF s b4 77 [(iI (IntKind.wrap .i64 (at_ a0 (0 : Int)))), (iI 0), uy33_0, vy33_0] 41 ∧ BlF s b2 77 [(iI 0), (iI 0), (.float .f64 0), (.slice none 0 0)] 40) (fun Gj33 Kj33 => ?_) ?_))))
  ·
   refine cd rfl (fun h34 => ?_) (fun h34 => ?_)
   ·
    refine rg (Xx w0_0 rfl ?_)
    have K35 := K6.st p18 rfl
    refine sla (A0_0.kp K35) u25 z5 rfl rfl rfl rfl rfl rfl rfl (fun v37 A37 => ?_)
    refine Ym 44 rfl func99 rfl (spec_l3low.calls (a0.drop ((1 : Int)).toNat) s18.w (mm [0] s18) v37 A37) (fun r39 s40 p40 n40 => ?_)
    refine cl' rfl func100 rfl (spec_FloatUnrank.calls r39 s40.w (mm [] s40)) ?_
    rintro r41 _ w41 m41 ⟨v41_0, rfl, f41_0, ky41⟩
    obtain ⟨s42, rfl, p42, n42⟩ := nwx s40 w41 45 ky41
    refine Xc rfl (Xc (v := v41_0) rfl (Xc (v := (.bool r41.2)) rfl (Xt fa77_2 rfl ?_)))
    refine sv' (B18.st (Xq p40 p42) rfl) z75 rfl (FL.one f41_0) rfl (fun s44 p44 B44 => ?_)
    exact dn (Kj33 _ _ _ ⟨s44, _, (.slice none 0 0), v41_0, rfl, (ue (ue (ue rfl rfl) rfl) rfl), (K35.st (Yi p40 p42 p44) rfl), (Yk 5 (Kd.int .u8) _ 46), f41_0, B44, (B2.st (tr5 p4 p18 p40 p42 p44) rfl)⟩)
   refine sr (Xc rfl (Xc rfl (dn (jc (fun (y48 : (List Int)) e w => ∃ (s : St) (e0 : Env) (vy48_0 : Value), w = s.w ∧ e = upd (upd (upd e0 0 w0_0) 2 (pB b2)) 4 (pB b4) ∧ Kp s0 s ∧ OwF Yo s [vy48_0] y48 46 ∧ BlF s b4 77 [(iI (IntKind.wrap .i64 (at_ a0 (0 : Int)))), (iI 0), (.float .f64 0), vy48_0] 41 ∧ BlF s b2 77 [(iI 0), (iI 0), (.float .f64 0), (.slice none 0 0)] 40) (fun Gj48 Kj48 => ?_) ?_))))
   ·
    refine cd rfl (fun h49 => ?_) (fun h49 => ?_)
    ·
     refine rg (lt0 (K := (Kd.int .u8)) 46 u25 z5 rfl rfl rfl rfl rfl (fun v50 s50 p50 A50 => ?_))
     refine Xx w0_0 rfl ?_
     have K52 := K6.st (Xq p18 p50) rfl
     refine sla (A0_0.kp K52) u25 z5 rfl rfl rfl rfl rfl rfl rfl (fun v54 A54 => ?_)
     refine apF' Xv sl25 A50 A54 rfl (fun v56 s56 p56 A56 => ?_)
     refine Xt fa77_3 rfl (sv' (B18.st (Xq p50 p56) rfl) z25 rfl A56.rd.one rfl (fun s59 p59 B59 => ?_))
     exact dn (Kj48 _ _ _ ⟨s59, _, v56, rfl, (ue (ue (ue rfl rfl) rfl) rfl), (K52.st (Xq p56 p59) rfl), (A56.st p59 rfl), B59, (B2.st (tr5 p4 p18 p50 p56 p59) rfl)⟩)
    exact sk (Kj48 _ _ _ ⟨s18, _, (.slice none 0 0), rfl, (ue (ue (ue rfl rfl) rfl) rfl), (K6.st p18 rfl), (Yk 5 (Kd.int .u8) _ 46), B18, (B2.st (Xq p4 p18) rfl)⟩)
   rintro y48 _ _ ⟨s66, _, vy48_0, rfl, rfl, Ky48, Ay48_0, By48_b4, By48_b2⟩
   exact Kj33 _ _ _ ⟨s66, _, vy48_0, (.float .f64 0), rfl, (ue (ue (ue rfl rfl) rfl) rfl), Ky48, Ay48_0, (Yh rfl), By48_b4, By48_b2⟩
  rintro y33 _ _ ⟨s70, _, vy33_0, uy33_0, rfl, rfl, Ky33, Ay33_0, Fy33_0, By33_b4, By33_b2⟩
  exact Kj20 _ _ _ ⟨s70, _, vy33_0, uy33_0, rfl, (ue (ue (ue rfl rfl) rfl) rfl), Ky33, Ay33_0, Fy33_0, By33_b4, By33_b2⟩
 rintro y20 _ _ ⟨s74, _, vy20_0, uy20_0, rfl, rfl, Ky20, Ay20_0, Fy20_0, By20_b4, By20_b2⟩
 refine ib (sq (sq (zdraw [[], [0], [1], [], [3], [2, 4]] [some 46, some 47, some 48, some 49, some 50, some 51] [[4], [46], [47], [0], [49], [48, 50]] [0, 1, 2, 3, 4, 5] ⟨by kernel_rfl, by kernel_rfl, by kernel_rfl⟩ (by kernel_rfl) (fun s78 p78 l78 tb78 zd78 => ?_))))
 refine Yc 1 [some 50, some 49] tb78 (((zd78.add 0 46 (.agg #[(iI (IntKind.wrap .i64 (at_ a0 (0 : Int)))), (iI y20.1), uy20_0, vy20_0]) rfl).add 3 49 w0_0 rfl).add 4 50 (.string (str a0)) rfl) (Xa (b2s_q (A0_0.kp (Ky20.st p78 rfl)) u25 u9 u5 rfl rfl rfl rfl rfl rfl) rfl (Xa (Xn w0_0 rfl) rfl (Xa (lda_q' (es := [(iI (IntKind.wrap .i64 (at_ a0 (0 : Int)))), (iI y20.1), uy20_0, vy20_0]) (By20_b4.st p78 rfl) u77 z77 rfl) rfl Xg))) (by kernel_rfl) rfl (fun l85 e85 zd85 => ?_)
 have A89 := Ay20_0.st p78 rfl
 refine clO 47 rfl func78 rfl (spec_KeyBytes.calls (Item.mk (IntKind.wrap .i64 (at_ a0 (0 : Int))) y20.1 y20.2.1 y20.2.2) s78.w (mm [46] s78) uy20_0 vy20_0 ((Ye (s := s78) Fy20_0).sub (D := [46]) rfl) A89.rd) (fun r90 v90_0 s91 p91 A90_0 => ?_)
 refine Xl (L' := [4, 3]) (D' := [0, 1]) zd85 rfl (fun zd93 => ?_)
 refine zfin [5] tb78 (zd93.add 2 48 (.string (str r90)) rfl) (Xa (b2s_q A90_0.rd u25 u9 u5 rfl rfl rfl rfl rfl rfl) rfl (Xa (b2s_q (A0_0.kp (Ky20.st (Xq p78 p91) rfl)) u25 u9 u5 rfl rfl rfl rfl rfl rfl) rfl (Xa (Xn w0_0 rfl) rfl Xg))) (by kernel_rfl) (by decide) (Xc rfl (dn (cd rfl (fun h97 => ?_) (fun h97 => ?_))))
 ·
  refine sr (bd' (cells := [(iI 0), (iI 0), (.float .f64 0), (.slice none 0 0)]) pl77 o77 rfl rfl ?_)
  refine Xu (vs := [(iI 0), (iI 0), (.float .f64 0), (.slice none 0 0)]) (By20_b2.st (Xq p78 p91) rfl) z77 rfl (Xb rfl (Xb rfl (Xb (FL.one (Yh rfl)) (Xb rfl Xi)))) rfl (fun s99 p99 B99 => ?_)
  refine Xc rfl (dn ?_)
  have A101 : OwF kd77 s99 [(iI 0), (iI 0), (.float .f64 0), (.slice none 0 0)] (Item.mk (0 : Int) (0 : Int) (0 : Nat) ([] : (List Int))) 48 := ow_z _ _ (Xz (fun x : Item => (x.Kind, x.N, x.F, x.T)) (Item.mk (0 : Int) (0 : Int) (0 : Nat) ([] : (List Int))) (Xh (Xf .i64 (0 : Int)) (Xh (Xf .i64 (0 : Int)) (Xh (Yj (Yh rfl)) (Ya 5 (Kd.int .u8))))))
  have K103 := Ky20.st (Yi p78 p91 p99) rfl
  exact re rfl func74 rfl (r_b B99 u77 rfl z77 rfl (Xs rfl Xe)) rfl ⟨_, rfl, (.float .f64 0), (.slice none 0 0), rfl, A101.fo K103 rfl z.l, z.ky K103⟩
 refine sk (sr ?_)
 refine Xw (es := [(iI (IntKind.wrap .i64 (at_ a0 (0 : Int)))), (iI y20.1), uy20_0, vy20_0]) (By20_b4.st (Xq p78 p91) rfl) u77 z77 rfl ?_
 have A106 := A89.st p91 rfl
 refine Xu (vs := [(iI (IntKind.wrap .i64 (at_ a0 (0 : Int)))), (iI y20.1), uy20_0, vy20_0]) (By20_b2.st (Xq p78 p91) rfl) z77 rfl (Xb rfl (Xb rfl (Xb (FL.one Fy20_0) (Xb A106.rd.one Xi)))) rfl (fun s107 p107 B107 => ?_)
 refine Xc rfl (dn ?_)
 have A109 : OwF kd77 s107 [(iI (IntKind.wrap .i64 (at_ a0 (0 : Int)))), (iI y20.1), uy20_0, vy20_0] (Item.mk (IntKind.wrap .i64 (at_ a0 (0 : Int))) y20.1 y20.2.1 y20.2.2) 46 := (Xo (fun x : Item => (x.Kind, x.N, x.F, x.T)) (Item.mk (IntKind.wrap .i64 (at_ a0 (0 : Int))) y20.1 y20.2.1 y20.2.2) (Yg (Xf .i64 (IntKind.wrap .i64 (at_ a0 (0 : Int)))) (Yg (Xf .i64 y20.1) (Yg (Yj Fy20_0) (A106.st p107 rfl)))))
 have K112 := Ky20.st (Yi p78 p91 p107) rfl
 exact re rfl func74 rfl (r_b B107 u77 rfl z77 rfl (Xs rfl Xe)) rfl ⟨_, rfl, uy20_0, vy20_0, rfl, A109.fo K112 rfl z.l, z.ky K112⟩
def spec_ValueBytes.f (a0 : Item) : Option ((List Int)) :=
 ((spec_ItemOk.f a0).bind fun r6 => (if ((!r6) || (a0.Kind == (0 : Int))) = true then (some ([] : (List Int))) else ((spec_FloatBits.f a0.F).bind fun r21 => ((spec_l3bytes.f a0 r21).bind fun r27 => (some r27)))))
def spec_ValueBytes.Q (w : World) (F : Nat → Prop) (r : (List Int)) (v : Value) (w' : World) : Prop :=
 FO Yo w w' [v] r ∧ Ky [] w w'
theorem spec_ValueBytes.calls (a0 : Item) (w : World) (F : Nat → Prop) (w0_0 : Value) (w0_1 : Value) (h0_0 : Kd.flt.rd w [w0_0] a0.F F) (h0_1 : Yo.rd w [w0_1] a0.T F) (r : (List Int)) (m : spec_ValueBytes.f a0 = some r) :
  Calls prog 79 #[(.agg #[(iI a0.Kind), (iI a0.N), w0_0, w0_1])] w (RT (spec_ValueBytes.Q w F) r) := by
 obtain ⟨s0, rfl, kp0, z⟩ := Xk w F
 have A0_0 := fl_of h0_0
 have A0_1 := z.rd h0_1
 refine Xd (args := [(.agg #[(iI a0.Kind), (iI a0.N), w0_0, w0_1])]) func79 ntmps79 rfl rfl m ?_
 unfold spec_ValueBytes.f
 refine sr (bx' (cs := [(iI a0.Kind), (iI a0.N), w0_0, w0_1]) 40 rfl rfl (fun b2 s2 p2 B2 => ?_))
 refine Xc rfl (dn (sq (sr (Xw (es := [(iI a0.Kind), (iI a0.N), w0_0, w0_1]) B2 u77 z77 rfl ?_))))
 have K4 := kp0.st p2 rfl
 refine Ym 41 rfl func103 rfl (spec_ItemOk.calls a0 s2.w (mm [0] s2) w0_0 w0_1 ((Ye (s := s2) A0_0).sub (D := [0]) rfl) (A0_1.kp K4)) (fun r6 s7 p7 n7 => ?_)
 refine Xc rfl (Xc rfl (jy [6, 7, 8, 9, 10] [] 10 (.bool ((!r6) || (a0.Kind == (0 : Int)))) rfl (fun Kg8 => ?_) (fun j8 => ?_)))
 ·
  rcases Yn (!r6) with hb8 | hb8
  ·
   exact Xy hb8 (Xj rfl (Xj rfl (Xj rfl (Xc rfl (Kg8 _ (Ag.put ((Ag.put ((Ag.put ((Ag.put (Ag.base rfl) rfl)) rfl)) rfl)) rfl) (by rw [hb8]; rfl))))))
  refine Xy hb8 (Xt fa77_0 rfl ?_)
  exact Yb (B2.st p7 rfl) u3 rfl (Xc rfl (Xc rfl (Kg8 _ (Ag.put ((Ag.put ((Ag.put ((Ag.put (Ag.base rfl) rfl)) rfl)) rfl)) rfl) (by rw [hb8]; rfl))))
 refine dn (cd rfl (fun h10 => ?_) (fun h10 => ?_))
 ·
  refine sr (Xc rfl (dn ?_))
  have K11 := K4.st p7 rfl
  exact re rfl func79 rfl (Xs rfl Xe) rfl ⟨_, rfl, (Yk 5 (Kd.int .u8) s7 40).fo K11 rfl z.l, z.ky K11⟩
 refine sk (sq (zdraw [[], [], [1], [2], [0, 3, 3], [4, 4, 0, 1, 2, 3, 4]] [some 11, some 12, some 13, some 14, some 15, some 2] [[1], [1], [12], [13], [11, 14], [15]] [0, 1, 2, 3, 4, 5] ⟨by kernel_rfl, by kernel_rfl, by kernel_rfl⟩ (by kernel_rfl) (fun s12 p12 l12 tb12 zd12 => ?_)))
 refine Yc 3 [some 11] tb12 (((zd12.add 0 11 (.agg #[(iI a0.Kind), (iI a0.N), w0_0, w0_1]) rfl).add 1 12 (pO b2 2) rfl).add 2 13 w0_0 rfl) (Xa (Xp (B2.st (Xq p7 p12) rfl) u75 rfl) rfl (Xa (Xr fa77_2 rfl) rfl (Xa (lda_q' (es := [(iI a0.Kind), (iI a0.N), w0_0, w0_1]) (B2.st (Xq p7 p12) rfl) u77 z77 rfl) rfl Xg))) (by kernel_rfl) rfl (fun l18 e18 zd18 => ?_)
 refine Ym 42 rfl func106 rfl (spec_FloatBits.calls a0.F s12.w (mm [] s12) w0_0 (Ye (s := s12) A0_0)) (fun r21 s22 p22 n22 => ?_)
 refine Xl (L' := [0]) (D' := [1, 2, 3]) zd18 rfl (fun zd23 => ?_)
 refine zfin [4, 5] tb12 zd23 (Xa (lda_q' (es := [(iI a0.Kind), (iI a0.N), w0_0, w0_1]) (B2.st (Yi p7 p12 p22) rfl) u77 z77 rfl) rfl Xg) (by kernel_rfl) (by decide) ?_
 have K25 := K4.st (Yi p7 p12 p22) rfl
 refine clO 43 rfl func104 rfl (spec_l3bytes.calls a0 r21 s22.w (mm [0] s22) w0_0 w0_1 ((Ye (s := s22) A0_0).sub (D := [0]) rfl) (A0_1.kp K25)) (fun r27 v27_0 s28 p28 A27_0 => ?_)
 refine Yd v27_0 rfl (dn ?_)
 have K30 := K25.st p28 rfl
 exact re rfl func79 rfl (Xs rfl Xe) rfl ⟨_, rfl, A27_0.fo K30 rfl z.l, z.ky K30⟩
def spec_ValueRead.f (a0 : (List Int)) : Option (Item × Bool) :=
 (if ((decide ((a0.length : Int) < (1 : Int))) || (decide ((a0.length : Int) > (41 : Int)))) = true then (some ((Item.mk (0 : Int) (0 : Int) (0 : Nat) ([] : (List Int))), false)) else (if 0 ≤ (0 : Int) ∧ (0 : Int) < (a0.length : Int) then ((if ((IntKind.wrap .i64 (at_ a0 (0 : Int))) == (1 : Int)) = true then (if 0 ≤ (1 : Int) ∧ (1 : Int) ≤ (a0.length : Int) then ((spec_l3low.f (a0.drop ((1 : Int)).toNat)).bind fun r26 => (some ((IntKind.wrap .i64 (ixor .u64 r26 (9223372036854775808 : Int))), (0 : Nat), ([] : (List Int))))) else none) else ((if ((IntKind.wrap .i64 (at_ a0 (0 : Int))) == (2 : Int)) = true then (if 0 ≤ (1 : Int) ∧ (1 : Int) ≤ (a0.length : Int) then ((spec_l3low.f (a0.drop ((1 : Int)).toNat)).bind fun r39 => ((spec_FloatOf.f r39).bind fun r41 => (some (r41, ([] : (List Int)))))) else none) else ((if ((IntKind.wrap .i64 (at_ a0 (0 : Int))) == (3 : Int)) = true then (if 0 ≤ (1 : Int) ∧ (1 : Int) ≤ (a0.length : Int) then (if ([] : (List Int)).length + (a0.drop ((1 : Int)).toNat).length ≤ Lim then (some (([] : (List Int)) ++ (a0.drop ((1 : Int)).toNat))) else none) else none) else (some ([] : (List Int)))).bind fun y48 => (some ((0 : Nat), y48)))).bind fun y33 => (some ((0 : Int), y33.1, y33.2)))).bind fun y20 => ((spec_ValueBytes.f (Item.mk (IntKind.wrap .i64 (at_ a0 (0 : Int))) y20.1 y20.2.1 y20.2.2)).bind fun r90 => (if (!((str r90).toList == (str a0).toList)) = true then (some ((Item.mk (0 : Int) (0 : Int) (0 : Nat) ([] : (List Int))), false)) else (some ((Item.mk (IntKind.wrap .i64 (at_ a0 (0 : Int))) y20.1 y20.2.1 y20.2.2), true))))) else none))
def spec_ValueRead.Q (w : World) (F : Nat → Prop) (r : Item × Bool) (v : Value) (w' : World) : Prop :=
 ∃ (v0 : Value) (v1 : Value), v = .tuple #[(.agg #[(iI r.1.Kind), (iI r.1.N), v0, v1]), (.bool r.2)] ∧ FO kd77 w w' [(iI r.1.Kind), (iI r.1.N), v0, v1] r.1 ∧ Ky [] w w'
theorem spec_ValueRead.calls (a0 : (List Int)) (w : World) (F : Nat → Prop) (w0_0 : Value) (h0_0 : Yo.rd w [w0_0] a0 F) (r : Item × Bool) (m : spec_ValueRead.f a0 = some r) :
  Calls prog 75 #[w0_0] w (RT (spec_ValueRead.Q w F) r) := by
 obtain ⟨s0, rfl, kp0, z⟩ := Xk w F
 have A0_0 := z.rd h0_0
 refine Xd (args := [w0_0]) func75 ntmps75 rfl rfl m ?_
 unfold spec_ValueRead.f
 refine sr (al' (cs := [(iI 0), (iI 0), (.float .f64 0), (.slice none 0 0)]) 40 rfl o77 rfl (fun b2 s2 p2 B2 => ?_))
 refine Xc rfl (dn (sr (al' (cs := [(iI 0), (iI 0), (.float .f64 0), (.slice none 0 0)]) 41 rfl o77 rfl (fun b4 s4 p4 B4 => ?_))))
 refine dn (sq (sr (Xx w0_0 rfl ?_)))
 have K6 := kp0.st (Xq p2 p4) rfl
 have A7 := A0_0.kp K6
 refine Yl A7 u25 rfl (Xc rfl (Xc rfl (jy [8, 9, 10, 11, 12] [] 12 (.bool ((decide ((a0.length : Int) < (1 : Int))) || (decide ((a0.length : Int) > (41 : Int))))) rfl (fun Kg8 => ?_) (fun j8 => ?_))))
 ·
  rcases Yn (decide ((a0.length : Int) < (1 : Int))) with hb8 | hb8
  ·
   exact Xy hb8 (Xj rfl (Xj rfl (Xj rfl (Xc rfl (Kg8 _ (Ag.put ((Ag.put ((Ag.put ((Ag.put (Ag.base rfl) rfl)) rfl)) rfl)) rfl) (by rw [hb8]; rfl))))))
  exact Xy hb8 (Xx w0_0 rfl (Yl A7 u25 rfl (Xc rfl (Xc rfl (Kg8 _ (Ag.put ((Ag.put ((Ag.put ((Ag.put (Ag.base rfl) rfl)) rfl)) rfl)) rfl) (by rw [hb8]; rfl))))))
 refine dn (cd rfl (fun h9 => ?_) (fun h9 => ?_))
 ·
  refine sr (Xw (es := [(iI 0), (iI 0), (.float .f64 0), (.slice none 0 0)]) B4 u77 z77 rfl ?_)
  refine Xu (vs := [(iI 0), (iI 0), (.float .f64 0), (.slice none 0 0)]) (B2.st p4 rfl) z77 rfl (Xb rfl (Xb rfl (Xb (FL.one (Yh rfl)) (Xb rfl Xi)))) rfl (fun s11 p11 B11 => ?_)
  refine Xc rfl (dn ?_)
  have A13 : OwF kd77 s11 [(iI 0), (iI 0), (.float .f64 0), (.slice none 0 0)] (Item.mk (0 : Int) (0 : Int) (0 : Nat) ([] : (List Int))) 42 := ow_z _ _ (Xz (fun x : Item => (x.Kind, x.N, x.F, x.T)) (Item.mk (0 : Int) (0 : Int) (0 : Nat) ([] : (List Int))) (Xh (Xf .i64 (0 : Int)) (Xh (Xf .i64 (0 : Int)) (Xh (Yj (Yh rfl)) (Ya 5 (Kd.int .u8))))))
  have K15 := K6.st p11 rfl
  exact re rfl func75 rfl (r_b B11 u77 rfl z77 rfl (Xs rfl Xe)) rfl ⟨_, rfl, (.float .f64 0), (.slice none 0 0), rfl, A13.fo K15 rfl z.l, z.ky K15⟩
 refine sk (sr (Xx w0_0 rfl (ix' A7 u25 z5 rfl (fun ad16 es16 h0_16 h1_16 he16 ce16 ia16 => ?_))))
 obtain rfl := he16
 refine lc0' ce16 u5 rfl (cv' u3 u5 rfl (Xt fa77_0 rfl (sv' B4 z3 rfl rfl rfl (fun s18 p18 B18 => ?_))))
 refine dn (sq (sr (Xt fa77_0 rfl (Yb B18 u3 rfl (dn (bl (sr (Xc rfl (Xc rfl (dn (jc (fun (y20 : Int × Nat × (List Int)) e w => ∃ (s : St) (e0 : Env) (vy20_0 uy20_0 : Value), w = s.w ∧ e = upd (upd (upd e0 0 w0_0) 2 (pB b2)) 4 (pB b4) ∧ Kp s0 s ∧ OwF Yo s [vy20_0] y20.2.2 46 ∧ FL uy20_0 y20.2.1 ∧ BlF s b4 77 [(iI (IntKind.wrap .i64 (at_ a0 (0 : Int)))), (iI y20.1), uy20_0, vy20_0] 41 ∧ BlF s b2 77 [(iI 0), (iI 0), (.float .f64 0), (.slice none 0 0)] 40) (fun Gj20 Kj20 => ?_) ?_)))))))))))
 ·
  refine cd rfl (fun h21 => ?_) (fun h21 => ?_)
  ·
   refine rg (Xx w0_0 rfl ?_)
   have K22 := K6.st p18 rfl
   refine sla (A0_0.kp K22) u25 z5 rfl rfl rfl rfl rfl rfl rfl (fun v24 A24 => ?_)
   refine Ym 43 rfl func99 rfl (spec_l3low.calls (a0.drop ((1 : Int)).toNat) s18.w (mm [0] s18) v24 A24) (fun r26 s27 p27 n27 => ?_)
   refine Xc rfl (cv' u3 u111 rfl (Xt fa77_1 rfl ?_))
   refine sv' (B18.st p27 rfl) z3 rfl rfl rfl (fun s29 p29 B29 => ?_)
   exact dn (Kj20 _ _ _ ⟨s29, _, (.slice none 0 0), (.float .f64 0), rfl, (ue (ue (ue rfl rfl) rfl) rfl), (K22.st (Xq p27 p29) rfl), (Yk 5 (Kd.int .u8) _ 46), (Yh rfl), B29, (B2.st (tr4 p4 p18 p27 p29) rfl)⟩)
  refine sr (Xc rfl (Xc rfl (dn (jc (fun (y33 : Nat × (List Int)) e w => ∃ (s : St) (e0 : Env) (vy33_0 uy33_0 : Value), w = s.w ∧ e = upd (upd (upd e0 0 w0_0) 2 (pB b2)) 4 (pB b4) ∧ Kp s0 s ∧ OwF Yo s [vy33_0] y33.2 46 ∧ FL uy33_0 y33.1 ∧ BlF s b4 77 [(iI (IntKind.wrap .i64 (at_ a0 (0 : Int)))), (iI 0), uy33_0, vy33_0] 41 ∧ BlF s b2 77 [(iI 0), (iI 0), (.float .f64 0), (.slice none 0 0)] 40) (fun Gj33 Kj33 => ?_) ?_))))
  ·
   refine cd rfl (fun h34 => ?_) (fun h34 => ?_)
   ·
    refine rg (Xx w0_0 rfl ?_)
    have K35 := K6.st p18 rfl
    refine sla (A0_0.kp K35) u25 z5 rfl rfl rfl rfl rfl rfl rfl (fun v37 A37 => ?_)
    refine Ym 44 rfl func99 rfl (spec_l3low.calls (a0.drop ((1 : Int)).toNat) s18.w (mm [0] s18) v37 A37) (fun r39 s40 p40 n40 => ?_)
    refine cl' rfl func101 rfl (spec_FloatOf.calls r39 s40.w (mm [] s40)) ?_
    rintro r41 v41_0 w41 m41 ⟨f41_0, ky41⟩
    obtain ⟨s42, rfl, p42, n42⟩ := nwx s40 w41 45 ky41
    refine Xt fa77_2 rfl (sv' (B18.st (Xq p40 p42) rfl) z75 rfl (FL.one f41_0) rfl (fun s44 p44 B44 => ?_))
    exact dn (Kj33 _ _ _ ⟨s44, _, (.slice none 0 0), v41_0, rfl, (ue (ue (ue rfl rfl) rfl) rfl), (K35.st (Yi p40 p42 p44) rfl), (Yk 5 (Kd.int .u8) _ 46), f41_0, B44, (B2.st (tr5 p4 p18 p40 p42 p44) rfl)⟩)
   refine sr (Xc rfl (Xc rfl (dn (jc (fun (y48 : (List Int)) e w => ∃ (s : St) (e0 : Env) (vy48_0 : Value), w = s.w ∧ e = upd (upd (upd e0 0 w0_0) 2 (pB b2)) 4 (pB b4) ∧ Kp s0 s ∧ OwF Yo s [vy48_0] y48 46 ∧ BlF s b4 77 [(iI (IntKind.wrap .i64 (at_ a0 (0 : Int)))), (iI 0), (.float .f64 0), vy48_0] 41 ∧ BlF s b2 77 [(iI 0), (iI 0), (.float .f64 0), (.slice none 0 0)] 40) (fun Gj48 Kj48 => ?_) ?_))))
   ·
    refine cd rfl (fun h49 => ?_) (fun h49 => ?_)
    ·
     refine rg (lt0 (K := (Kd.int .u8)) 46 u25 z5 rfl rfl rfl rfl rfl (fun v50 s50 p50 A50 => ?_))
     refine Xx w0_0 rfl ?_
     have K52 := K6.st (Xq p18 p50) rfl
     refine sla (A0_0.kp K52) u25 z5 rfl rfl rfl rfl rfl rfl rfl (fun v54 A54 => ?_)
     refine apF' Xv sl25 A50 A54 rfl (fun v56 s56 p56 A56 => ?_)
     refine Xt fa77_3 rfl (sv' (B18.st (Xq p50 p56) rfl) z25 rfl A56.rd.one rfl (fun s59 p59 B59 => ?_))
     exact dn (Kj48 _ _ _ ⟨s59, _, v56, rfl, (ue (ue (ue rfl rfl) rfl) rfl), (K52.st (Xq p56 p59) rfl), (A56.st p59 rfl), B59, (B2.st (tr5 p4 p18 p50 p56 p59) rfl)⟩)
    exact sk (Kj48 _ _ _ ⟨s18, _, (.slice none 0 0), rfl, (ue (ue (ue rfl rfl) rfl) rfl), (K6.st p18 rfl), (Yk 5 (Kd.int .u8) _ 46), B18, (B2.st (Xq p4 p18) rfl)⟩)
   rintro y48 _ _ ⟨s66, _, vy48_0, rfl, rfl, Ky48, Ay48_0, By48_b4, By48_b2⟩
   exact Kj33 _ _ _ ⟨s66, _, vy48_0, (.float .f64 0), rfl, (ue (ue (ue rfl rfl) rfl) rfl), Ky48, Ay48_0, (Yh rfl), By48_b4, By48_b2⟩
  rintro y33 _ _ ⟨s70, _, vy33_0, uy33_0, rfl, rfl, Ky33, Ay33_0, Fy33_0, By33_b4, By33_b2⟩
  exact Kj20 _ _ _ ⟨s70, _, vy33_0, uy33_0, rfl, (ue (ue (ue rfl rfl) rfl) rfl), Ky33, Ay33_0, Fy33_0, By33_b4, By33_b2⟩
 rintro y20 _ _ ⟨s74, _, vy20_0, uy20_0, rfl, rfl, Ky20, Ay20_0, Fy20_0, By20_b4, By20_b2⟩
 refine ib (sq (sq (zdraw [[], [0], [1], [], [3], [2, 4]] [some 43, some 44, some 45, some 46, some 47, some 48] [[4], [43], [44], [0], [46], [45, 47]] [0, 1, 2, 3, 4, 5] ⟨by kernel_rfl, by kernel_rfl, by kernel_rfl⟩ (by kernel_rfl) (fun s78 p78 l78 tb78 zd78 => ?_))))
 refine Yc 1 [some 47, some 46] tb78 (((zd78.add 0 43 (.agg #[(iI (IntKind.wrap .i64 (at_ a0 (0 : Int)))), (iI y20.1), uy20_0, vy20_0]) rfl).add 3 46 w0_0 rfl).add 4 47 (.string (str a0)) rfl) (Xa (b2s_q (A0_0.kp (Ky20.st p78 rfl)) u25 u9 u5 rfl rfl rfl rfl rfl rfl) rfl (Xa (Xn w0_0 rfl) rfl (Xa (lda_q' (es := [(iI (IntKind.wrap .i64 (at_ a0 (0 : Int)))), (iI y20.1), uy20_0, vy20_0]) (By20_b4.st p78 rfl) u77 z77 rfl) rfl Xg))) (by kernel_rfl) rfl (fun l85 e85 zd85 => ?_)
 have A89 := Ay20_0.st p78 rfl
 refine clO 47 rfl func79 rfl (spec_ValueBytes.calls (Item.mk (IntKind.wrap .i64 (at_ a0 (0 : Int))) y20.1 y20.2.1 y20.2.2) s78.w (mm [46] s78) uy20_0 vy20_0 ((Ye (s := s78) Fy20_0).sub (D := [46]) rfl) A89.rd) (fun r90 v90_0 s91 p91 A90_0 => ?_)
 refine Xl (L' := [4, 3]) (D' := [0, 1]) zd85 rfl (fun zd93 => ?_)
 refine zfin [5] tb78 (zd93.add 2 45 (.string (str r90)) rfl) (Xa (b2s_q A90_0.rd u25 u9 u5 rfl rfl rfl rfl rfl rfl) rfl (Xa (b2s_q (A0_0.kp (Ky20.st (Xq p78 p91) rfl)) u25 u9 u5 rfl rfl rfl rfl rfl rfl) rfl (Xa (Xn w0_0 rfl) rfl Xg))) (by kernel_rfl) (by decide) (Xc rfl (dn (cd rfl (fun h97 => ?_) (fun h97 => ?_))))
 ·
  refine sr (bd' (cells := [(iI 0), (iI 0), (.float .f64 0), (.slice none 0 0)]) pl77 o77 rfl rfl ?_)
  refine Xu (vs := [(iI 0), (iI 0), (.float .f64 0), (.slice none 0 0)]) (By20_b2.st (Xq p78 p91) rfl) z77 rfl (Xb rfl (Xb rfl (Xb (FL.one (Yh rfl)) (Xb rfl Xi)))) rfl (fun s99 p99 B99 => ?_)
  refine Xc rfl (dn ?_)
  have A101 : OwF kd77 s99 [(iI 0), (iI 0), (.float .f64 0), (.slice none 0 0)] (Item.mk (0 : Int) (0 : Int) (0 : Nat) ([] : (List Int))) 48 := ow_z _ _ (Xz (fun x : Item => (x.Kind, x.N, x.F, x.T)) (Item.mk (0 : Int) (0 : Int) (0 : Nat) ([] : (List Int))) (Xh (Xf .i64 (0 : Int)) (Xh (Xf .i64 (0 : Int)) (Xh (Yj (Yh rfl)) (Ya 5 (Kd.int .u8))))))
  have K103 := Ky20.st (Yi p78 p91 p99) rfl
  exact re rfl func75 rfl (r_b B99 u77 rfl z77 rfl (Xs rfl Xe)) rfl ⟨_, rfl, (.float .f64 0), (.slice none 0 0), rfl, A101.fo K103 rfl z.l, z.ky K103⟩
 refine sk (sr ?_)
 refine Xw (es := [(iI (IntKind.wrap .i64 (at_ a0 (0 : Int)))), (iI y20.1), uy20_0, vy20_0]) (By20_b4.st (Xq p78 p91) rfl) u77 z77 rfl ?_
 have A106 := A89.st p91 rfl
 refine Xu (vs := [(iI (IntKind.wrap .i64 (at_ a0 (0 : Int)))), (iI y20.1), uy20_0, vy20_0]) (By20_b2.st (Xq p78 p91) rfl) z77 rfl (Xb rfl (Xb rfl (Xb (FL.one Fy20_0) (Xb A106.rd.one Xi)))) rfl (fun s107 p107 B107 => ?_)
 refine Xc rfl (dn ?_)
 have A109 : OwF kd77 s107 [(iI (IntKind.wrap .i64 (at_ a0 (0 : Int)))), (iI y20.1), uy20_0, vy20_0] (Item.mk (IntKind.wrap .i64 (at_ a0 (0 : Int))) y20.1 y20.2.1 y20.2.2) 46 := (Xo (fun x : Item => (x.Kind, x.N, x.F, x.T)) (Item.mk (IntKind.wrap .i64 (at_ a0 (0 : Int))) y20.1 y20.2.1 y20.2.2) (Yg (Xf .i64 (IntKind.wrap .i64 (at_ a0 (0 : Int)))) (Yg (Xf .i64 y20.1) (Yg (Yj Fy20_0) (A106.st p107 rfl)))))
 have K112 := Ky20.st (Yi p78 p91 p107) rfl
 exact re rfl func75 rfl (r_b B107 u77 rfl z77 rfl (Xs rfl Xe)) rfl ⟨_, rfl, uy20_0, vy20_0, rfl, A109.fo K112 rfl z.l, z.ky K112⟩
def spec_TupleOk.f (a0 : Tuple) : Option (Bool) :=
 ((spec_l5in.f a0.Xmin (1 : Int) (400 : Int)).bind fun r5 => ((if r5 = true then ((spec_l5in.f a0.Xmax (0 : Int) (400 : Int)).bind fun r9 => (some r9)) else (some false)).bind fun y7 => ((if y7 = true then ((spec_KeyOk.f a0.Key).bind fun r19 => (some r19)) else (some false)).bind fun y17 => ((if y17 = true then ((spec_ItemOk.f a0.Value).bind fun r27 => (some r27)) else (some false)).bind fun y25 => (some (y25 && (a0.Value.Kind != (0 : Int))))))))
def spec_TupleOk.Q (w : World) (F : Nat → Prop) (r : Bool) (v : Value) (w' : World) : Prop :=
 v = (.bool r) ∧ Ky [] w w'
theorem spec_TupleOk.calls (a0 : Tuple) (w : World) (F : Nat → Prop) (w0_0 : Value) (w0_1 : Value) (w0_2 : Value) (w0_3 : Value) (h0_0 : Kd.flt.rd w [w0_0] a0.Key.F F) (h0_1 : Yo.rd w [w0_1] a0.Key.T F) (h0_2 : Kd.flt.rd w [w0_2] a0.Value.F F) (h0_3 : Yo.rd w [w0_3] a0.Value.T F) (r : Bool) (m : spec_TupleOk.f a0 = some r) :
  Calls prog 77 #[(.agg #[(iI a0.Xmin), (iI a0.Xmax), (iI a0.Key.Kind), (iI a0.Key.N), w0_0, w0_1, (iI a0.Value.Kind), (iI a0.Value.N), w0_2, w0_3])] w (RT (spec_TupleOk.Q w F) r) := by
 obtain ⟨s0, rfl, kp0, z⟩ := Xk w F
 refine Xd (args := [(.agg #[(iI a0.Xmin), (iI a0.Xmax), (iI a0.Key.Kind), (iI a0.Key.N), w0_0, w0_1, (iI a0.Value.Kind), (iI a0.Value.N), w0_2, w0_3])]) func77 ntmps77 rfl rfl m ?_
 unfold spec_TupleOk.f
 refine sr (bx' (cs := [(iI a0.Xmin), (iI a0.Xmax), (iI a0.Key.Kind), (iI a0.Key.N), w0_0, w0_1, (iI a0.Value.Kind), (iI a0.Value.N), w0_2, w0_3]) 40 rfl rfl (fun b3 s3 p3 B3 => ?_))
 refine Xc rfl (dn (sr (Xt fa79_0 rfl (Yb B3 u3 rfl (Ym 41 rfl func45 rfl (spec_l5in.calls a0.Xmin (1 : Int) (400 : Int) s3.w (mm [] s3)) (fun r5 s6 p6 n6 => ?_))))))
 refine Xc rfl (ji [8, 9, 10, 11, 12, 13, 14, 15, 16, 17, 18, 19, 20, 21, 22, 23, 24] (fun (y7 : Bool) e w => ∃ (s : St) (e0 : Env), w = s.w ∧ e = upd (upd e0 1 (pB b3)) 10 (.bool y7) ∧ Kp s0 s ∧ BlF s b3 79 [(iI a0.Xmin), (iI a0.Xmax), (iI a0.Key.Kind), (iI a0.Key.N), w0_0, w0_1, (iI a0.Value.Kind), (iI a0.Value.N), w0_2, w0_3] 40) (fun Gj7 Kj7 => ?_) ?_)
 ·
  rcases Yn r5 with hb7 | hb7
  ·
   refine Xy hb7 ?_
   rw [if_pos hb7]
   refine Xt fa79_1 rfl ?_
   have A8 := B3.st p6 rfl
   refine Yb A8 u3 rfl (Ym 42 rfl func45 rfl (spec_l5in.calls a0.Xmax (0 : Int) (400 : Int) s6.w (mm [] s6)) (fun r9 s10 p10 n10 => ?_))
   exact Xc rfl (Kj7 _ _ _ ⟨s10, _, rfl, (ue (ue rfl rfl) rfl), (kp0.st (Yi p3 p6 p10) rfl), (A8.st p10 rfl)⟩)
  refine Xy hb7 ?_
  rw [if_neg (by rw [hb7]; decide)]
  refine Xj rfl (Xj rfl (Xj rfl (Xc rfl ?_)))
  exact Kj7 _ _ _ ⟨s6, _, rfl, (ue (ue rfl rfl) rfl), (kp0.st (Xq p3 p6) rfl), (B3.st p6 rfl)⟩
 rintro y7 _ _ ⟨s15, _, rfl, rfl, Ky7, By7_b3⟩
 refine Xc rfl (ji [13, 14, 15, 16, 17, 18, 19, 20, 21, 22, 23, 24] (fun (y17 : Bool) e w => ∃ (s : St) (e0 : Env), w = s.w ∧ e = upd (upd e0 1 (pB b3)) 15 (.bool y17) ∧ Kp s0 s ∧ BlF s b3 79 [(iI a0.Xmin), (iI a0.Xmax), (iI a0.Key.Kind), (iI a0.Key.N), w0_0, w0_1, (iI a0.Value.Kind), (iI a0.Value.N), w0_2, w0_3] 40) (fun Gj17 Kj17 => ?_) ?_)
 ·
  rcases Yn y7 with hb17 | hb17
  ·
   refine Xy hb17 ?_
   rw [if_pos hb17]
   refine Xt fa79_2 rfl (Xw (es := [(iI a0.Key.Kind), (iI a0.Key.N), w0_0, w0_1]) By7_b3 u77 z77 rfl ?_)
   refine Ym 43 rfl func102 rfl (spec_KeyOk.calls a0.Key s15.w (mm [0] s15) w0_0 w0_1 ((Ye (s := s15) (fl_of h0_0)).sub (D := [0]) rfl) ((z.rd h0_1).kp Ky7)) (fun r19 s20 p20 n20 => ?_)
   exact Xc rfl (Kj17 _ _ _ ⟨s20, _, rfl, (ue (ue rfl rfl) rfl), (Ky7.st p20 rfl), (By7_b3.st p20 rfl)⟩)
  refine Xy hb17 ?_
  rw [if_neg (by rw [hb17]; decide)]
  exact Xj rfl (Xj rfl (Xj rfl (Xc rfl (Kj17 _ _ _ ⟨s15, _, rfl, (ue (ue rfl rfl) rfl), Ky7, By7_b3⟩))))
 rintro y17 _ _ ⟨s23, _, rfl, rfl, Ky17, By17_b3⟩
 refine Xc rfl (ji [18, 19, 20, 21, 22, 23, 24] (fun (y25 : Bool) e w => ∃ (s : St) (e0 : Env), w = s.w ∧ e = upd (upd e0 1 (pB b3)) 20 (.bool y25) ∧ Kp s0 s ∧ BlF s b3 79 [(iI a0.Xmin), (iI a0.Xmax), (iI a0.Key.Kind), (iI a0.Key.N), w0_0, w0_1, (iI a0.Value.Kind), (iI a0.Value.N), w0_2, w0_3] 40) (fun Gj25 Kj25 => ?_) ?_)
 ·
  rcases Yn y17 with hb25 | hb25
  ·
   refine Xy hb25 ?_
   rw [if_pos hb25]
   refine Xt fa79_3 rfl (Xw (es := [(iI a0.Value.Kind), (iI a0.Value.N), w0_2, w0_3]) By17_b3 u77 z77 rfl ?_)
   refine Ym 44 rfl func103 rfl (spec_ItemOk.calls a0.Value s23.w (mm [0] s23) w0_2 w0_3 ((Ye (s := s23) (fl_of h0_2)).sub (D := [0]) rfl) ((z.rd h0_3).kp Ky17)) (fun r27 s28 p28 n28 => ?_)
   exact Xc rfl (Kj25 _ _ _ ⟨s28, _, rfl, (ue (ue rfl rfl) rfl), (Ky17.st p28 rfl), (By17_b3.st p28 rfl)⟩)
  refine Xy hb25 ?_
  rw [if_neg (by rw [hb25]; decide)]
  exact Xj rfl (Xj rfl (Xj rfl (Xc rfl (Kj25 _ _ _ ⟨s23, _, rfl, (ue (ue rfl rfl) rfl), Ky17, By17_b3⟩))))
 rintro y25 _ _ ⟨s31, _, rfl, rfl, Ky25, By25_b3⟩
 refine Xc rfl (jy [21, 22, 23, 24, 25, 26] [24] 26 (.bool (y25 && (a0.Value.Kind != (0 : Int)))) rfl (fun Kg33 => ?_) (fun j33 => ?_))
 ·
  rcases Yn y25 with hb33 | hb33
  ·
   exact Xy hb33 (Xt fa79_3 rfl (Xt fa77_0 rfl (Yb By25_b3 u3 rfl (Xc rfl (Xc rfl (Kg33 _ (Ag.put ((Ag.put ((Ag.put ((Ag.put ((Ag.put (Ag.base rfl) rfl)) rfl)) rfl)) rfl)) rfl) (by rw [hb33]; rfl)))))))
  exact Xy hb33 (Xj rfl (Xj rfl (Xj rfl (Xj rfl (Xc rfl (Kg33 _ (Ag.put ((Ag.put ((Ag.put ((Ag.put ((Ag.put (Ag.base rfl) rfl)) rfl)) rfl)) rfl)) rfl) (by rw [hb33]; rfl)))))))
 exact Xc rfl (dn (re rfl func77 rfl (Xs rfl Xe) rfl ⟨_, rfl, rfl, z.ky Ky25⟩))
def spec_PutNum.b0 (a1 : Int) (x4 : Int × (List Int) × Int) : Option ((Int × (List Int) × Int) ⊕ (List Int)) :=
 (if (decide (x4.2.2 < a1)) = true then (if x4.2.1.length + ([(IntKind.wrap .u8 (x4.1.tmod (256 : Int)))]).length ≤ Lim then (some (Sum.inl ((IntKind.wrap .i64 (x4.1.tdiv (256 : Int))), (x4.2.1 ++ [(IntKind.wrap .u8 (x4.1.tmod (256 : Int)))]), (IntKind.wrap .i64 (x4.2.2 + (1 : Int)))))) else none) else ((if (decide (x4.1 > (0 : Int))) = true then (some ([] : (List Int))) else (some x4.2.1)).bind fun o => some (Sum.inr o)))
def spec_PutNum.f (a0 : Int) (a1 : Int) : Option ((List Int)) :=
 (if (((decide (a1 < (1 : Int))) || (decide (a1 > (8 : Int)))) || (decide (a0 < (0 : Int)))) = true then (some ([] : (List Int))) else (iter (spec_PutNum.b0 a1) (a0, ([] : (List Int)), (0 : Int))))
def spec_PutNum.Q (w : World) (F : Nat → Prop) (r : (List Int)) (v : Value) (w' : World) : Prop :=
 FO Yo w w' [v] r ∧ Ky [] w w'
theorem spec_PutNum.calls (a0 : Int) (a1 : Int) (w : World) (F : Nat → Prop)   (r : (List Int)) (m : spec_PutNum.f a0 a1 = some r) :
  Calls prog 76 #[(iI a0), (iI a1)] w (RT (spec_PutNum.Q w F) r) := by
 obtain ⟨s0, rfl, kp0, z⟩ := Xk w F
 refine Xd (args := [(iI a0), (iI a1)]) func76 ntmps76 rfl rfl m ?_
 unfold spec_PutNum.f
 refine sr (Xc rfl (dn (sr (Xc rfl (dn (sq (sr (Xc rfl (Xc rfl (Xc rfl (jy [9, 10, 11, 12] [6, 7, 8, 9] 12 (.bool ((decide (a1 < (1 : Int))) || (decide (a1 > (8 : Int))))) rfl (fun Kg1 => ?_) (fun j1 => ?_))))))))))))
 ·
  rcases Yn (decide (a1 < (1 : Int))) with hb1 | hb1
  ·
   exact Xy hb1 (Xj rfl (Xj rfl (Xc rfl (Kg1 _ (Ag.put ((Ag.put ((Ag.put (Ag.base rfl) rfl)) rfl)) rfl) (by rw [hb1]; rfl)))))
  exact Xy hb1 (Xc rfl (Xc rfl (Xc rfl (Kg1 _ (Ag.put ((Ag.put ((Ag.put (Ag.base rfl) rfl)) rfl)) rfl) (by rw [hb1]; rfl)))))
 refine Xc rfl (jy [13, 14, 15, 16] [] 16 (.bool (((decide (a1 < (1 : Int))) || (decide (a1 > (8 : Int)))) || (decide (a0 < (0 : Int))))) rfl (fun Kg2 => ?_) (fun j2 => ?_))
 ·
  rcases Yn ((decide (a1 < (1 : Int))) || (decide (a1 > (8 : Int)))) with hb2 | hb2
  ·
   exact Xy hb2 (Xj rfl (Xj rfl (Xc rfl (Kg2 _ (Ag.put ((Ag.put ((Ag.put (Ag.base rfl) rfl)) rfl)) rfl) (by rw [hb2]; rfl)))))
  exact Xy hb2 (Xc rfl (Xc rfl (Xc rfl (Kg2 _ (Ag.put ((Ag.put ((Ag.put (Ag.base rfl) rfl)) rfl)) rfl) (by rw [hb2]; rfl)))))
 refine dn (cd rfl (fun h3 => ?_) (fun h3 => ?_))
 ·
  exact sr (Xc rfl (Xc rfl (dn (re rfl func76 rfl (Xs rfl Xe) rfl ⟨_, rfl, (Yk 5 (Kd.int .u8) s0 40).fo kp0 rfl z.l, z.ky kp0⟩))))
 refine sk (sq (sr (Xc rfl (dn (bl (lpI (fun (x4 : Int × (List Int) × Int) e w => ∃ (s : St) (e0 : Env) (vx4_0 : Value), w = s.w ∧ e = upd (upd (upd (upd e0 0 (iI x4.1)) 1 (iI a1)) 5 vx4_0) 6 (iI x4.2.2) ∧ Kp s0 s ∧ OwF Yo s [vx4_0] x4.2.1 40) ⟨s0, _, (.slice none 0 0), rfl, (ue (ue (ue (ue rfl rfl) rfl) rfl) rfl), kp0, (Yk 5 (Kd.int .u8) _ 40)⟩ (fun g4 ih4 => ?_)))))))
 rintro x4 _ _ ⟨s5, _, vx4_0, rfl, rfl, Kx4, Ax4_0⟩
 unfold spec_PutNum.b0
 refine sq (sr (Xc rfl (Xc rfl (Xc rfl (dn (cd rfl (fun h7 => ?_) (fun h7 => ?_)))))))
 ·
  refine sk (sq (bl (sr (Xx vx4_0 rfl (Xc rfl (remK rfl rfl rfl rfl rfl rfl rfl rfl (cv' u5 u3 rfl (ltF' (K := (Kd.int .u8)) (cells := [(.int .u8 (IntKind.wrap .u8 (x4.1.tmod (256 : Int))))]) [(IntKind.wrap .u8 (x4.1.tmod (256 : Int)))] 41 Xv u25 z5 o5 (fun w => (Yf _ _ _)) rfl (fun v8 s8 p8 A8 => ?_)))))))))
  refine apF' Xv sl25 (Ax4_0.st p8 rfl) A8.rd rfl (fun v11 s11 p11 A11 => ?_)
  refine Yd v11 rfl (dn (rg (Xc rfl (quoK rfl rfl rfl rfl rfl rfl rfl rfl (Xc rfl (dn (ib (rg (Xc rfl (Xc rfl (Xc rfl (dn ?_))))))))))))
  exact lb ih4 ⟨s11, _, v11, rfl, (ue (ue (ue (ue rfl rfl) rfl) rfl) rfl), (Kx4.st (Xq p8 p11) rfl), A11⟩
 refine xt rfl (sgb (sq (sr (Xc rfl (Xc rfl (dn (cd rfl (fun h14 => ?_) (fun h14 => ?_))))))))
 ·
  exact sr (Xc rfl (dn (re rfl func76 rfl (Xs rfl Xe) rfl ⟨_, rfl, (Yk 5 (Kd.int .u8) s5 40).fo Kx4 rfl z.l, z.ky Kx4⟩)))
 exact sk (sr (Xx vx4_0 rfl (Yd vx4_0 rfl (dn (re rfl func76 rfl (Xs rfl Xe) rfl ⟨_, rfl, Ax4_0.fo Kx4 rfl z.l, z.ky Kx4⟩)))))
def spec_TupleBytes.f (a0 : Tuple) : Option ((List Int)) :=
 ((spec_TupleOk.f a0).bind fun r8 => (if (!r8) = true then (some ([] : (List Int))) else ((spec_KeyBytes.f a0.Key).bind fun r15 => ((spec_ValueBytes.f a0.Value).bind fun r21 => ((spec_PutNum.f a0.Xmin (4 : Int)).bind fun r25 => ((spec_PutNum.f a0.Xmax (4 : Int)).bind fun r29 => (if r25.length + r29.length ≤ Lim then (if (r25 ++ r29).length + ([(IntKind.wrap .u8 (r15.length : Int))]).length ≤ Lim then (if ((r25 ++ r29) ++ [(IntKind.wrap .u8 (r15.length : Int))]).length + r15.length ≤ Lim then (if (((r25 ++ r29) ++ [(IntKind.wrap .u8 (r15.length : Int))]) ++ r15).length + ([(IntKind.wrap .u8 (r21.length : Int))]).length ≤ Lim then (if ((((r25 ++ r29) ++ [(IntKind.wrap .u8 (r15.length : Int))]) ++ r15) ++ [(IntKind.wrap .u8 (r21.length : Int))]).length + r21.length ≤ Lim then (some (((((r25 ++ r29) ++ [(IntKind.wrap .u8 (r15.length : Int))]) ++ r15) ++ [(IntKind.wrap .u8 (r21.length : Int))]) ++ r21)) else none) else none) else none) else none) else none)))))))
def spec_TupleBytes.Q (w : World) (F : Nat → Prop) (r : (List Int)) (v : Value) (w' : World) : Prop :=
 FO Yo w w' [v] r ∧ Ky [] w w'
theorem spec_TupleBytes.calls (a0 : Tuple) (w : World) (F : Nat → Prop) (w0_0 : Value) (w0_1 : Value) (w0_2 : Value) (w0_3 : Value) (h0_0 : Kd.flt.rd w [w0_0] a0.Key.F F) (h0_1 : Yo.rd w [w0_1] a0.Key.T F) (h0_2 : Kd.flt.rd w [w0_2] a0.Value.F F) (h0_3 : Yo.rd w [w0_3] a0.Value.T F) (r : (List Int)) (m : spec_TupleBytes.f a0 = some r) :
  Calls prog 50 #[(.agg #[(iI a0.Xmin), (iI a0.Xmax), (iI a0.Key.Kind), (iI a0.Key.N), w0_0, w0_1, (iI a0.Value.Kind), (iI a0.Value.N), w0_2, w0_3])] w (RT (spec_TupleBytes.Q w F) r) := by
 obtain ⟨s0, rfl, kp0, z⟩ := Xk w F
 have A0_0 := fl_of h0_0
 have A0_1 := z.rd h0_1
 have A0_2 := fl_of h0_2
 have A0_3 := z.rd h0_3
 refine Xd (args := [(.agg #[(iI a0.Xmin), (iI a0.Xmax), (iI a0.Key.Kind), (iI a0.Key.N), w0_0, w0_1, (iI a0.Value.Kind), (iI a0.Value.N), w0_2, w0_3])]) func50 ntmps50 rfl rfl m ?_
 unfold spec_TupleBytes.f
 refine sr (bx' (cs := [(iI a0.Xmin), (iI a0.Xmax), (iI a0.Key.Kind), (iI a0.Key.N), w0_0, w0_1, (iI a0.Value.Kind), (iI a0.Value.N), w0_2, w0_3]) 40 rfl rfl (fun b3 s3 p3 B3 => ?_))
 refine Xc rfl (dn (sq (sr (Xw (es := [(iI a0.Xmin), (iI a0.Xmax), (iI a0.Key.Kind), (iI a0.Key.N), w0_0, w0_1, (iI a0.Value.Kind), (iI a0.Value.N), w0_2, w0_3]) B3 u79 z79 rfl ?_))))
 have K5 := kp0.st p3 rfl
 refine Ym 41 rfl func77 rfl (spec_TupleOk.calls a0 s3.w (mm [0] s3) w0_0 w0_1 w0_2 w0_3 ((Ye (s := s3) A0_0).sub (D := [0]) rfl) (A0_1.kp K5) ((Ye (s := s3) A0_2).sub (D := [0]) rfl) (A0_3.kp K5)) (fun r8 s9 p9 n9 => ?_)
 refine Xc rfl (dn (cd rfl (fun h10 => ?_) (fun h10 => ?_)))
 ·
  refine sr (Xc rfl (dn ?_))
  have K11 := K5.st p9 rfl
  exact re rfl func50 rfl (Xs rfl Xe) rfl ⟨_, rfl, (Yk 5 (Kd.int .u8) s9 40).fo K11 rfl z.l, z.ky K11⟩
 refine sk (sr (Xt fa79_2 rfl ?_))
 have A12 := B3.st p9 rfl
 refine Xw (es := [(iI a0.Key.Kind), (iI a0.Key.N), w0_0, w0_1]) A12 u77 z77 rfl ?_
 have K13 := K5.st p9 rfl
 refine clO 42 rfl func78 rfl (spec_KeyBytes.calls a0.Key s9.w (mm [0] s9) w0_0 w0_1 ((Ye (s := s9) A0_0).sub (D := [0]) rfl) (A0_1.kp K13)) (fun r15 v15_0 s16 p16 A15_0 => ?_)
 refine Yd v15_0 rfl (dn (sr (Xt fa79_3 rfl ?_)))
 have A18 := A12.st p16 rfl
 refine Xw (es := [(iI a0.Value.Kind), (iI a0.Value.N), w0_2, w0_3]) A18 u77 z77 rfl ?_
 have K19 := K13.st p16 rfl
 refine clO 43 rfl func79 rfl (spec_ValueBytes.calls a0.Value s16.w (mm [0] s16) w0_2 w0_3 ((Ye (s := s16) A0_2).sub (D := [0]) rfl) (A0_3.kp K19)) (fun r21 v21_0 s22 p22 A21_0 => ?_)
 refine Yd v21_0 rfl (dn (sr (Xt fa79_0 rfl ?_)))
 have A24 := A18.st p22 rfl
 refine Yb A24 u3 rfl (clO 44 rfl func76 rfl (spec_PutNum.calls a0.Xmin (4 : Int) s22.w (mm [] s22)) (fun r25 v25_0 s26 p26 A25_0 => ?_))
 refine Yd v25_0 rfl (dn (sr (Xx v25_0 rfl (Xt fa79_1 rfl ?_))))
 refine Yb (A24.st p26 rfl) u3 rfl (clO 45 rfl func76 rfl (spec_PutNum.calls a0.Xmax (4 : Int) s26.w (mm [] s26)) (fun r29 v29_0 s30 p30 A29_0 => ?_))
 refine apF' Xv sl25 (A25_0.st p30 rfl) A29_0.rd rfl (fun v33 s33 p33 A33 => ?_)
 refine Yd v33 rfl (dn (sr (Xx v33 rfl (Xx v15_0 rfl ?_))))
 have A35 := A15_0.st (tr4 p22 p26 p30 p33) rfl
 refine Yl A35.rd u25 rfl (cv' u5 u3 rfl (ltF' (K := (Kd.int .u8)) (cells := [(.int .u8 (IntKind.wrap .u8 (r15.length : Int)))]) [(IntKind.wrap .u8 (r15.length : Int))] 46 Xv u25 z5 o5 (fun w => (Yf _ _ _)) rfl (fun v36 s36 p36 A36 => ?_)))
 refine apF' Xv sl25 (A33.st p36 rfl) A36.rd rfl (fun v39 s39 p39 A39 => ?_)
 refine Yd v39 rfl (dn (sr (Xx v39 rfl (Xx v15_0 rfl ?_))))
 refine apF' Xv sl25 A39 (A35.st (Xq p36 p39) rfl).rd rfl (fun v42 s42 p42 A42 => ?_)
 refine Yd v42 rfl (dn (sr (Xx v42 rfl (Xx v21_0 rfl ?_))))
 have A44 := A21_0.st (tr6 p26 p30 p33 p36 p39 p42) rfl
 refine Yl A44.rd u25 rfl (cv' u5 u3 rfl (ltF' (K := (Kd.int .u8)) (cells := [(.int .u8 (IntKind.wrap .u8 (r21.length : Int)))]) [(IntKind.wrap .u8 (r21.length : Int))] 47 Xv u25 z5 o5 (fun w => (Yf _ _ _)) rfl (fun v45 s45 p45 A45 => ?_)))
 refine apF' Xv sl25 (A42.st p45 rfl) A45.rd rfl (fun v48 s48 p48 A48 => ?_)
 refine Yd v48 rfl (dn (sr (Xx v48 rfl (Xx v21_0 rfl ?_))))
 refine apF' Xv sl25 A48 (A44.st (Xq p45 p48) rfl).rd rfl (fun v51 s51 p51 A51 => ?_)
 refine Yd v51 rfl (dn ?_)
 have K53 := K19.st (tr10 p22 p26 p30 p33 p36 p39 p42 p45 p48 p51) rfl
 exact re rfl func50 rfl (Xs rfl Xe) rfl ⟨_, rfl, A51.fo K53 rfl z.l, z.ky K53⟩
def spec_TupleRead.f (a0 : (List Int)) : Option (Tuple × Bool) :=
 (if ((decide ((a0.length : Int) < (10 : Int))) || (decide ((a0.length : Int) > (92 : Int)))) = true then (some ((Tuple.mk (0 : Int) (0 : Int) (Item.mk (0 : Int) (0 : Int) (0 : Nat) ([] : (List Int))) (Item.mk (0 : Int) (0 : Int) (0 : Nat) ([] : (List Int)))), false)) else ((spec_GetNum.f a0 (0 : Int) (4 : Int)).bind fun r16 => ((spec_GetNum.f a0 (4 : Int) (4 : Int)).bind fun r23 => (if 0 ≤ (8 : Int) ∧ (8 : Int) < (a0.length : Int) then (if (decide ((IntKind.wrap .i64 (at_ a0 (8 : Int))) > (IntKind.wrap .i64 ((a0.length : Int) - (10 : Int))))) = true then (some ((Tuple.mk (0 : Int) (0 : Int) (Item.mk (0 : Int) (0 : Int) (0 : Nat) ([] : (List Int))) (Item.mk (0 : Int) (0 : Int) (0 : Nat) ([] : (List Int)))), false)) else (if 0 ≤ (9 : Int) ∧ (9 : Int) ≤ (IntKind.wrap .i64 ((9 : Int) + (IntKind.wrap .i64 (at_ a0 (8 : Int))))) ∧ (IntKind.wrap .i64 ((9 : Int) + (IntKind.wrap .i64 (at_ a0 (8 : Int))))) ≤ (a0.length : Int) then ((spec_KeyRead.f ((a0.take ((IntKind.wrap .i64 ((9 : Int) + (IntKind.wrap .i64 (at_ a0 (8 : Int)))))).toNat).drop ((9 : Int)).toNat)).bind fun r41 => (if 0 ≤ (IntKind.wrap .i64 ((10 : Int) + (IntKind.wrap .i64 (at_ a0 (8 : Int))))) ∧ (IntKind.wrap .i64 ((10 : Int) + (IntKind.wrap .i64 (at_ a0 (8 : Int))))) ≤ (a0.length : Int) then ((spec_ValueRead.f (a0.drop ((IntKind.wrap .i64 ((10 : Int) + (IntKind.wrap .i64 (at_ a0 (8 : Int)))))).toNat)).bind fun r53 => ((if (!r41.2) = true then (some true) else ((if (!r53.2) = true then (some true) else ((spec_TupleBytes.f (Tuple.mk r16.1 r23.1 r41.1 r53.1)).bind fun r116 => (some (!((str r116).toList == (str a0).toList))))).bind fun y93 => (some y93))).bind fun y74 => (if y74 = true then (some ((Tuple.mk (0 : Int) (0 : Int) (Item.mk (0 : Int) (0 : Int) (0 : Nat) ([] : (List Int))) (Item.mk (0 : Int) (0 : Int) (0 : Nat) ([] : (List Int)))), false)) else (some ((Tuple.mk r16.1 r23.1 r41.1 r53.1), true))))) else none)) else none)) else none))))
def spec_TupleRead.Q (w : World) (F : Nat → Prop) (r : Tuple × Bool) (v : Value) (w' : World) : Prop :=
 ∃ (v0 : Value) (v1 : Value) (v2 : Value) (v3 : Value), v = .tuple #[(.agg #[(iI r.1.Xmin), (iI r.1.Xmax), (iI r.1.Key.Kind), (iI r.1.Key.N), v0, v1, (iI r.1.Value.Kind), (iI r.1.Value.N), v2, v3]), (.bool r.2)] ∧ FO kd79 w w' [(iI r.1.Xmin), (iI r.1.Xmax), (iI r.1.Key.Kind), (iI r.1.Key.N), v0, v1, (iI r.1.Value.Kind), (iI r.1.Value.N), v2, v3] r.1 ∧ Ky [] w w'
theorem spec_TupleRead.calls (a0 : (List Int)) (w : World) (F : Nat → Prop) (w0_0 : Value) (h0_0 : Yo.rd w [w0_0] a0 F) (r : Tuple × Bool) (m : spec_TupleRead.f a0 = some r) :
  Calls prog 44 #[w0_0] w (RT (spec_TupleRead.Q w F) r) := by
 obtain ⟨s0, rfl, kp0, z⟩ := Xk w F
 have A0_0 := z.rd h0_0
 refine Xd (args := [w0_0]) func44 ntmps44 rfl rfl m ?_
 unfold spec_TupleRead.f
 refine sr (al' (cs := [(iI 0), (iI 0), (iI 0), (iI 0), (.float .f64 0), (.slice none 0 0), (iI 0), (iI 0), (.float .f64 0), (.slice none 0 0)]) 40 rfl o79 rfl (fun b2 s2 p2 B2 => ?_))
 refine Xc rfl (dn (sr (al' (cs := [(iI 0), (iI 0), (iI 0), (iI 0), (.float .f64 0), (.slice none 0 0), (iI 0), (iI 0), (.float .f64 0), (.slice none 0 0)]) 41 rfl o79 rfl (fun b4 s4 p4 B4 => ?_))))
 refine dn (sq (sr (Xx w0_0 rfl ?_)))
 have K6 := kp0.st (Xq p2 p4) rfl
 have A7 := A0_0.kp K6
 refine Yl A7 u25 rfl (Xc rfl (Xc rfl (jy [13, 14, 15, 16, 17] [] 17 (.bool ((decide ((a0.length : Int) < (10 : Int))) || (decide ((a0.length : Int) > (92 : Int))))) rfl (fun Kg8 => ?_) (fun j8 => ?_))))
 ·
  rcases Yn (decide ((a0.length : Int) < (10 : Int))) with hb8 | hb8
  ·
   exact Xy hb8 (Xj rfl (Xj rfl (Xj rfl (Xc rfl (Kg8 _ (Ag.put ((Ag.put ((Ag.put ((Ag.put (Ag.base rfl) rfl)) rfl)) rfl)) rfl) (by rw [hb8]; rfl))))))
  exact Xy hb8 (Xx w0_0 rfl (Yl A7 u25 rfl (Xc rfl (Xc rfl (Kg8 _ (Ag.put ((Ag.put ((Ag.put ((Ag.put (Ag.base rfl) rfl)) rfl)) rfl)) rfl) (by rw [hb8]; rfl))))))
 refine dn (cd rfl (fun h9 => ?_) (fun h9 => ?_))
 ·
  refine sr (Xw (es := [(iI 0), (iI 0), (iI 0), (iI 0), (.float .f64 0), (.slice none 0 0), (iI 0), (iI 0), (.float .f64 0), (.slice none 0 0)]) B4 u79 z79 rfl ?_)
  refine Xu (vs := [(iI 0), (iI 0), (iI 0), (iI 0), (.float .f64 0), (.slice none 0 0), (iI 0), (iI 0), (.float .f64 0), (.slice none 0 0)]) (B2.st p4 rfl) z79 rfl (Xb rfl (Xb rfl (Xb rfl (Xb rfl (Xb (FL.one (Yh rfl)) (Xb rfl (Xb rfl (Xb rfl (Xb (FL.one (Yh rfl)) (Xb rfl Xi)))))))))) rfl (fun s11 p11 B11 => ?_)
  refine Xc rfl (dn ?_)
  have A13 : OwF kd79 s11 [(iI 0), (iI 0), (iI 0), (iI 0), (.float .f64 0), (.slice none 0 0), (iI 0), (iI 0), (.float .f64 0), (.slice none 0 0)] (Tuple.mk (0 : Int) (0 : Int) (Item.mk (0 : Int) (0 : Int) (0 : Nat) ([] : (List Int))) (Item.mk (0 : Int) (0 : Int) (0 : Nat) ([] : (List Int)))) 42 := ow_z _ _ (Xz (fun x : Tuple => (x.Xmin, x.Xmax, x.Key, x.Value)) (Tuple.mk (0 : Int) (0 : Int) (Item.mk (0 : Int) (0 : Int) (0 : Nat) ([] : (List Int))) (Item.mk (0 : Int) (0 : Int) (0 : Nat) ([] : (List Int)))) (Xh (Xf .i64 (0 : Int)) (Xh (Xf .i64 (0 : Int)) (Xh (Xz (fun x : Item => (x.Kind, x.N, x.F, x.T)) (Item.mk (0 : Int) (0 : Int) (0 : Nat) ([] : (List Int))) (Xh (Xf .i64 (0 : Int)) (Xh (Xf .i64 (0 : Int)) (Xh (Yj (Yh rfl)) (Ya 5 (Kd.int .u8)))))) (Xz (fun x : Item => (x.Kind, x.N, x.F, x.T)) (Item.mk (0 : Int) (0 : Int) (0 : Nat) ([] : (List Int))) (Xh (Xf .i64 (0 : Int)) (Xh (Xf .i64 (0 : Int)) (Xh (Yj (Yh rfl)) (Ya 5 (Kd.int .u8))))))))))
  have K15 := K6.st p11 rfl
  exact re rfl func44 rfl (r_b B11 u79 rfl z79 rfl (Xs rfl Xe)) rfl ⟨_, rfl, (.float .f64 0), (.slice none 0 0), (.float .f64 0), (.slice none 0 0), rfl, A13.fo K15 rfl z.l, z.ky K15⟩
 refine sk (sr (Xx w0_0 rfl (Ym 43 rfl func47 rfl (spec_GetNum.calls a0 (0 : Int) (4 : Int) s4.w (mm [0] s4) w0_0 A7) (fun r16 s17 p17 n17 => ?_))))
 refine Xc rfl (Xc (v := (iI r16.1)) rfl (Xc (v := (.bool r16.2)) rfl (Xt fa79_0 rfl ?_)))
 refine sv' (B4.st p17 rfl) z3 rfl rfl rfl (fun s19 p19 B19 => ?_)
 refine dn (sr (Xx w0_0 rfl ?_))
 have K21 := K6.st (Xq p17 p19) rfl
 refine Ym 44 rfl func47 rfl (spec_GetNum.calls a0 (4 : Int) (4 : Int) s19.w (mm [0] s19) w0_0 (A0_0.kp K21)) (fun r23 s24 p24 n24 => ?_)
 refine Xc rfl (Xc (v := (iI r23.1)) rfl (Xc (v := (.bool r23.2)) rfl (Xt fa79_1 rfl ?_)))
 refine sv' (B19.st p24 rfl) z3 rfl rfl rfl (fun s26 p26 B26 => ?_)
 refine dn (sr (Xx w0_0 rfl ?_))
 have K28 := K21.st (Xq p24 p26) rfl
 have A29 := A0_0.kp K28
 refine ix' A29 u25 z5 rfl (fun ad30 es30 h0_30 h1_30 he30 ce30 ia30 => ?_)
 obtain rfl := he30
 refine lc0' ce30 u5 rfl (cv' u3 u5 rfl (Xc rfl (dn (sq (sr (Xc rfl (Xx w0_0 rfl (Yl A29 u25 rfl (Xc rfl (Xc rfl (dn (cd rfl (fun h32 => ?_) (fun h32 => ?_)))))))))))))
 ·
  refine sr (bd' (cells := [(iI 0), (iI 0), (iI 0), (iI 0), (.float .f64 0), (.slice none 0 0), (iI 0), (iI 0), (.float .f64 0), (.slice none 0 0)]) pl79 o79 rfl rfl ?_)
  refine Xu (vs := [(iI 0), (iI 0), (iI 0), (iI 0), (.float .f64 0), (.slice none 0 0), (iI 0), (iI 0), (.float .f64 0), (.slice none 0 0)]) (B2.st (tr5 p4 p17 p19 p24 p26) rfl) z79 rfl (Xb rfl (Xb rfl (Xb rfl (Xb rfl (Xb (FL.one (Yh rfl)) (Xb rfl (Xb rfl (Xb rfl (Xb (FL.one (Yh rfl)) (Xb rfl Xi)))))))))) rfl (fun s34 p34 B34 => ?_)
  refine Xc rfl (dn ?_)
  have A36 : OwF kd79 s34 [(iI 0), (iI 0), (iI 0), (iI 0), (.float .f64 0), (.slice none 0 0), (iI 0), (iI 0), (.float .f64 0), (.slice none 0 0)] (Tuple.mk (0 : Int) (0 : Int) (Item.mk (0 : Int) (0 : Int) (0 : Nat) ([] : (List Int))) (Item.mk (0 : Int) (0 : Int) (0 : Nat) ([] : (List Int)))) 45 := ow_z _ _ (Xz (fun x : Tuple => (x.Xmin, x.Xmax, x.Key, x.Value)) (Tuple.mk (0 : Int) (0 : Int) (Item.mk (0 : Int) (0 : Int) (0 : Nat) ([] : (List Int))) (Item.mk (0 : Int) (0 : Int) (0 : Nat) ([] : (List Int)))) (Xh (Xf .i64 (0 : Int)) (Xh (Xf .i64 (0 : Int)) (Xh (Xz (fun x : Item => (x.Kind, x.N, x.F, x.T)) (Item.mk (0 : Int) (0 : Int) (0 : Nat) ([] : (List Int))) (Xh (Xf .i64 (0 : Int)) (Xh (Xf .i64 (0 : Int)) (Xh (Yj (Yh rfl)) (Ya 5 (Kd.int .u8)))))) (Xz (fun x : Item => (x.Kind, x.N, x.F, x.T)) (Item.mk (0 : Int) (0 : Int) (0 : Nat) ([] : (List Int))) (Xh (Xf .i64 (0 : Int)) (Xh (Xf .i64 (0 : Int)) (Xh (Yj (Yh rfl)) (Ya 5 (Kd.int .u8))))))))))
  have K38 := K28.st p34 rfl
  exact re rfl func44 rfl (r_b B34 u79 rfl z79 rfl (Xs rfl Xe)) rfl ⟨_, rfl, (.float .f64 0), (.slice none 0 0), (.float .f64 0), (.slice none 0 0), rfl, A36.fo K38 rfl z.l, z.ky K38⟩
 refine sk (sr (Xx w0_0 rfl (Xc rfl (Xc rfl (slb A29 u25 z5 rfl rfl rfl rfl rfl rfl rfl rfl (fun v39 A39 => ?_))))))
 refine cl' rfl func74 rfl (spec_KeyRead.calls ((a0.take ((IntKind.wrap .i64 ((9 : Int) + (IntKind.wrap .i64 (at_ a0 (8 : Int)))))).toNat).drop ((9 : Int)).toNat) s26.w (mm [0] s26) v39 A39) ?_
 rintro r41 _ w41 m41 ⟨v41_0, v41_1, rfl, f41_0, ky41⟩
 obtain ⟨s42, rfl, p42, n42⟩ := nwx s26 w41 46 ky41
 obtain ⟨hu41_0_0, Au41_0_1⟩ := ap77 (f41_0.c n42)
 refine Xc rfl (Xc (v := (.agg #[(iI r41.1.Kind), (iI r41.1.N), v41_0, v41_1])) rfl (Xc (v := (.bool r41.2)) rfl (al' (cs := [(iI 0), (iI 0), (.float .f64 0), (.slice none 0 0)]) 47 rfl o77 rfl (fun b44 s44 p44 B44 => ?_))))
 have A46 := Au41_0_1.st p44 rfl
 refine Xu (vs := [(iI r41.1.Kind), (iI r41.1.N), v41_0, v41_1]) B44 z77 rfl (Xb rfl (Xb rfl (Xb (FL.one hu41_0_0) (Xb A46.rd.one Xi)))) rfl (fun s47 p47 B47 => ?_)
 refine Xc rfl (dn (sr (Xx w0_0 rfl (Xc rfl (Xc rfl ?_)))))
 have K49 := K28.st (Yi p42 p44 p47) rfl
 refine sla (A0_0.kp K49) u25 z5 rfl rfl rfl rfl rfl rfl rfl (fun v51 A51 => ?_)
 refine cl' rfl func75 rfl (spec_ValueRead.calls (a0.drop ((IntKind.wrap .i64 ((10 : Int) + (IntKind.wrap .i64 (at_ a0 (8 : Int)))))).toNat) s47.w (mm [0] s47) v51 A51) ?_
 rintro r53 _ w53 m53 ⟨v53_0, v53_1, rfl, f53_0, ky53⟩
 obtain ⟨s54, rfl, p54, n54⟩ := nwx s47 w53 48 ky53
 obtain ⟨hu53_0_0, Au53_0_1⟩ := ap77 (f53_0.c n54)
 refine Xc rfl (Xc (v := (.agg #[(iI r53.1.Kind), (iI r53.1.N), v53_0, v53_1])) rfl (Xc (v := (.bool r53.2)) rfl (al' (cs := [(iI 0), (iI 0), (.float .f64 0), (.slice none 0 0)]) 49 rfl o77 rfl (fun b56 s56 p56 B56 => ?_))))
 have A58 := Au53_0_1.st p56 rfl
 refine Xu (vs := [(iI r53.1.Kind), (iI r53.1.N), v53_0, v53_1]) B56 z77 rfl (Xb rfl (Xb rfl (Xb (FL.one hu53_0_0) (Xb A58.rd.one Xi)))) rfl (fun s59 p59 B59 => ?_)
 refine Xc rfl (dn (sr ?_))
 refine Xw (es := [(iI r41.1.Kind), (iI r41.1.N), v41_0, v41_1]) (B47.st (Yi p54 p56 p59) rfl) u77 z77 rfl (Xt fa79_2 rfl ?_)
 have A63 := A46.st (tr4 p47 p54 p56 p59) rfl
 refine Xu (vs := [(iI r41.1.Kind), (iI r41.1.N), v41_0, v41_1]) (B26.st (tr6 p42 p44 p47 p54 p56 p59) rfl) z77 rfl (Xb rfl (Xb rfl (Xb (FL.one hu41_0_0) (Xb A63.rd.one Xi)))) rfl (fun s64 p64 B64 => ?_)
 refine dn (sr ?_)
 refine Xw (es := [(iI r53.1.Kind), (iI r53.1.N), v53_0, v53_1]) (B59.st p64 rfl) u77 z77 rfl (Xt fa79_3 rfl ?_)
 have A67 := A58.st (Xq p59 p64) rfl
 refine Xu (vs := [(iI r53.1.Kind), (iI r53.1.N), v53_0, v53_1]) B64 z77 rfl (Xb rfl (Xb rfl (Xb (FL.one hu53_0_0) (Xb A67.rd.one Xi)))) rfl (fun s68 p68 B68 => ?_)
 refine dn (sq (sq (zdraw [[], [0], [1], [2], [3, 2], [2, 4], [5, 2], [6], [7, 6, 6], [8, 6], [6], [10, 6], [9, 11, 6], [6, 12]] [some 61, some 62, some 63, some 64, some 65, some 66, some 67, some 68, some 69, some 70, some 71, some 72, some 73, some 74] [[7], [61], [62], [9, 63], [64, 63], [63, 65], [66], [4, 67], [68, 67], [69, 67], [0, 67], [71, 67], [70, 72, 67], [67, 73]] [0, 1, 2, 3, 4, 5, 6, 7, 8, 9, 10, 11, 12, 13] ⟨by kernel_rfl, by kernel_rfl, by kernel_rfl⟩ (by kernel_rfl) (fun s70 p70 l70 tb70 zd70 => ?_))))
 have zd73 := ((zd70.add 0 61 (.bool r41.2) rfl).add 1 62 (.bool (!r41.2)) rfl).add 2 63 (.bool (!r41.2)) rfl
 refine ji [] (fun (y74 : Bool) e w => ∃ (s : St) (e0 : Env), w = s.w ∧ e = upd (upd (upd e0 2 (pB b2)) 4 (pB b4)) 74 (.bool y74) ∧ Kp s0 s ∧ BlF s b4 79 [(iI r16.1), (iI r23.1), (iI r41.1.Kind), (iI r41.1.N), v41_0, v41_1, (iI r53.1.Kind), (iI r53.1.N), v53_0, v53_1] 41 ∧ BlF s b2 79 [(iI 0), (iI 0), (iI 0), (iI 0), (.float .f64 0), (.slice none 0 0), (iI 0), (iI 0), (.float .f64 0), (.slice none 0 0)] 40 ∧ OwF Yo s [v41_1] r41.1.T 46 ∧ OwF Yo s [v53_1] r53.1.T 48) (fun Gj74 Kj74 => ?_) ?_
 ·
  rcases Yn (!r41.2) with hb74 | hb74
  ·
   rw [if_pos hb74]
   rw [hb74] at zd73
   try rw [hb74]
   refine zfin [12, 13] tb70 (((((((((zd73.add 3 64 undef rfl).add 4 65 undef rfl).add 5 66 (.bool true) rfl).add 6 67 (.bool true) rfl).add 7 68 undef rfl).add 8 69 undef rfl).add 9 70 undef rfl).add 10 71 undef rfl).add 11 72 undef rfl) (Xa (uw_q rfl rfl rfl rfl rfl) rfl (Xa (uw_q rfl rfl rfl rfl rfl) rfl (Xa (uw_q rfl rfl rfl rfl rfl) rfl (Xa (uw_q rfl rfl rfl rfl rfl) rfl (Xa (uw_q rfl rfl rfl rfl rfl) rfl (Xa (Xm rfl) rfl (Xa (Xm rfl) rfl (Xa (uw_q rfl rfl rfl rfl rfl) rfl (Xa (uw_q rfl rfl rfl rfl rfl) rfl (Xa (Xm rfl) rfl (Xa (qv_b (Xm rfl) hb74) rfl (Xa (Xm rfl) rfl Xg)))))))))))) (by kernel_rfl) (by decide) (Xj rfl (Xc rfl ?_))
   exact Kj74 _ _ _ ⟨s70, _, rfl, (ue (ue (ue rfl rfl) rfl) rfl), (K49.st (tr6 p54 p56 p59 p64 p68 p70) rfl), (B68.st p70 rfl), (B2.st (Yi (tr12 p4 p17 p19 p24 p26 p42 p44 p47 p54 p56 p59 p64) p68 p70) rfl), (A63.st (Yi p64 p68 p70) rfl), (A67.st (Xq p68 p70) rfl)⟩
  rw [if_neg (by rw [hb74]; decide)]
  rw [hb74] at zd73
  try rw [hb74]
  have zd92 := (((zd73.add 3 64 (.bool r53.2) rfl).add 4 65 (.bool (!r53.2)) rfl).add 5 66 (.bool (!r53.2)) rfl).add 6 67 (.bool (!r53.2)) rfl
  refine ji [] (fun (y93 : Bool) e w => ∃ (s : St) (e0 : Env), w = s.w ∧ e = upd (upd (upd e0 2 (pB b2)) 4 (pB b4)) 74 (.bool y93) ∧ Kp s0 s ∧ BlF s b4 79 [(iI r16.1), (iI r23.1), (iI r41.1.Kind), (iI r41.1.N), v41_0, v41_1, (iI r53.1.Kind), (iI r53.1.N), v53_0, v53_1] 41 ∧ BlF s b2 79 [(iI 0), (iI 0), (iI 0), (iI 0), (.float .f64 0), (.slice none 0 0), (iI 0), (iI 0), (.float .f64 0), (.slice none 0 0)] 40 ∧ OwF Yo s [v41_1] r41.1.T 46 ∧ OwF Yo s [v53_1] r53.1.T 48) (fun Gj93 Kj93 => ?_) ?_
  ·
   rcases Yn (!r53.2) with hb93 | hb93
   ·
    rw [if_pos hb93]
    rw [hb93] at zd92
    try rw [hb93]
    refine zfin [12, 13] tb70 (((((zd92.add 7 68 undef rfl).add 8 69 undef rfl).add 9 70 undef rfl).add 10 71 undef rfl).add 11 72 undef rfl) (Xa (uw_q rfl rfl rfl rfl rfl) rfl (Xa (uw_q rfl rfl rfl rfl rfl) rfl (Xa (uw_q rfl rfl rfl rfl rfl) rfl (Xa (uw_q rfl rfl rfl rfl rfl) rfl (Xa (uw_q rfl rfl rfl rfl rfl) rfl (Xa (Xm rfl) rfl (Xa (Xm rfl) rfl (Xa (qv_b (Xm rfl) hb93) rfl (Xa (Xm rfl) rfl (Xa (Xm rfl) rfl (Xa (qv_b (Xm rfl) hb74) rfl (Xa (Xm rfl) rfl Xg)))))))))))) (by kernel_rfl) (by decide) (Xj rfl (Xc rfl ?_))
    exact Kj93 _ _ _ ⟨s70, _, rfl, (ue (ue (ue rfl rfl) rfl) rfl), (K49.st (tr6 p54 p56 p59 p64 p68 p70) rfl), (B68.st p70 rfl), (B2.st (Yi (tr12 p4 p17 p19 p24 p26 p42 p44 p47 p54 p56 p59 p64) p68 p70) rfl), (A63.st (Yi p64 p68 p70) rfl), (A67.st (Xq p68 p70) rfl)⟩
   rw [if_neg (by rw [hb93]; decide)]
   rw [hb93] at zd92
   try rw [hb93]
   refine Yc 8 [some 72, some 71] tb70 (((zd92.add 7 68 (.agg #[(iI r16.1), (iI r23.1), (iI r41.1.Kind), (iI r41.1.N), v41_0, v41_1, (iI r53.1.Kind), (iI r53.1.N), v53_0, v53_1]) rfl).add 10 71 w0_0 rfl).add 11 72 (.string (str a0)) rfl) (Xa (b2s_q (A0_0.kp (K49.st (tr6 p54 p56 p59 p64 p68 p70) rfl)) u25 u9 u5 rfl rfl rfl rfl rfl rfl) rfl (Xa (Xn w0_0 rfl) rfl (Xa (lda_q' (es := [(iI r16.1), (iI r23.1), (iI r41.1.Kind), (iI r41.1.N), v41_0, v41_1, (iI r53.1.Kind), (iI r53.1.N), v53_0, v53_1]) (B68.st p70 rfl) u79 z79 rfl) rfl (Xa (Xm rfl) rfl (Xa (Xm rfl) rfl (Xa (qv_b (Xm rfl) hb93) rfl (Xa (Xm rfl) rfl (Xa (Xm rfl) rfl (Xa (qv_b (Xm rfl) hb74) rfl (Xa (Xm rfl) rfl Xg)))))))))) (by kernel_rfl) rfl (fun l110 e110 zd110 => ?_)
   have A114 := A63.st (Yi p64 p68 p70) rfl
   have A115 := A67.st (Xq p68 p70) rfl
   refine clO 50 rfl func50 rfl (spec_TupleBytes.calls (Tuple.mk r16.1 r23.1 r41.1 r53.1) s70.w (mm [46, 48] s70) v41_0 v41_1 v53_0 v53_1 ((Ye (s := s70) hu41_0_0).sub (D := [46, 48]) rfl) (A114.rd.sub (D := [46, 48]) rfl) ((Ye (s := s70) hu53_0_0).sub (D := [46, 48]) rfl) (A115.rd.sub (D := [46, 48]) rfl)) (fun r116 v116_0 s117 p117 A116_0 => ?_)
   refine Xl (L' := [11, 10]) (D' := [0, 1, 3, 4, 5, 2, 7, 6, 6, 8]) zd110 rfl (fun zd119 => ?_)
   refine zfin [12, 13] tb70 (zd119.add 9 70 (.string (str r116)) rfl) (Xa (b2s_q A116_0.rd u25 u9 u5 rfl rfl rfl rfl rfl rfl) rfl (Xa (b2s_q (A0_0.kp (K49.st (tr7 p54 p56 p59 p64 p68 p70 p117) rfl)) u25 u9 u5 rfl rfl rfl rfl rfl rfl) rfl (Xa (Xn w0_0 rfl) rfl Xg))) (by kernel_rfl) (by decide) (Xc rfl (Xc rfl ?_))
   exact Kj93 _ _ _ ⟨s117, _, rfl, (ue (ue (ue rfl rfl) rfl) rfl), (K49.st (tr7 p54 p56 p59 p64 p68 p70 p117) rfl), (B68.st (Xq p70 p117) rfl), (B2.st (tr4 (tr12 p4 p17 p19 p24 p26 p42 p44 p47 p54 p56 p59 p64) p68 p70 p117) rfl), (A114.st p117 rfl), (A115.st p117 rfl)⟩
  rintro y93 _ _ ⟨s128, _, rfl, rfl, Ky93, By93_b4, By93_b2, Cy93_43, Cy93_55⟩
  exact Kj74 _ _ _ ⟨s128, _, rfl, (ue (ue (ue rfl rfl) rfl) rfl), Ky93, By93_b4, By93_b2, Cy93_43, Cy93_55⟩
 rintro y74 _ _ ⟨s131, _, rfl, rfl, Ky74, By74_b4, By74_b2, Cy74_43, Cy74_55⟩
 refine dn (cd rfl (fun h134 => ?_) (fun h134 => ?_))
 ·
  refine sr (bd' (cells := [(iI 0), (iI 0), (iI 0), (iI 0), (.float .f64 0), (.slice none 0 0), (iI 0), (iI 0), (.float .f64 0), (.slice none 0 0)]) pl79 o79 rfl rfl (Xu (vs := [(iI 0), (iI 0), (iI 0), (iI 0), (.float .f64 0), (.slice none 0 0), (iI 0), (iI 0), (.float .f64 0), (.slice none 0 0)]) By74_b2 z79 rfl (Xb rfl (Xb rfl (Xb rfl (Xb rfl (Xb (FL.one (Yh rfl)) (Xb rfl (Xb rfl (Xb rfl (Xb (FL.one (Yh rfl)) (Xb rfl Xi)))))))))) rfl (fun s135 p135 B135 => ?_)))
  refine Xc rfl (dn ?_)
  have A137 : OwF kd79 s135 [(iI 0), (iI 0), (iI 0), (iI 0), (.float .f64 0), (.slice none 0 0), (iI 0), (iI 0), (.float .f64 0), (.slice none 0 0)] (Tuple.mk (0 : Int) (0 : Int) (Item.mk (0 : Int) (0 : Int) (0 : Nat) ([] : (List Int))) (Item.mk (0 : Int) (0 : Int) (0 : Nat) ([] : (List Int)))) 51 := ow_z _ _ (Xz (fun x : Tuple => (x.Xmin, x.Xmax, x.Key, x.Value)) (Tuple.mk (0 : Int) (0 : Int) (Item.mk (0 : Int) (0 : Int) (0 : Nat) ([] : (List Int))) (Item.mk (0 : Int) (0 : Int) (0 : Nat) ([] : (List Int)))) (Xh (Xf .i64 (0 : Int)) (Xh (Xf .i64 (0 : Int)) (Xh (Xz (fun x : Item => (x.Kind, x.N, x.F, x.T)) (Item.mk (0 : Int) (0 : Int) (0 : Nat) ([] : (List Int))) (Xh (Xf .i64 (0 : Int)) (Xh (Xf .i64 (0 : Int)) (Xh (Yj (Yh rfl)) (Ya 5 (Kd.int .u8)))))) (Xz (fun x : Item => (x.Kind, x.N, x.F, x.T)) (Item.mk (0 : Int) (0 : Int) (0 : Nat) ([] : (List Int))) (Xh (Xf .i64 (0 : Int)) (Xh (Xf .i64 (0 : Int)) (Xh (Yj (Yh rfl)) (Ya 5 (Kd.int .u8))))))))))
  have K139 := Ky74.st p135 rfl
  exact re rfl func44 rfl (r_b B135 u79 rfl z79 rfl (Xs rfl Xe)) rfl ⟨_, rfl, (.float .f64 0), (.slice none 0 0), (.float .f64 0), (.slice none 0 0), rfl, A137.fo K139 rfl z.l, z.ky K139⟩
 refine sk (sr (Xw (es := [(iI r16.1), (iI r23.1), (iI r41.1.Kind), (iI r41.1.N), v41_0, v41_1, (iI r53.1.Kind), (iI r53.1.N), v53_0, v53_1]) By74_b4 u79 z79 rfl (Xu (vs := [(iI r16.1), (iI r23.1), (iI r41.1.Kind), (iI r41.1.N), v41_0, v41_1, (iI r53.1.Kind), (iI r53.1.N), v53_0, v53_1]) By74_b2 z79 rfl (Xb rfl (Xb rfl (Xb rfl (Xb rfl (Xb (FL.one hu41_0_0) (Xb Cy74_43.rd.one (Xb rfl (Xb rfl (Xb (FL.one hu53_0_0) (Xb Cy74_55.rd.one Xi)))))))))) rfl (fun s140 p140 B140 => ?_))))
 refine Xc rfl (dn ?_)
 obtain ⟨s144, hw144, p144, A144⟩ := ow_2 (Xo (fun x : Item => (x.Kind, x.N, x.F, x.T)) r41.1 (Yg (Xf .i64 r41.1.Kind) (Yg (Xf .i64 r41.1.N) (Yg (Yj hu41_0_0) (Cy74_43.st p140 rfl))))) (Xo (fun x : Item => (x.Kind, x.N, x.F, x.T)) r53.1 (Yg (Xf .i64 r53.1.Kind) (Yg (Xf .i64 r53.1.N) (Yg (Yj hu53_0_0) (Cy74_55.st p140 rfl))))) rfl rfl
 rw [hw144]
 have A146 : OwF kd79 s144 [(iI r16.1), (iI r23.1), (iI r41.1.Kind), (iI r41.1.N), v41_0, v41_1, (iI r53.1.Kind), (iI r53.1.N), v53_0, v53_1] (Tuple.mk r16.1 r23.1 r41.1 r53.1) 46 := (Xo (fun x : Tuple => (x.Xmin, x.Xmax, x.Key, x.Value)) (Tuple.mk r16.1 r23.1 r41.1 r53.1) (Yg (Xf .i64 r16.1) (Yg (Xf .i64 r23.1) A144)))
 have K149 := Ky74.st (Xq p140 p144) rfl
 exact re rfl func44 rfl (r_b (B140.st p144 rfl) u79 rfl z79 rfl (Xs rfl Xe)) rfl ⟨_, rfl, v41_0, v41_1, v53_0, v53_1, rfl, A146.fo K149 rfl z.l, z.ky K149⟩
def spec_HeapOk.b1 (a0 : Heap) (x7 : Int) (x25 : Int) : Option (Int ⊕ (Int ⊕ Bool)) :=
 (if (decide (x25 < (((at_ a0.Pages x7).Slots).length : Int))) = true then (if 0 ≤ x25 ∧ x25 < (((at_ a0.Pages x7).Slots).length : Int) then ((spec_TupleRead.f (at_ ((at_ a0.Pages x7).Slots) x25)).bind fun r37 => (if 0 ≤ x25 ∧ x25 < (((at_ a0.Pages x7).Slots).length : Int) then (if ((decide (((at_ ((at_ a0.Pages x7).Slots) x25).length : Int) > (0 : Int))) && (!r37.2)) = true then (some (Sum.inr (Sum.inr false))) else (some (Sum.inl (IntKind.wrap .i64 (x25 + (1 : Int)))))) else none)) else none) else ((some (Sum.inl (IntKind.wrap .i64 (x7 + (1 : Int))))).bind fun o => some (Sum.inr o)))
def spec_HeapOk.b0 (a0 : Heap) (x7 : Int) : Option (Int ⊕ Bool) :=
 (if (decide (x7 < (a0.Pages.length : Int))) = true then (if 0 ≤ x7 ∧ x7 < (a0.Pages.length : Int) then ((spec_PageUsed.f (at_ a0.Pages x7)).bind fun r21 => (if (decide (r21 < (0 : Int))) = true then (some (Sum.inr false)) else (iter (spec_HeapOk.b1 a0 x7) (0 : Int)))) else none) else ((some true).bind fun o => some (Sum.inr o)))
def spec_HeapOk.f (a0 : Heap) : Option (Bool) :=
 (if (decide ((a0.Pages.length : Int) > (16 : Int))) = true then (some false) else (iter (spec_HeapOk.b0 a0) (0 : Int)))
def spec_HeapOk.Q (w : World) (F : Nat → Prop) (r : Bool) (v : Value) (w' : World) : Prop :=
 v = (.bool r) ∧ Ky [] w w'
theorem spec_HeapOk.calls (a0 : Heap) (w : World) (F : Nat → Prop) (w0_0 : Value) (h0_0 : Yp.rd w [w0_0] a0.Pages F) (r : Bool) (m : spec_HeapOk.f a0 = some r) :
  Calls prog 24 #[(.agg #[w0_0])] w (RT (spec_HeapOk.Q w F) r) := by
 obtain ⟨s0, rfl, kp0, z⟩ := Xk w F
 have A0_0 := z.rd h0_0
 refine Xd (args := [(.agg #[w0_0])]) func24 ntmps24 rfl rfl m ?_
 unfold spec_HeapOk.f
 refine sr (bx' (cs := [w0_0]) 40 rfl rfl (fun b2 s2 p2 B2 => ?_))
 refine Xc rfl (dn (sq (sr (Xt fa32_0 rfl (Yb B2 u30 rfl ?_)))))
 have K4 := kp0.st p2 rfl
 refine Yl (A0_0.kp K4) u30 rfl (Xc rfl (dn (cd rfl (fun h6 => ?_) (fun h6 => ?_))))
 ·
  exact sr (Xc rfl (dn (re rfl func24 rfl (Xs rfl Xe) rfl ⟨_, rfl, rfl, z.ky K4⟩)))
 refine sk (sq (sr (Xc rfl (dn (bl (lpI (fun (x7 : Int) e w => ∃ (s : St) (e0 : Env), w = s.w ∧ e = upd (upd e0 1 (pB b2)) 3 (iI x7) ∧ Kp s0 s ∧ BlF s b2 32 [w0_0] 40) ⟨s2, _, rfl, (ue (ue rfl rfl) rfl), K4, B2⟩ (fun g7 ih7 => ?_)))))))
 rintro x7 _ _ ⟨s8, _, rfl, rfl, Kx7, Bx7_b2⟩
 unfold spec_HeapOk.b0
 refine sq (sr (Xc rfl (Xt fa32_0 rfl (Yb Bx7_b2 u30 rfl ?_))))
 have A10 := A0_0.kp Kx7
 refine Yl A10 u30 rfl (Xc rfl (dn (cd rfl (fun h11 => ?_) (fun h11 => ?_))))
 ·
  refine sk (sq (bl (sr (Xt fa32_0 rfl (Yb Bx7_b2 u30 rfl (Xc rfl (ix' A10 u30 z59 rfl (fun ad12 es12 h0_12 h1_12 he12 ce12 ia12 => ?_))))))))
  obtain ⟨v12_0, rfl, A12_0⟩ := op59 he12
  refine lca ce12 u59 z59 rfl rfl rfl rfl rfl rfl rfl (al' (cs := [(iI 0), (.slice none 0 0)]) 41 rfl o59 rfl (fun b15 s15 p15 B15 => ?_))
  have A17 := A12_0.st p15 rfl
  refine Xu (vs := [(iI ((at_ a0.Pages x7).Lsn)), v12_0]) B15 z59 rfl (Xb rfl (Xb A17.one Xi)) rfl (fun s18 p18 B18 => ?_)
  refine dn (sq (sr (Xw (es := [(iI ((at_ a0.Pages x7).Lsn)), v12_0]) B18 u59 z59 rfl ?_)))
  have A20 := A17.st p18 rfl
  refine Ym 42 rfl func43 rfl (spec_PageUsed.calls (at_ a0.Pages x7) s18.w (mm [0] s18) v12_0 A20) (fun r21 s22 p22 n22 => ?_)
  refine Xc rfl (dn (cd rfl (fun h23 => ?_) (fun h23 => ?_)))
  ·
   refine sr (Xc rfl (dn (sgi ?_)))
   exact re rfl func24 rfl (Xs rfl Xe) rfl ⟨_, rfl, rfl, z.ky (Kx7.st (Yi p15 p18 p22) rfl)⟩
  refine sk (sr (Xc rfl (dn (bl ?_))))
  refine lpI (fun (x25 : Int) e w => ∃ (s : St) (e0 : Env), w = s.w ∧ e = upd (upd (upd (upd e0 1 (pB b2)) 3 (iI x7)) 4 (pB b15)) 5 (iI x25) ∧ Kp s0 s ∧ BlF s b15 59 [(iI ((at_ a0.Pages x7).Lsn)), v12_0] 41 ∧ BlF s b2 32 [w0_0] 40 ∧ RdF (Kd.sl 25 Yo) s [v12_0] ((at_ a0.Pages x7).Slots) [0]) ⟨s22, _, rfl, (ue (ue (ue (ue rfl rfl) rfl) rfl) rfl), (Kx7.st (Yi p15 p18 p22) rfl), (B18.st p22 rfl), (Bx7_b2.st (Yi p15 p18 p22) rfl), (A20.st p22 rfl)⟩ (fun g25 ih25 => ?_)
  rintro x25 _ _ ⟨s30, _, rfl, rfl, Kx25, Bx25_b15, Bx25_b2, Cx25_13⟩
  unfold spec_HeapOk.b1
  refine sq (sr (Xc rfl (Xt fa59_1 rfl (Yb Bx25_b15 u57 rfl (Yl Cx25_13 u57 rfl (Xc rfl (dn (cd rfl (fun h33 => ?_) (fun h33 => ?_)))))))))
  ·
   refine sk (sq (bl (sr (Xt fa59_1 rfl (Yb Bx25_b15 u57 rfl (Xc rfl (ix' Cx25_13 u57 z25 rfl (fun ad34 es34 h0_34 h1_34 he34 ce34 ia34 => ?_))))))))
   obtain ⟨v34, rfl, he34'⟩ := he34
   have A34 : RdF Yo s30 [v34] (at_ ((at_ a0.Pages x7).Slots) x25) [0] := ⟨v34, rfl, he34'⟩
   refine lc0' ce34 u25 rfl (cl' rfl func44 rfl (spec_TupleRead.calls (at_ ((at_ a0.Pages x7).Slots) x25) s30.w (mm [0] s30) v34 A34) ?_)
   rintro r37 _ w37 m37 ⟨v37_0, v37_1, v37_2, v37_3, rfl, f37_0, ky37⟩
   obtain ⟨s38, rfl, p38, n38⟩ := nwx s30 w37 43 ky37
   obtain ⟨s39, hw39, p39, hu37_0_0, Au37_0_1, hu37_0_2, Au37_0_3⟩ := ap79 44 (f37_0.c n38) rfl
   rw [hw39]
   refine Xc rfl (Xc (v := (.agg #[(iI r37.1.Xmin), (iI r37.1.Xmax), (iI r37.1.Key.Kind), (iI r37.1.Key.N), v37_0, v37_1, (iI r37.1.Value.Kind), (iI r37.1.Value.N), v37_2, v37_3])) rfl (Xc (v := (.bool r37.2)) rfl (al' (cs := [(iI 0), (iI 0), (iI 0), (iI 0), (.float .f64 0), (.slice none 0 0), (iI 0), (iI 0), (.float .f64 0), (.slice none 0 0)]) 45 rfl o79 rfl (fun b42 s42 p42 B42 => ?_))))
   refine Xu (vs := [(iI r37.1.Xmin), (iI r37.1.Xmax), (iI r37.1.Key.Kind), (iI r37.1.Key.N), v37_0, v37_1, (iI r37.1.Value.Kind), (iI r37.1.Value.N), v37_2, v37_3]) B42 z79 rfl (Xb rfl (Xb rfl (Xb rfl (Xb rfl (Xb (FL.one hu37_0_0) (Xb (Au37_0_1.st p42 rfl).rd.one (Xb rfl (Xb rfl (Xb (FL.one hu37_0_2) (Xb (Au37_0_3.st p42 rfl).rd.one Xi)))))))))) rfl (fun s46 p46 B46 => ?_)
   refine Xc rfl (dn (sr (Xt fa59_1 rfl ?_)))
   have A48 := Bx25_b15.st (tr4 p38 p39 p42 p46) rfl
   refine Yb A48 u57 rfl (Xc rfl ?_)
   have A49 := Cx25_13.st (tr4 p38 p39 p42 p46) rfl
   refine ix' A49 u57 z25 rfl (fun ad50 es50 h0_50 h1_50 he50 ce50 ia50 => ?_)
   obtain ⟨v50, rfl, he50'⟩ := he50
   have A50 : RdF Yo s46 [v50] (at_ ((at_ a0.Pages x7).Slots) x25) [0] := ⟨v50, rfl, he50'⟩
   refine lc0' ce50 u25 rfl (Yl A50 u25 rfl (Xc rfl (Xc rfl (jy [50, 51, 52, 53] [] 53 (.bool ((decide (((at_ ((at_ a0.Pages x7).Slots) x25).length : Int) > (0 : Int))) && (!r37.2))) rfl (fun Kg53 => ?_) (fun j53 => ?_)))))
   ·
    rcases Yn (decide (((at_ ((at_ a0.Pages x7).Slots) x25).length : Int) > (0 : Int))) with hb53 | hb53
    ·
     exact Xy hb53 (Xc rfl (Xc rfl (Xc rfl (Kg53 _ (Ag.put ((Ag.put ((Ag.put (Ag.base rfl) rfl)) rfl)) rfl) (by rw [hb53]; rfl)))))
    exact Xy hb53 (Xj rfl (Xj rfl (Xc rfl (Kg53 _ (Ag.put ((Ag.put ((Ag.put (Ag.base rfl) rfl)) rfl)) rfl) (by rw [hb53]; rfl)))))
   refine dn (cd rfl (fun h54 => ?_) (fun h54 => ?_))
   ·
    refine sr (Xc rfl (dn (sgi (sgi ?_))))
    exact re rfl func24 rfl (Xs rfl Xe) rfl ⟨_, rfl, rfl, z.ky (Kx25.st (tr4 p38 p39 p42 p46) rfl)⟩
   refine sk (ib (rg (Xc rfl (Xc rfl (Xc rfl (dn ?_))))))
   exact lb ih25 ⟨s46, _, rfl, (ue (ue (ue (ue rfl rfl) rfl) rfl) rfl), (Kx25.st (tr4 p38 p39 p42 p46) rfl), A48, (Bx25_b2.st (tr4 p38 p39 p42 p46) rfl), A49⟩
  exact xt rfl (sgb (ib (rg (Xc rfl (Xc rfl (Xc rfl (dn (lb ih7 ⟨s30, _, rfl, (ue (ue rfl rfl) rfl), Kx25, Bx25_b2⟩))))))))
 exact xt rfl (sgb (sr (Xc rfl (dn (re rfl func24 rfl (Xs rfl Xe) rfl ⟨_, rfl, rfl, z.ky Kx7⟩)))))
def spec_RecordOk.f (a0 : Record) : Option (Bool) :=
 ((spec_l5in.f a0.Lsn (1 : Int) (1000000 : Int)).bind fun r4 => (if (!r4) = true then (some false) else ((spec_l5in.f a0.Page (0 : Int) (15 : Int)).bind fun r9 => ((spec_l5in.f a0.Slot (0 : Int) (15 : Int)).bind fun r12 => ((spec_l5in.f a0.Xid (1 : Int) (400 : Int)).bind fun r15 => (if (a0.Kind == (1 : Int)) = true then (some (((r9 && ((a0.Data.length : Int) == (256 : Int))) && (a0.Xid == (0 : Int))) && (a0.Slot == (0 : Int)))) else (if (a0.Kind == (2 : Int)) = true then (some ((((r9 && r12) && r15) && (decide ((a0.Data.length : Int) ≥ (1 : Int)))) && (decide ((a0.Data.length : Int) ≤ (92 : Int))))) else (if (a0.Kind == (3 : Int)) = true then (some (((r9 && r12) && r15) && ((a0.Data.length : Int) == (0 : Int)))) else (if (a0.Kind == (4 : Int)) = true then (some (((r9 && r12) && (a0.Xid == (0 : Int))) && ((a0.Data.length : Int) == (0 : Int)))) else (if (a0.Kind == (5 : Int)) = true then (some (((r15 && (a0.Page == (0 : Int))) && (a0.Slot == (0 : Int))) && ((a0.Data.length : Int) == (0 : Int)))) else (some false)))))))))))
def spec_RecordOk.Q (w : World) (F : Nat → Prop) (r : Bool) (v : Value) (w' : World) : Prop :=
 v = (.bool r) ∧ Ky [] w w'
theorem spec_RecordOk.calls (a0 : Record) (w : World) (F : Nat → Prop) (w0_0 : Value) (h0_0 : Yo.rd w [w0_0] a0.Data F) (r : Bool) (m : spec_RecordOk.f a0 = some r) :
  Calls prog 25 #[(.agg #[(iI a0.Kind), (iI a0.Lsn), (iI a0.Xid), (iI a0.Page), (iI a0.Slot), w0_0])] w (RT (spec_RecordOk.Q w F) r) := by
 obtain ⟨s0, rfl, kp0, z⟩ := Xk w F
 refine Xd (args := [(.agg #[(iI a0.Kind), (iI a0.Lsn), (iI a0.Xid), (iI a0.Page), (iI a0.Slot), w0_0])]) func25 ntmps25 rfl rfl m ?_
 unfold spec_RecordOk.f
 refine sr (bx' (cs := [(iI a0.Kind), (iI a0.Lsn), (iI a0.Xid), (iI a0.Page), (iI a0.Slot), w0_0]) 40 rfl rfl (fun b2 s2 p2 B2 => ?_))
 refine Xc rfl (dn (sq (sr (Xt fa36_1 rfl (Yb B2 u3 rfl (Ym 41 rfl func45 rfl (spec_l5in.calls a0.Lsn (1 : Int) (1000000 : Int) s2.w (mm [] s2)) (fun r4 s5 p5 n5 => ?_)))))))
 refine Xc rfl (dn (cd rfl (fun h6 => ?_) (fun h6 => ?_)))
 ·
  refine sr (Xc rfl (dn ?_))
  exact re rfl func25 rfl (Xs rfl Xe) rfl ⟨_, rfl, rfl, z.ky (kp0.st (Xq p2 p5) rfl)⟩
 refine sk (sr (Xt fa36_3 rfl ?_))
 have A8 := B2.st p5 rfl
 refine Yb A8 u3 rfl (Ym 42 rfl func45 rfl (spec_l5in.calls a0.Page (0 : Int) (15 : Int) s5.w (mm [] s5)) (fun r9 s10 p10 n10 => ?_))
 refine Xc rfl (dn (sr (Xt fa36_4 rfl ?_)))
 have A11 := A8.st p10 rfl
 refine Yb A11 u3 rfl (Ym 43 rfl func45 rfl (spec_l5in.calls a0.Slot (0 : Int) (15 : Int) s10.w (mm [] s10)) (fun r12 s13 p13 n13 => ?_))
 refine Xc rfl (dn (sr (Xt fa36_2 rfl ?_)))
 have A14 := A11.st p13 rfl
 refine Yb A14 u3 rfl (Ym 44 rfl func45 rfl (spec_l5in.calls a0.Xid (1 : Int) (400 : Int) s13.w (mm [] s13)) (fun r15 s16 p16 n16 => ?_))
 refine Xc rfl (dn (sr (Xt fa36_5 rfl ?_)))
 have A17 := A14.st p16 rfl
 refine Yb A17 u25 rfl ?_
 have K18 := kp0.st (tr5 p2 p5 p10 p13 p16) rfl
 refine Yl ((z.rd h0_0).kp K18) u25 rfl (Xc rfl (dn (sq (sr (Xt fa36_0 rfl (Yb A17 u3 rfl (dn (bl (sr (Xc rfl (Xc rfl (dn (cd rfl (fun h20 => ?_) (fun h20 => ?_))))))))))))))
 ·
  refine sr (Xc rfl (Xc rfl (jy [28, 29, 30, 31] [5, 6, 7, 8, 9, 10, 11, 12, 13, 14, 15] 31 (.bool (r9 && ((a0.Data.length : Int) == (256 : Int)))) rfl (fun Kg21 => ?_) (fun j21 => ?_))))
  ·
   rcases Yn r9 with hb21 | hb21
   ·
    exact Xy hb21 (Xc rfl (Xc rfl (Xc rfl (Kg21 _ (Ag.put ((Ag.put ((Ag.put (Ag.base rfl) rfl)) rfl)) rfl) (by rw [hb21]; rfl)))))
   exact Xy hb21 (Xj rfl (Xj rfl (Xc rfl (Kg21 _ (Ag.put ((Ag.put ((Ag.put (Ag.base rfl) rfl)) rfl)) rfl) (by rw [hb21]; rfl)))))
  refine Xc rfl (jy [32, 33, 34, 35, 36] [10, 11, 12, 13, 14, 15] 36 (.bool ((r9 && ((a0.Data.length : Int) == (256 : Int))) && (a0.Xid == (0 : Int)))) rfl (fun Kg22 => ?_) (fun j22 => ?_))
  ·
   rcases Yn (r9 && ((a0.Data.length : Int) == (256 : Int))) with hb22 | hb22
   ·
    exact Xy hb22 (Xt fa36_2 rfl (Yb A17 u3 rfl (Xc rfl (Xc rfl (Kg22 _ (Ag.put ((Ag.put ((Ag.put ((Ag.put (Ag.base rfl) rfl)) rfl)) rfl)) rfl) (by rw [hb22]; rfl))))))
   exact Xy hb22 (Xj rfl (Xj rfl (Xj rfl (Xc rfl (Kg22 _ (Ag.put ((Ag.put ((Ag.put ((Ag.put (Ag.base rfl) rfl)) rfl)) rfl)) rfl) (by rw [hb22]; rfl))))))
  refine Xc rfl (jy [37, 38, 39, 40, 41] [15] 41 (.bool (((r9 && ((a0.Data.length : Int) == (256 : Int))) && (a0.Xid == (0 : Int))) && (a0.Slot == (0 : Int)))) rfl (fun Kg23 => ?_) (fun j23 => ?_))
  ·
   rcases Yn ((r9 && ((a0.Data.length : Int) == (256 : Int))) && (a0.Xid == (0 : Int))) with hb23 | hb23
   ·
    exact Xy hb23 (Xt fa36_4 rfl (Yb A17 u3 rfl (Xc rfl (Xc rfl (Kg23 _ (Ag.put ((Ag.put ((Ag.put ((Ag.put (Ag.base rfl) rfl)) rfl)) rfl)) rfl) (by rw [hb23]; rfl))))))
   exact Xy hb23 (Xj rfl (Xj rfl (Xj rfl (Xc rfl (Kg23 _ (Ag.put ((Ag.put ((Ag.put ((Ag.put (Ag.base rfl) rfl)) rfl)) rfl)) rfl) (by rw [hb23]; rfl))))))
  exact Xc rfl (dn (re rfl func25 rfl (Xs rfl Xe) rfl ⟨_, rfl, rfl, z.ky K18⟩))
 refine sr (Xc rfl (Xc rfl (dn (cd rfl (fun h24 => ?_) (fun h24 => ?_)))))
 ·
  refine sr (Xc rfl (Xc rfl (jy [45, 46, 47] [4, 5, 6, 7, 8, 9, 10, 11, 12, 13, 14, 15] 47 (.bool (r9 && r12)) rfl (fun Kg25 => ?_) (fun j25 => ?_))))
  ·
   rcases Yn r9 with hb25 | hb25
   ·
    exact Xy hb25 (Xc rfl (Xc rfl (Kg25 _ (Ag.put ((Ag.put (Ag.base rfl) rfl)) rfl) (by rw [hb25]; rfl))))
   exact Xy hb25 (Xj rfl (Xc rfl (Kg25 _ (Ag.put ((Ag.put (Ag.base rfl) rfl)) rfl) (by rw [hb25]; rfl))))
  refine Xc rfl (jy [48, 49, 50] [7, 8, 9, 10, 11, 12, 13, 14, 15] 50 (.bool ((r9 && r12) && r15)) rfl (fun Kg26 => ?_) (fun j26 => ?_))
  ·
   rcases Yn (r9 && r12) with hb26 | hb26
   ·
    exact Xy hb26 (Xc rfl (Xc rfl (Kg26 _ (Ag.put ((Ag.put (Ag.base rfl) rfl)) rfl) (by rw [hb26]; rfl))))
   exact Xy hb26 (Xj rfl (Xc rfl (Kg26 _ (Ag.put ((Ag.put (Ag.base rfl) rfl)) rfl) (by rw [hb26]; rfl))))
  refine Xc rfl (jy [51, 52, 53, 54] [11, 12, 13, 14, 15] 54 (.bool (((r9 && r12) && r15) && (decide ((a0.Data.length : Int) ≥ (1 : Int))))) rfl (fun Kg27 => ?_) (fun j27 => ?_))
  ·
   rcases Yn ((r9 && r12) && r15) with hb27 | hb27
   ·
    exact Xy hb27 (Xc rfl (Xc rfl (Xc rfl (Kg27 _ (Ag.put ((Ag.put ((Ag.put (Ag.base rfl) rfl)) rfl)) rfl) (by rw [hb27]; rfl)))))
   exact Xy hb27 (Xj rfl (Xj rfl (Xc rfl (Kg27 _ (Ag.put ((Ag.put ((Ag.put (Ag.base rfl) rfl)) rfl)) rfl) (by rw [hb27]; rfl)))))
  refine Xc rfl (jy [55, 56, 57, 58] [15] 58 (.bool ((((r9 && r12) && r15) && (decide ((a0.Data.length : Int) ≥ (1 : Int)))) && (decide ((a0.Data.length : Int) ≤ (92 : Int))))) rfl (fun Kg28 => ?_) (fun j28 => ?_))
  ·
   rcases Yn (((r9 && r12) && r15) && (decide ((a0.Data.length : Int) ≥ (1 : Int)))) with hb28 | hb28
   ·
    exact Xy hb28 (Xc rfl (Xc rfl (Xc rfl (Kg28 _ (Ag.put ((Ag.put ((Ag.put (Ag.base rfl) rfl)) rfl)) rfl) (by rw [hb28]; rfl)))))
   exact Xy hb28 (Xj rfl (Xj rfl (Xc rfl (Kg28 _ (Ag.put ((Ag.put ((Ag.put (Ag.base rfl) rfl)) rfl)) rfl) (by rw [hb28]; rfl)))))
  exact Xc rfl (dn (re rfl func25 rfl (Xs rfl Xe) rfl ⟨_, rfl, rfl, z.ky K18⟩))
 refine sr (Xc rfl (Xc rfl (dn (cd rfl (fun h29 => ?_) (fun h29 => ?_)))))
 ·
  refine sr (Xc rfl (Xc rfl (jy [62, 63, 64] [4, 5, 6, 7, 8, 9, 10, 11] 64 (.bool (r9 && r12)) rfl (fun Kg30 => ?_) (fun j30 => ?_))))
  ·
   rcases Yn r9 with hb30 | hb30
   ·
    exact Xy hb30 (Xc rfl (Xc rfl (Kg30 _ (Ag.put ((Ag.put (Ag.base rfl) rfl)) rfl) (by rw [hb30]; rfl))))
   exact Xy hb30 (Xj rfl (Xc rfl (Kg30 _ (Ag.put ((Ag.put (Ag.base rfl) rfl)) rfl) (by rw [hb30]; rfl))))
  refine Xc rfl (jy [65, 66, 67] [7, 8, 9, 10, 11] 67 (.bool ((r9 && r12) && r15)) rfl (fun Kg31 => ?_) (fun j31 => ?_))
  ·
   rcases Yn (r9 && r12) with hb31 | hb31
   ·
    exact Xy hb31 (Xc rfl (Xc rfl (Kg31 _ (Ag.put ((Ag.put (Ag.base rfl) rfl)) rfl) (by rw [hb31]; rfl))))
   exact Xy hb31 (Xj rfl (Xc rfl (Kg31 _ (Ag.put ((Ag.put (Ag.base rfl) rfl)) rfl) (by rw [hb31]; rfl))))
  refine Xc rfl (jy [68, 69, 70, 71] [11] 71 (.bool (((r9 && r12) && r15) && ((a0.Data.length : Int) == (0 : Int)))) rfl (fun Kg32 => ?_) (fun j32 => ?_))
  ·
   rcases Yn ((r9 && r12) && r15) with hb32 | hb32
   ·
    exact Xy hb32 (Xc rfl (Xc rfl (Xc rfl (Kg32 _ (Ag.put ((Ag.put ((Ag.put (Ag.base rfl) rfl)) rfl)) rfl) (by rw [hb32]; rfl)))))
   exact Xy hb32 (Xj rfl (Xj rfl (Xc rfl (Kg32 _ (Ag.put ((Ag.put ((Ag.put (Ag.base rfl) rfl)) rfl)) rfl) (by rw [hb32]; rfl)))))
  exact Xc rfl (dn (re rfl func25 rfl (Xs rfl Xe) rfl ⟨_, rfl, rfl, z.ky K18⟩))
 refine sr (Xc rfl (Xc rfl (dn (cd rfl (fun h33 => ?_) (fun h33 => ?_)))))
 ·
  refine sr (Xc rfl (Xc rfl (jy [75, 76, 77] [4, 5, 6, 7, 8, 9, 10, 11, 12, 13] 77 (.bool (r9 && r12)) rfl (fun Kg34 => ?_) (fun j34 => ?_))))
  ·
   rcases Yn r9 with hb34 | hb34
   ·
    exact Xy hb34 (Xc rfl (Xc rfl (Kg34 _ (Ag.put ((Ag.put (Ag.base rfl) rfl)) rfl) (by rw [hb34]; rfl))))
   exact Xy hb34 (Xj rfl (Xc rfl (Kg34 _ (Ag.put ((Ag.put (Ag.base rfl) rfl)) rfl) (by rw [hb34]; rfl))))
  refine Xc rfl (jy [78, 79, 80, 81, 82] [9, 10, 11, 12, 13] 82 (.bool ((r9 && r12) && (a0.Xid == (0 : Int)))) rfl (fun Kg35 => ?_) (fun j35 => ?_))
  ·
   rcases Yn (r9 && r12) with hb35 | hb35
   ·
    exact Xy hb35 (Xt fa36_2 rfl (Yb A17 u3 rfl (Xc rfl (Xc rfl (Kg35 _ (Ag.put ((Ag.put ((Ag.put ((Ag.put (Ag.base rfl) rfl)) rfl)) rfl)) rfl) (by rw [hb35]; rfl))))))
   exact Xy hb35 (Xj rfl (Xj rfl (Xj rfl (Xc rfl (Kg35 _ (Ag.put ((Ag.put ((Ag.put ((Ag.put (Ag.base rfl) rfl)) rfl)) rfl)) rfl) (by rw [hb35]; rfl))))))
  refine Xc rfl (jy [83, 84, 85, 86] [13] 86 (.bool (((r9 && r12) && (a0.Xid == (0 : Int))) && ((a0.Data.length : Int) == (0 : Int)))) rfl (fun Kg36 => ?_) (fun j36 => ?_))
  ·
   rcases Yn ((r9 && r12) && (a0.Xid == (0 : Int))) with hb36 | hb36
   ·
    exact Xy hb36 (Xc rfl (Xc rfl (Xc rfl (Kg36 _ (Ag.put ((Ag.put ((Ag.put (Ag.base rfl) rfl)) rfl)) rfl) (by rw [hb36]; rfl)))))
   exact Xy hb36 (Xj rfl (Xj rfl (Xc rfl (Kg36 _ (Ag.put ((Ag.put ((Ag.put (Ag.base rfl) rfl)) rfl)) rfl) (by rw [hb36]; rfl)))))
  exact Xc rfl (dn (re rfl func25 rfl (Xs rfl Xe) rfl ⟨_, rfl, rfl, z.ky K18⟩))
 refine sr (Xc rfl (Xc rfl (dn (cd rfl (fun h37 => ?_) (fun h37 => ?_)))))
 ·
  refine sr (Xc rfl (Xc rfl (jy [90, 91, 92, 93, 94] [6, 7, 8, 9, 10, 11, 12, 13, 14, 15] 94 (.bool (r15 && (a0.Page == (0 : Int)))) rfl (fun Kg38 => ?_) (fun j38 => ?_))))
  ·
   rcases Yn r15 with hb38 | hb38
   ·
    exact Xy hb38 (Xt fa36_3 rfl (Yb A17 u3 rfl (Xc rfl (Xc rfl (Kg38 _ (Ag.put ((Ag.put ((Ag.put ((Ag.put (Ag.base rfl) rfl)) rfl)) rfl)) rfl) (by rw [hb38]; rfl))))))
   exact Xy hb38 (Xj rfl (Xj rfl (Xj rfl (Xc rfl (Kg38 _ (Ag.put ((Ag.put ((Ag.put ((Ag.put (Ag.base rfl) rfl)) rfl)) rfl)) rfl) (by rw [hb38]; rfl))))))
  refine Xc rfl (jy [95, 96, 97, 98, 99] [11, 12, 13, 14, 15] 99 (.bool ((r15 && (a0.Page == (0 : Int))) && (a0.Slot == (0 : Int)))) rfl (fun Kg39 => ?_) (fun j39 => ?_))
  ·
   rcases Yn (r15 && (a0.Page == (0 : Int))) with hb39 | hb39
   ·
    exact Xy hb39 (Xt fa36_4 rfl (Yb A17 u3 rfl (Xc rfl (Xc rfl (Kg39 _ (Ag.put ((Ag.put ((Ag.put ((Ag.put (Ag.base rfl) rfl)) rfl)) rfl)) rfl) (by rw [hb39]; rfl))))))
   exact Xy hb39 (Xj rfl (Xj rfl (Xj rfl (Xc rfl (Kg39 _ (Ag.put ((Ag.put ((Ag.put ((Ag.put (Ag.base rfl) rfl)) rfl)) rfl)) rfl) (by rw [hb39]; rfl))))))
  refine Xc rfl (jy [100, 101, 102, 103] [15] 103 (.bool (((r15 && (a0.Page == (0 : Int))) && (a0.Slot == (0 : Int))) && ((a0.Data.length : Int) == (0 : Int)))) rfl (fun Kg40 => ?_) (fun j40 => ?_))
  ·
   rcases Yn ((r15 && (a0.Page == (0 : Int))) && (a0.Slot == (0 : Int))) with hb40 | hb40
   ·
    exact Xy hb40 (Xc rfl (Xc rfl (Xc rfl (Kg40 _ (Ag.put ((Ag.put ((Ag.put (Ag.base rfl) rfl)) rfl)) rfl) (by rw [hb40]; rfl)))))
   exact Xy hb40 (Xj rfl (Xj rfl (Xc rfl (Kg40 _ (Ag.put ((Ag.put ((Ag.put (Ag.base rfl) rfl)) rfl)) rfl) (by rw [hb40]; rfl)))))
  exact Xc rfl (dn (re rfl func25 rfl (Xs rfl Xe) rfl ⟨_, rfl, rfl, z.ky K18⟩))
 exact sk (ib (sr (Xc rfl (dn (re rfl func25 rfl (Xs rfl Xe) rfl ⟨_, rfl, rfl, z.ky K18⟩)))))
def spec_l7copy.b0 (a0 : Page) (x11 : Int × (List (List Int))) : Option ((Int × (List (List Int))) ⊕ Page) :=
 (if (decide (x11.1 < (a0.Slots.length : Int))) = true then (if 0 ≤ x11.1 ∧ x11.1 < (a0.Slots.length : Int) then (if ([] : (List Int)).length + (at_ a0.Slots x11.1).length ≤ Lim then (if x11.2.length + ([(([] : (List Int)) ++ (at_ a0.Slots x11.1))]).length ≤ Lim then (some (Sum.inl ((IntKind.wrap .i64 (x11.1 + (1 : Int))), (x11.2 ++ [(([] : (List Int)) ++ (at_ a0.Slots x11.1))])))) else none) else none) else none) else ((some (Page.mk a0.Lsn x11.2)).bind fun o => some (Sum.inr o)))
def spec_l7copy.f (a0 : Page) : Option (Page) :=
 (iter (spec_l7copy.b0 a0) ((0 : Int), ([] : (List (List Int)))))
def spec_l7copy.Q (w : World) (F : Nat → Prop) (r : Page) (v : Value) (w' : World) : Prop :=
 ∃ (v0 : Value), v = (.agg #[(iI r.Lsn), v0]) ∧ FO kd59 w w' [(iI r.Lsn), v0] r ∧ Ky [] w w'
theorem spec_l7copy.calls (a0 : Page) (w : World) (F : Nat → Prop) (w0_0 : Value) (h0_0 : (Kd.sl 25 Yo).rd w [w0_0] a0.Slots F) (r : Page) (m : spec_l7copy.f a0 = some r) :
  Calls prog 46 #[(.agg #[(iI a0.Lsn), w0_0])] w (RT (spec_l7copy.Q w F) r) := by
 obtain ⟨s0, rfl, kp0, z⟩ := Xk w F
 have A0_0 := z.rd h0_0
 refine Xd (args := [(.agg #[(iI a0.Lsn), w0_0])]) func46 ntmps46 rfl rfl m ?_
 unfold spec_l7copy.f
 refine sr (bx' (cs := [(iI a0.Lsn), w0_0]) 40 rfl rfl (fun b2 s2 p2 B2 => ?_))
 refine al' (cs := [(iI 0), (.slice none 0 0)]) 41 rfl o59 rfl (fun b4 s4 p4 B4 => ?_)
 refine dn (sr (Xt fa59_0 rfl ?_))
 have A6 := B2.st p4 rfl
 refine Yb A6 u3 rfl (bd' (cells := [(iI a0.Lsn), (.slice none 0 0)]) pl59 o59 rfl rfl (al' (cs := [(iI 0), (.slice none 0 0)]) 42 rfl o59 rfl (fun b7 s7 p7 B7 => ?_)))
 refine Xu (vs := [(iI a0.Lsn), (.slice none 0 0)]) B7 z59 rfl (Xb rfl (Xb rfl Xi)) rfl (fun s9 p9 B9 => ?_)
 refine dn (sq (sr (Xc rfl (dn (bl ?_)))))
 refine lpI (fun (x11 : Int × (List (List Int))) e w => ∃ (s : St) (e0 : Env) (vx11_0 : Value), w = s.w ∧ e = upd (upd (upd (upd e0 1 (pB b2)) 2 (pB b4)) 3 (pB b7)) 4 (iI x11.1) ∧ Kp s0 s ∧ OwF (Kd.sl 25 Yo) s [vx11_0] x11.2 43 ∧ BlF s b7 59 [(iI a0.Lsn), vx11_0] 42 ∧ BlF s b4 59 [(iI 0), (.slice none 0 0)] 41 ∧ BlF s b2 59 [(iI a0.Lsn), w0_0] 40) ⟨s9, _, (.slice none 0 0), rfl, (ue (ue (ue (ue rfl rfl) rfl) rfl) rfl), (kp0.st (tr4 p2 p4 p7 p9) rfl), (Yk 25 Yo _ 43), B9, (B4.st (Xq p7 p9) rfl), (A6.st (Xq p7 p9) rfl)⟩ (fun g11 ih11 => ?_)
 rintro x11 _ _ ⟨s15, _, vx11_0, rfl, rfl, Kx11, Ax11_0, Bx11_b7, Bx11_b4, Bx11_b2⟩
 unfold spec_l7copy.b0
 refine sq (sr (Xc rfl (Xt fa59_1 rfl (Yb Bx11_b2 u57 rfl ?_))))
 refine Yl (A0_0.kp Kx11) u57 rfl (Xc rfl (dn (cd rfl (fun h21 => ?_) (fun h21 => ?_))))
 ·
  refine sk (sq (bl (zdraw [[], [0], [], [], [3], [], [4, 5], [6], [2, 7], [8], [1, 9, 8], [0, 1, 2, 3, 4, 5, 6, 7, 8, 9, 10], [11, 10, 10, 0, 1, 2, 3, 4, 5, 6, 7, 8, 9, 10]] [some 15, some 16, some 17, some 18, some 19, some 20, some 21, some 22, some 23, some 24, some 25, some 26, none] [[3], [15], [], [1], [18], [4], [19, 20], [21], [17, 22], [23], [16, 24], [3], [26, 25]] [0, 1, 2, 3, 4, 5, 6, 7, 8, 9, 10, 11, 12] ⟨by kernel_rfl, by kernel_rfl, by kernel_rfl⟩ (by kernel_rfl) (fun s22 p22 l22 tb22 zd22 => ?_))))
  have K30 := Kx11.st p22 rfl
  have A31 := A0_0.kp K30
  refine mg fun hg32 => ?_
  obtain ⟨ad32, es32, he32, ce32, ia32⟩ := ix_e A31 rfl hg32.1 hg32.2
  obtain ⟨v32, rfl, he32'⟩ := he32
  have A32 : RdF Yo s22 [v32] (at_ a0.Slots x11.1) [0] := ⟨v32, rfl, he32'⟩
  refine Yc 2 [some 22, some 21, some 20, some 19, some 18, some 16, some 15] tb22 (((((((zd22.add 0 15 (pO b7 1) rfl).add 1 16 vx11_0 rfl).add 3 18 (pO b2 1) rfl).add 4 19 w0_0 rfl).add 5 20 (iI x11.1) rfl).add 6 21 (.pointer (some ad32)) rfl).add 7 22 v32 rfl) (Xa (lc0_q ce32 u25 rfl rfl rfl rfl rfl rfl rfl rfl) rfl (Xa (ix_q' A31 u57 z25 hg32.1 hg32.2 ia32 rfl) rfl (Xa (Xm rfl) rfl (Xa (Xp (Bx11_b2.st p22 rfl) u57 rfl) rfl (Xa (Xr fa59_1 rfl) rfl (Xa (Xp (Bx11_b7.st p22 rfl) u57 rfl) rfl (Xa (Xr fa59_1 rfl) rfl Xg))))))) (by kernel_rfl) rfl (fun l37 e37 zd37 => ?_)
  refine lt0 (K := (Kd.int .u8)) 44 u25 z5 rfl rfl rfl rfl rfl (fun v40 s40 p40 A40 => ?_)
  refine Xl (L' := [7, 6, 5, 4, 3, 1, 0]) (D' := [2]) zd37 rfl (fun zd42 => ?_)
  have K46 := K30.st p40 rfl
  refine Yc 8 [some 16, some 15] tb22 zd42 (Xa (lc0_q (ce32.st p40 rfl rfl) u25 rfl rfl rfl rfl rfl rfl rfl rfl) rfl (Xa (ix_q' (A0_0.kp K46) u57 z25 hg32.1 hg32.2 ia32 rfl) rfl (Xa (Xm rfl) rfl (Xa (Xp (Bx11_b2.st (Xq p22 p40) rfl) u57 rfl) rfl (Xa (Xr fa59_1 rfl) rfl (Xa (Xp (Bx11_b7.st (Xq p22 p40) rfl) u57 rfl) rfl (Xa (Xr fa59_1 rfl) rfl Xg))))))) (by kernel_rfl) rfl (fun l43 e43 zd43 => ?_)
  refine apF' Xv sl25 A40 (A32.st p40 rfl) rfl (fun v50 s50 p50 A50 => ?_)
  refine Xl (L' := [1, 0]) (D' := [3, 4, 5, 6, 7, 8, 2]) zd43 rfl (fun zd52 => ?_)
  refine Yc 9 [some 16, some 15] tb22 zd52 (Xa (Xp (Bx11_b7.st (Yi p22 p40 p50) rfl) u57 rfl) rfl (Xa (Xr fa59_1 rfl) rfl Xg)) (by kernel_rfl) rfl (fun l53 e53 zd53 => ?_)
  refine ltO (K := Yo) (cells := [v50]) [(([] : (List Int)) ++ (at_ a0.Slots x11.1))] 44 u57 z25 o25 (lo_one A50) rfl rfl rfl rfl rfl rfl rfl rfl rfl (lfill_pc (pc_c (oc A50.rd.one) pc_n) rfl) (fun v56 s56 p56 A56 => ?_)
  refine Xl (L' := [1, 0]) (D' := [9, 3, 4, 5, 6, 7, 8, 2]) zd53 rfl (fun zd58 => ?_)
  refine zfin [10, 11, 12] tb22 zd58 (Xa (Xp (Bx11_b7.st (tr4 p22 p40 p50 p56) rfl) u57 rfl) rfl (Xa (Xr fa59_1 rfl) rfl Xg)) (by kernel_rfl) (by decide) (apO sl57 (Ax11_0.st (tr4 p22 p40 p50 p56) rfl) A56 rfl rfl rfl rfl rfl rfl rfl rfl rfl (fun v61 s61 p61 A61 => ?_))
  refine Xt fa59_1 rfl (sv' (Bx11_b7.st (tr5 p22 p40 p50 p56 p61) rfl) z57 rfl A61.rd.one rfl (fun s64 p64 B64 => ?_))
  refine dn (ib (rg (Xc rfl (Xc rfl (Xc rfl (dn ?_))))))
  exact lb ih11 ⟨s64, _, v61, rfl, (ue (ue (ue (ue rfl rfl) rfl) rfl) rfl), (K46.st (tr4 p50 p56 p61 p64) rfl), (A61.st p64 rfl), B64, (Bx11_b4.st (tr6 p22 p40 p50 p56 p61 p64) rfl), (Bx11_b2.st (tr6 p22 p40 p50 p56 p61 p64) rfl)⟩
 refine xt rfl (sgb (sr (Xw (es := [(iI a0.Lsn), vx11_0]) Bx11_b7 u59 z59 rfl (Xu (vs := [(iI a0.Lsn), vx11_0]) Bx11_b4 z59 rfl (Xb rfl (Xb Ax11_0.rd.one Xi)) rfl (fun s70 p70 B70 => ?_)))))
 refine dn ?_
 have A72 : OwF kd59 s70 [(iI a0.Lsn), vx11_0] (Page.mk a0.Lsn x11.2) 43 := (Xo (fun x : Page => (x.Lsn, x.Slots)) (Page.mk a0.Lsn x11.2) (Yg (Xf .i64 a0.Lsn) (Ax11_0.st p70 rfl)))
 have K75 := Kx11.st p70 rfl
 exact re rfl func46 rfl (r_b B70 u59 rfl z59 rfl Xe) rfl ⟨_, rfl, vx11_0, rfl, A72.fo K75 rfl z.l, z.ky K75⟩
def spec_l10copy.b0 (a0 : Heap) (x8 : Int × (List Page)) : Option ((Int × (List Page)) ⊕ Heap) :=
 (if (decide (x8.1 < (a0.Pages.length : Int))) = true then (if 0 ≤ x8.1 ∧ x8.1 < (a0.Pages.length : Int) then ((spec_l7copy.f (at_ a0.Pages x8.1)).bind fun r37 => (if x8.2.length + ([r37]).length ≤ Lim then (some (Sum.inl ((IntKind.wrap .i64 (x8.1 + (1 : Int))), (x8.2 ++ [r37])))) else none)) else none) else ((some (Heap.mk x8.2)).bind fun o => some (Sum.inr o)))
def spec_l10copy.f (a0 : Heap) : Option (Heap) :=
 (iter (spec_l10copy.b0 a0) ((0 : Int), ([] : (List Page))))
def spec_l10copy.Q (w : World) (F : Nat → Prop) (r : Heap) (v : Value) (w' : World) : Prop :=
 ∃ (v0 : Value), v = (.agg #[v0]) ∧ FO kd32 w w' [v0] r ∧ Ky [] w w'
theorem spec_l10copy.calls (a0 : Heap) (w : World) (F : Nat → Prop) (w0_0 : Value) (h0_0 : Yp.rd w [w0_0] a0.Pages F) (r : Heap) (m : spec_l10copy.f a0 = some r) :
  Calls prog 26 #[(.agg #[w0_0])] w (RT (spec_l10copy.Q w F) r) := by
 obtain ⟨s0, rfl, kp0, z⟩ := Xk w F
 have A0_0 := z.rd h0_0
 refine Xd (args := [(.agg #[w0_0])]) func26 ntmps26 rfl rfl m ?_
 unfold spec_l10copy.f
 refine sr (bx' (cs := [w0_0]) 40 rfl rfl (fun b2 s2 p2 B2 => ?_))
 refine al' (cs := [(.slice none 0 0)]) 41 rfl o32 rfl (fun b4 s4 p4 B4 => ?_)
 refine dn (sr (al' (cs := [(.slice none 0 0)]) 42 rfl o32 rfl (fun b6 s6 p6 B6 => ?_)))
 refine dn (sq (sr (Xc rfl (dn (bl ?_)))))
 refine lpI (fun (x8 : Int × (List Page)) e w => ∃ (s : St) (e0 : Env) (vx8_0 : Value), w = s.w ∧ e = upd (upd (upd (upd e0 1 (pB b2)) 2 (pB b4)) 3 (pB b6)) 4 (iI x8.1) ∧ Kp s0 s ∧ OwF Yp s [vx8_0] x8.2 43 ∧ BlF s b6 32 [vx8_0] 42 ∧ BlF s b4 32 [(.slice none 0 0)] 41 ∧ BlF s b2 32 [w0_0] 40) ⟨s6, _, (.slice none 0 0), rfl, (ue (ue (ue (ue rfl rfl) rfl) rfl) rfl), (kp0.st (Yi p2 p4 p6) rfl), (Yk 59 kd59 _ 43), B6, (B4.st p6 rfl), (B2.st (Xq p4 p6) rfl)⟩ (fun g8 ih8 => ?_)
 rintro x8 _ _ ⟨s12, _, vx8_0, rfl, rfl, Kx8, Ax8_0, Bx8_b6, Bx8_b4, Bx8_b2⟩
 unfold spec_l10copy.b0
 refine sq (sr (Xc rfl (Xt fa32_0 rfl (Yb Bx8_b2 u30 rfl ?_))))
 refine Yl (A0_0.kp Kx8) u30 rfl (Xc rfl (dn (cd rfl (fun h18 => ?_) (fun h18 => ?_))))
 ·
  refine sk (sq (bl (zdraw [[], [0], [], [2], [], [3, 4], [5], [6], [7], [1, 8, 7], [0, 1, 2, 3, 4, 5, 6, 7, 8, 9], [10, 9, 9, 0, 1, 2, 3, 4, 5, 6, 7, 8, 9]] [some 12, some 13, some 14, some 15, some 16, some 17, some 18, some 19, some 20, some 21, some 22, none] [[3], [12], [1], [14], [4], [15, 16], [17], [18], [19], [13, 20], [3], [22, 21]] [0, 1, 2, 3, 4, 5, 6, 7, 8, 9, 10, 11] ⟨by kernel_rfl, by kernel_rfl, by kernel_rfl⟩ (by kernel_rfl) (fun s19 p19 l19 tb19 zd19 => ?_))))
  have K27 := Kx8.st p19 rfl
  have A28 := A0_0.kp K27
  refine mg fun hg29 => ?_
  obtain ⟨ad29, es29, he29, ce29, ia29⟩ := ix_e A28 rfl hg29.1 hg29.2
  obtain ⟨v29_0, rfl, A29_0⟩ := op59 he29
  refine Yc 7 [some 13, some 12] tb19 (((((((zd19.add 0 12 (pB b6) rfl).add 1 13 vx8_0 rfl).add 2 14 (pB b2) rfl).add 3 15 w0_0 rfl).add 4 16 (iI x8.1) rfl).add 5 17 (.pointer (some ad29)) rfl).add 6 18 (.agg #[(iI ((at_ a0.Pages x8.1).Lsn)), v29_0]) rfl) (Xa (lca_q ce29 u59 z59 rfl rfl rfl rfl rfl rfl rfl) rfl (Xa (ix_q' A28 u30 z59 hg29.1 hg29.2 ia29 rfl) rfl (Xa (Xm rfl) rfl (Xa (Xp (Bx8_b2.st p19 rfl) u30 rfl) rfl (Xa (Xr fa32_0 rfl) rfl (Xa (Xp (Bx8_b6.st p19 rfl) u30 rfl) rfl (Xa (Xr fa32_0 rfl) rfl Xg))))))) (by kernel_rfl) rfl (fun l34 e34 zd34 => ?_)
  refine cl' rfl func46 rfl (spec_l7copy.calls (at_ a0.Pages x8.1) s19.w (mm [0] s19) v29_0 A29_0) ?_
  rintro r37 _ w37 m37 ⟨v37_0, rfl, f37_0, ky37⟩
  obtain ⟨s38, rfl, p38, n38⟩ := nwx s19 w37 44 ky37
  refine Xl (L' := [1, 0]) (D' := [2, 3, 4, 5, 6, 7]) zd34 rfl (fun zd40 => ?_)
  refine Yc 8 [some 13, some 12] tb19 zd40 (Xa (Xp (Bx8_b6.st (Xq p19 p38) rfl) u30 rfl) rfl (Xa (Xr fa32_0 rfl) rfl Xg)) (by kernel_rfl) rfl (fun l41 e41 zd41 => ?_)
  have A43 : OwF kd59 s38 [(iI r37.Lsn), v37_0] r37 44 := (Xo (fun x : Page => (x.Lsn, x.Slots)) r37 (Yg (Xf .i64 r37.Lsn) (ap59 (f37_0.c n38))))
  refine ltO (K := kd59) (cells := [(iI r37.Lsn), v37_0]) [r37] 44 u30 z59 o59 (lo_one A43) rfl rfl rfl rfl rfl rfl rfl rfl rfl rfl (fun v46 s46 p46 A46 => ?_)
  refine Xl (L' := [1, 0]) (D' := [8, 2, 3, 4, 5, 6, 7]) zd41 rfl (fun zd48 => ?_)
  refine zfin [9, 10, 11] tb19 zd48 (Xa (Xp (Bx8_b6.st (Yi p19 p38 p46) rfl) u30 rfl) rfl (Xa (Xr fa32_0 rfl) rfl Xg)) (by kernel_rfl) (by decide) (apO sl30 (Ax8_0.st (Yi p19 p38 p46) rfl) A46 rfl rfl rfl rfl rfl rfl rfl rfl rfl (fun v51 s51 p51 A51 => ?_))
  refine Xt fa32_0 rfl (sv' (Bx8_b6.st (tr4 p19 p38 p46 p51) rfl) z30 rfl A51.rd.one rfl (fun s54 p54 B54 => ?_))
  refine dn (ib (rg (Xc rfl (Xc rfl (Xc rfl (dn ?_))))))
  exact lb ih8 ⟨s54, _, v51, rfl, (ue (ue (ue (ue rfl rfl) rfl) rfl) rfl), (K27.st (tr4 p38 p46 p51 p54) rfl), (A51.st p54 rfl), B54, (Bx8_b4.st (tr5 p19 p38 p46 p51 p54) rfl), (Bx8_b2.st (tr5 p19 p38 p46 p51 p54) rfl)⟩
 refine xt rfl (sgb (sr (Xw (es := [vx8_0]) Bx8_b6 u32 z32 rfl (Xu (vs := [vx8_0]) Bx8_b4 z32 rfl (Xb Ax8_0.rd.one Xi) rfl (fun s60 p60 B60 => ?_)))))
 refine dn ?_
 have A62 : OwF kd32 s60 [vx8_0] (Heap.mk x8.2) 43 := (Xo (fun x : Heap => (x.Pages)) (Heap.mk x8.2) (Ax8_0.st p60 rfl))
 have K65 := Kx8.st p60 rfl
 exact re rfl func26 rfl (r_b B60 u32 rfl z32 rfl Xe) rfl ⟨_, rfl, vx8_0, rfl, A62.fo K65 rfl z.l, z.ky K65⟩
def spec_PageBytes.b3 (a0 : Page) (x46 : (List Int)) (x58 : (List Int) × Int) : Option (((List Int) × Int) ⊕ (List Int)) :=
 (if (decide (x58.2 < (x46.length : Int))) = true then ((spec_PutNum.f a0.Lsn (4 : Int)).bind fun r63 => (if x58.1.length + r63.length ≤ Lim then (if 0 ≤ x58.2 ∧ x58.2 ≤ (IntKind.wrap .i64 (x58.2 + (60 : Int))) ∧ (IntKind.wrap .i64 (x58.2 + (60 : Int))) ≤ (x46.length : Int) then (if (x58.1 ++ r63).length + ((x46.take ((IntKind.wrap .i64 (x58.2 + (60 : Int)))).toNat).drop (x58.2).toNat).length ≤ Lim then (some (Sum.inl (((x58.1 ++ r63) ++ ((x46.take ((IntKind.wrap .i64 (x58.2 + (60 : Int)))).toNat).drop (x58.2).toNat)), (IntKind.wrap .i64 (x58.2 + (60 : Int)))))) else none) else none) else none)) else ((some x58.1).bind fun o => some (Sum.inr o)))
def spec_PageBytes.b2 (a0 : Page) (x46 : (List Int)) : Option ((List Int) ⊕ (List Int)) :=
 (if (decide ((x46.length : Int) < (240 : Int))) = true then (if x46.length + ([(0 : Int)]).length ≤ Lim then (some (Sum.inl (x46 ++ [(0 : Int)]))) else none) else ((iter (spec_PageBytes.b3 a0 x46) (([] : (List Int)), (0 : Int))).bind fun o => some (Sum.inr o)))
def spec_PageBytes.b1 (a0 : Page) (x33 : (List Int) × Int) : Option (((List Int) × Int) ⊕ (List Int)) :=
 (if (decide (x33.2 < (a0.Slots.length : Int))) = true then (if 0 ≤ x33.2 ∧ x33.2 < (a0.Slots.length : Int) then (if x33.1.length + (at_ a0.Slots x33.2).length ≤ Lim then (some (Sum.inl ((x33.1 ++ (at_ a0.Slots x33.2)), (IntKind.wrap .i64 (x33.2 + (1 : Int)))))) else none) else none) else ((iter (spec_PageBytes.b2 a0) x33.1).bind fun o => some (Sum.inr o)))
def spec_PageBytes.b0 (a0 : Page) (x15 : (List Int) × Int) : Option (((List Int) × Int) ⊕ (List Int)) :=
 (if (decide (x15.2 < (a0.Slots.length : Int))) = true then (if 0 ≤ x15.2 ∧ x15.2 < (a0.Slots.length : Int) then (if x15.1.length + ([(IntKind.wrap .u8 ((at_ a0.Slots x15.2).length : Int))]).length ≤ Lim then (some (Sum.inl ((x15.1 ++ [(IntKind.wrap .u8 ((at_ a0.Slots x15.2).length : Int))]), (IntKind.wrap .i64 (x15.2 + (1 : Int)))))) else none) else none) else ((iter (spec_PageBytes.b1 a0) (x15.1, (0 : Int))).bind fun o => some (Sum.inr o)))
def spec_PageBytes.f (a0 : Page) : Option ((List Int)) :=
 ((spec_PageUsed.f a0).bind fun r6 => (if (decide (r6 < (0 : Int))) = true then (some ([] : (List Int))) else (iter (spec_PageBytes.b0 a0) ([(IntKind.wrap .u8 (a0.Slots.length : Int))], (0 : Int)))))
def spec_PageBytes.Q (w : World) (F : Nat → Prop) (r : (List Int)) (v : Value) (w' : World) : Prop :=
 FO Yo w w' [v] r ∧ Ky [] w w'
theorem spec_PageBytes.calls (a0 : Page) (w : World) (F : Nat → Prop) (w0_0 : Value) (h0_0 : (Kd.sl 25 Yo).rd w [w0_0] a0.Slots F) (r : (List Int)) (m : spec_PageBytes.f a0 = some r) :
  Calls prog 48 #[(.agg #[(iI a0.Lsn), w0_0])] w (RT (spec_PageBytes.Q w F) r) := by
 obtain ⟨s0, rfl, kp0, z⟩ := Xk w F
 have A0_0 := z.rd h0_0
 refine Xd (args := [(.agg #[(iI a0.Lsn), w0_0])]) func48 ntmps48 rfl rfl m ?_
 unfold spec_PageBytes.f
 refine sr (bx' (cs := [(iI a0.Lsn), w0_0]) 40 rfl rfl (fun b2 s2 p2 B2 => ?_))
 refine Xc rfl (dn (sq (sr (Xw (es := [(iI a0.Lsn), w0_0]) B2 u59 z59 rfl ?_))))
 have K4 := kp0.st p2 rfl
 refine Ym 41 rfl func43 rfl (spec_PageUsed.calls a0 s2.w (mm [0] s2) w0_0 (A0_0.kp K4)) (fun r6 s7 p7 n7 => ?_)
 refine Xc rfl (dn (cd rfl (fun h8 => ?_) (fun h8 => ?_)))
 ·
  refine sr (Xc rfl (dn ?_))
  have K9 := K4.st p7 rfl
  exact re rfl func48 rfl (Xs rfl Xe) rfl ⟨_, rfl, (Yk 5 (Kd.int .u8) s7 40).fo K9 rfl z.l, z.ky K9⟩
 refine sk (sr (Xt fa59_1 rfl ?_))
 have A10 := B2.st p7 rfl
 refine Yb A10 u57 rfl ?_
 have K11 := K4.st p7 rfl
 refine Yl (A0_0.kp K11) u57 rfl (cv' u5 u3 rfl (ltF' (K := (Kd.int .u8)) (cells := [(.int .u8 (IntKind.wrap .u8 (a0.Slots.length : Int)))]) [(IntKind.wrap .u8 (a0.Slots.length : Int))] 42 Xv u25 z5 o5 (fun w => (Yf _ _ _)) rfl (fun v13 s13 p13 A13 => ?_)))
 refine Yd v13 rfl (dn (sq (sr (Xc rfl (dn (bl ?_))))))
 refine lpI (fun (x15 : (List Int) × Int) e w => ∃ (s : St) (e0 : Env) (vx15_0 : Value), w = s.w ∧ e = upd (upd (upd e0 1 (pB b2)) 3 vx15_0) 4 (iI x15.2) ∧ Kp s0 s ∧ OwF Yo s [vx15_0] x15.1 42 ∧ BlF s b2 59 [(iI a0.Lsn), w0_0] 40) ⟨s13, _, v13, rfl, (ue (ue (ue rfl rfl) rfl) rfl), (K11.st p13 rfl), A13, (A10.st p13 rfl)⟩ (fun g15 ih15 => ?_)
 rintro x15 _ _ ⟨s18, _, vx15_0, rfl, rfl, Kx15, Ax15_0, Bx15_b2⟩
 unfold spec_PageBytes.b0
 refine sq (sr (Xc rfl (Xt fa59_1 rfl (Yb Bx15_b2 u57 rfl ?_))))
 have A21 := A0_0.kp Kx15
 refine Yl A21 u57 rfl (Xc rfl (dn (cd rfl (fun h22 => ?_) (fun h22 => ?_))))
 ·
  refine sk (sq (bl (rg (Xx vx15_0 rfl (Xt fa59_1 rfl (Yb Bx15_b2 u57 rfl (Xc rfl (ix' A21 u57 z25 rfl (fun ad23 es23 h0_23 h1_23 he23 ce23 ia23 => ?_)))))))))
  obtain ⟨v23, rfl, he23'⟩ := he23
  have A23 : RdF Yo s18 [v23] (at_ a0.Slots x15.2) [0] := ⟨v23, rfl, he23'⟩
  refine lc0' ce23 u25 rfl (Yl A23 u25 rfl (cv' u5 u3 rfl (ltF' (K := (Kd.int .u8)) (cells := [(.int .u8 (IntKind.wrap .u8 ((at_ a0.Slots x15.2).length : Int)))]) [(IntKind.wrap .u8 ((at_ a0.Slots x15.2).length : Int))] 43 Xv u25 z5 o5 (fun w => (Yf _ _ _)) rfl (fun v26 s26 p26 A26 => ?_))))
  refine apF' Xv sl25 (Ax15_0.st p26 rfl) A26.rd rfl (fun v29 s29 p29 A29 => ?_)
  refine Yd v29 rfl (dn (ib (rg (Xc rfl (Xc rfl (Xc rfl (dn ?_)))))))
  exact lb ih15 ⟨s29, _, v29, rfl, (ue (ue (ue rfl rfl) rfl) rfl), (Kx15.st (Xq p26 p29) rfl), A29, (Bx15_b2.st (Xq p26 p29) rfl)⟩
 refine xt rfl (sgb (sq (sr (Xc rfl (dn (bl (lpI (fun (x33 : (List Int) × Int) e w => ∃ (s : St) (e0 : Env) (vx33_0 : Value), w = s.w ∧ e = upd (upd (upd e0 1 (pB b2)) 3 vx33_0) 5 (iI x33.2) ∧ Kp s0 s ∧ OwF Yo s [vx33_0] x33.1 42 ∧ BlF s b2 59 [(iI a0.Lsn), w0_0] 40) ⟨s18, _, vx15_0, rfl, (ue (ue (ue rfl rfl) rfl) rfl), Kx15, Ax15_0, Bx15_b2⟩ (fun g33 ih33 => ?_))))))))
 rintro x33 _ _ ⟨s34, _, vx33_0, rfl, rfl, Kx33, Ax33_0, Bx33_b2⟩
 unfold spec_PageBytes.b1
 refine sq (sr (Xc rfl (Xt fa59_1 rfl (Yb Bx33_b2 u57 rfl ?_))))
 have A37 := A0_0.kp Kx33
 refine Yl A37 u57 rfl (Xc rfl (dn (cd rfl (fun h38 => ?_) (fun h38 => ?_))))
 ·
  refine sk (sq (bl (rg (Xx vx33_0 rfl (Xt fa59_1 rfl (Yb Bx33_b2 u57 rfl (Xc rfl (ix' A37 u57 z25 rfl (fun ad39 es39 h0_39 h1_39 he39 ce39 ia39 => ?_)))))))))
  obtain ⟨v39, rfl, he39'⟩ := he39
  have A39 : RdF Yo s34 [v39] (at_ a0.Slots x33.2) [0] := ⟨v39, rfl, he39'⟩
  refine lc0' ce39 u25 rfl (apF' Xv sl25 Ax33_0 A39 rfl (fun v42 s42 p42 A42 => ?_))
  refine Yd v42 rfl (dn (ib (rg (Xc rfl (Xc rfl (Xc rfl (dn ?_)))))))
  exact lb ih33 ⟨s42, _, v42, rfl, (ue (ue (ue rfl rfl) rfl) rfl), (Kx33.st p42 rfl), A42, (Bx33_b2.st p42 rfl)⟩
 refine xt rfl (sgb (sq (bl (lpI (fun (x46 : (List Int)) e w => ∃ (s : St) (e0 : Env) (vx46_0 : Value), w = s.w ∧ e = upd (upd e0 1 (pB b2)) 3 vx46_0 ∧ Kp s0 s ∧ OwF Yo s [vx46_0] x46 42 ∧ BlF s b2 59 [(iI a0.Lsn), w0_0] 40) ⟨s34, _, vx33_0, rfl, (ue (ue rfl rfl) rfl), Kx33, Ax33_0, Bx33_b2⟩ (fun g46 ih46 => ?_)))))
 rintro x46 _ _ ⟨s47, _, vx46_0, rfl, rfl, Kx46, Ax46_0, Bx46_b2⟩
 unfold spec_PageBytes.b2
 refine sq (sr (Xx vx46_0 rfl (Yl Ax46_0.rd u25 rfl (Xc rfl (dn (cd rfl (fun h50 => ?_) (fun h50 => ?_)))))))
 ·
  refine sk (bl (rg (Xx vx46_0 rfl (ltF' (K := (Kd.int .u8)) (cells := [(.int .u8 (0 : Int))]) [(0 : Int)] 44 Xv u25 z5 o5 (fun w => (Yf _ _ _)) rfl (fun v51 s51 p51 A51 => ?_)))))
  refine apF' Xv sl25 (Ax46_0.st p51 rfl) A51.rd rfl (fun v54 s54 p54 A54 => ?_)
  refine Yd v54 rfl (dn (ib ?_))
  exact lb ih46 ⟨s54, _, v54, rfl, (ue (ue rfl rfl) rfl), (Kx46.st (Xq p51 p54) rfl), A54, (Bx46_b2.st (Xq p51 p54) rfl)⟩
 refine xt rfl (sgb (sr (Xc rfl (dn (sq (sr (Xc rfl (dn (bl (lpI (fun (x58 : (List Int) × Int) e w => ∃ (s : St) (e0 : Env) (vx58_0 : Value), w = s.w ∧ e = upd (upd (upd (upd e0 1 (pB b2)) 3 vx46_0) 6 vx58_0) 7 (iI x58.2) ∧ Kp s0 s ∧ OwF Yo s [vx58_0] x58.1 45 ∧ BlF s b2 59 [(iI a0.Lsn), w0_0] 40 ∧ OwF Yo s [vx46_0] x46 42) ⟨s47, _, (.slice none 0 0), rfl, (ue (ue (ue (ue rfl rfl) rfl) rfl) rfl), Kx46, (Yk 5 (Kd.int .u8) _ 45), Bx46_b2, Ax46_0⟩ (fun g58 ih58 => ?_)))))))))))
 rintro x58 _ _ ⟨s59, _, vx58_0, rfl, rfl, Kx58, Ax58_0, Bx58_b2, Cx58_48⟩
 unfold spec_PageBytes.b3
 refine sq (sr (Xc rfl (Xx vx46_0 rfl (Yl Cx58_48.rd u25 rfl (Xc rfl (dn (cd rfl (fun h62 => ?_) (fun h62 => ?_))))))))
 ·
  refine sk (sq (bl (sr (Xx vx58_0 rfl (Xt fa59_0 rfl (Yb Bx58_b2 u3 rfl (clO 46 rfl func76 rfl (spec_PutNum.calls a0.Lsn (4 : Int) s59.w (mm [] s59)) (fun r63 v63_0 s64 p64 A63_0 => ?_))))))))
  refine apF' Xv sl25 (Ax58_0.st p64 rfl) A63_0.rd rfl (fun v67 s67 p67 A67 => ?_)
  refine Yd v67 rfl (dn (rg (Xx v67 rfl (Xx vx46_0 rfl (Xc rfl (Xc rfl (Xc rfl ?_)))))))
  have A69 := Cx58_48.st (Xq p64 p67) rfl
  refine slb A69.rd u25 z5 rfl rfl rfl rfl rfl rfl rfl rfl (fun v70 A70 => ?_)
  refine apF' Xv sl25 A67 A70 rfl (fun v72 s72 p72 A72 => ?_)
  refine Yd v72 rfl (dn (ib (rg (Xc rfl (Xc rfl (Xc rfl (dn ?_)))))))
  exact lb ih58 ⟨s72, _, v72, rfl, (ue (ue (ue (ue rfl rfl) rfl) rfl) rfl), (Kx58.st (Yi p64 p67 p72) rfl), A72, (Bx58_b2.st (Yi p64 p67 p72) rfl), (A69.st p72 rfl)⟩
 exact xt rfl (sgb (sr (Xx vx58_0 rfl (Yd vx58_0 rfl (dn (re rfl func48 rfl (Xs rfl Xe) rfl ⟨_, rfl, Ax58_0.fo Kx58 rfl z.l, z.ky Kx58⟩))))))
def spec_PageRead.b1 (a0 : (List Int)) (r15 : Int × Bool) (x20 : (List Int) × Int) (x38 : Int × Int × (List (List Int))) : Option ((Int × Int × (List (List Int))) ⊕ (Page × Bool)) :=
 (if ((decide (x38.2.1 < (IntKind.wrap .i64 (at_ x20.1 (0 : Int))))) && (decide ((IntKind.wrap .i64 ((1 : Int) + x38.2.1)) < (x20.1.length : Int)))) = true then (if 0 ≤ (IntKind.wrap .i64 ((1 : Int) + x38.2.1)) ∧ (IntKind.wrap .i64 ((1 : Int) + x38.2.1)) < (x20.1.length : Int) then (if ((decide (x38.1 > (x20.1.length : Int))) || (decide ((IntKind.wrap .i64 (at_ x20.1 (IntKind.wrap .i64 ((1 : Int) + x38.2.1)))) > (IntKind.wrap .i64 ((x20.1.length : Int) - x38.1))))) = true then (some (Sum.inr ((Page.mk (0 : Int) ([] : (List (List Int)))), false))) else ((if 0 ≤ x38.1 ∧ x38.1 ≤ (IntKind.wrap .i64 (x38.1 + (IntKind.wrap .i64 (at_ x20.1 (IntKind.wrap .i64 ((1 : Int) + x38.2.1)))))) ∧ (IntKind.wrap .i64 (x38.1 + (IntKind.wrap .i64 (at_ x20.1 (IntKind.wrap .i64 ((1 : Int) + x38.2.1)))))) ≤ (x20.1.length : Int) then (if ([] : (List Int)).length + ((x20.1.take ((IntKind.wrap .i64 (x38.1 + (IntKind.wrap .i64 (at_ x20.1 (IntKind.wrap .i64 ((1 : Int) + x38.2.1))))))).toNat).drop (x38.1).toNat).length ≤ Lim then (some ([(([] : (List Int)) ++ ((x20.1.take ((IntKind.wrap .i64 (x38.1 + (IntKind.wrap .i64 (at_ x20.1 (IntKind.wrap .i64 ((1 : Int) + x38.2.1))))))).toNat).drop (x38.1).toNat))])) else none) else none).bind fun y63 => (if x38.2.2.length + y63.length ≤ Lim then (some (Sum.inl ((IntKind.wrap .i64 (x38.1 + (IntKind.wrap .i64 (at_ x20.1 (IntKind.wrap .i64 ((1 : Int) + x38.2.1)))))), (IntKind.wrap .i64 (x38.2.1 + (1 : Int))), (x38.2.2 ++ y63)))) else none))) else none) else (((spec_PageBytes.f (Page.mk r15.1 x38.2.2)).bind fun r147 => (if (!((str r147).toList == (str a0).toList)) = true then (some ((Page.mk (0 : Int) ([] : (List (List Int)))), false)) else (some ((Page.mk r15.1 x38.2.2), true)))).bind fun o => some (Sum.inr o)))
def spec_PageRead.b0 (a0 : (List Int)) (r15 : Int × Bool) (x20 : (List Int) × Int) : Option (((List Int) × Int) ⊕ (Page × Bool)) :=
 (if (decide (x20.2 < (a0.length : Int))) = true then (if 0 ≤ (IntKind.wrap .i64 (x20.2 + (4 : Int))) ∧ (IntKind.wrap .i64 (x20.2 + (4 : Int))) ≤ (IntKind.wrap .i64 (x20.2 + (64 : Int))) ∧ (IntKind.wrap .i64 (x20.2 + (64 : Int))) ≤ (a0.length : Int) then (if x20.1.length + ((a0.take ((IntKind.wrap .i64 (x20.2 + (64 : Int)))).toNat).drop ((IntKind.wrap .i64 (x20.2 + (4 : Int)))).toNat).length ≤ Lim then (some (Sum.inl ((x20.1 ++ ((a0.take ((IntKind.wrap .i64 (x20.2 + (64 : Int)))).toNat).drop ((IntKind.wrap .i64 (x20.2 + (4 : Int)))).toNat)), (IntKind.wrap .i64 (x20.2 + (64 : Int)))))) else none) else none) else ((if 0 ≤ (0 : Int) ∧ (0 : Int) < (x20.1.length : Int) then (iter (spec_PageRead.b1 a0 r15 x20) ((IntKind.wrap .i64 ((1 : Int) + (IntKind.wrap .i64 (at_ x20.1 (0 : Int))))), (0 : Int), ([] : (List (List Int))))) else none).bind fun o => some (Sum.inr o)))
def spec_PageRead.f (a0 : (List Int)) : Option (Page × Bool) :=
 (if ((a0.length : Int) != (256 : Int)) = true then (some ((Page.mk (0 : Int) ([] : (List (List Int)))), false)) else ((spec_GetNum.f a0 (0 : Int) (4 : Int)).bind fun r15 => (iter (spec_PageRead.b0 a0 r15) (([] : (List Int)), (0 : Int)))))
def spec_PageRead.Q (w : World) (F : Nat → Prop) (r : Page × Bool) (v : Value) (w' : World) : Prop :=
 ∃ (v0 : Value), v = .tuple #[(.agg #[(iI r.1.Lsn), v0]), (.bool r.2)] ∧ FO kd59 w w' [(iI r.1.Lsn), v0] r.1 ∧ Ky [] w w'
theorem spec_PageRead.calls (a0 : (List Int)) (w : World) (F : Nat → Prop) (w0_0 : Value) (h0_0 : Yo.rd w [w0_0] a0 F) (r : Page × Bool) (m : spec_PageRead.f a0 = some r) :
  Calls prog 27 #[w0_0] w (RT (spec_PageRead.Q w F) r) := by
 obtain ⟨s0, rfl, kp0, z⟩ := Xk w F
 have A0_0 := z.rd h0_0
 refine Xd (args := [w0_0]) func27 ntmps27 rfl rfl m ?_
 unfold spec_PageRead.f
 refine sr (al' (cs := [(iI 0), (.slice none 0 0)]) 40 rfl o59 rfl (fun b2 s2 p2 B2 => ?_))
 refine Xc rfl (dn (sr (al' (cs := [(iI 0), (.slice none 0 0)]) 41 rfl o59 rfl (fun b4 s4 p4 B4 => ?_))))
 refine dn (sq (sr (Xx w0_0 rfl ?_)))
 have K6 := kp0.st (Xq p2 p4) rfl
 have A7 := A0_0.kp K6
 refine Yl A7 u25 rfl (Xc rfl (dn (cd rfl (fun h8 => ?_) (fun h8 => ?_))))
 ·
  refine sr (Xw (es := [(iI 0), (.slice none 0 0)]) B4 u59 z59 rfl ?_)
  refine Xu (vs := [(iI 0), (.slice none 0 0)]) (B2.st p4 rfl) z59 rfl (Xb rfl (Xb rfl Xi)) rfl (fun s10 p10 B10 => ?_)
  refine Xc rfl (dn ?_)
  have A12 : OwF kd59 s10 [(iI 0), (.slice none 0 0)] (Page.mk (0 : Int) ([] : (List (List Int)))) 42 := ow_z _ _ (Xz (fun x : Page => (x.Lsn, x.Slots)) (Page.mk (0 : Int) ([] : (List (List Int)))) (Xh (Xf .i64 (0 : Int)) (Ya 25 Yo)))
  have K14 := K6.st p10 rfl
  exact re rfl func27 rfl (r_b B10 u59 rfl z59 rfl (Xs rfl Xe)) rfl ⟨_, rfl, (.slice none 0 0), rfl, A12.fo K14 rfl z.l, z.ky K14⟩
 refine sk (sr (Xx w0_0 rfl (Ym 43 rfl func47 rfl (spec_GetNum.calls a0 (0 : Int) (4 : Int) s4.w (mm [0] s4) w0_0 A7) (fun r15 s16 p16 n16 => ?_))))
 refine Xc rfl (Xc (v := (iI r15.1)) rfl (Xc (v := (.bool r15.2)) rfl (Xt fa59_0 rfl ?_)))
 refine sv' (B4.st p16 rfl) z3 rfl rfl rfl (fun s18 p18 B18 => ?_)
 refine dn (sr (Xc rfl (dn (sq (sr (Xc rfl (dn (bl ?_))))))))
 refine lpI (fun (x20 : (List Int) × Int) e w => ∃ (s : St) (e0 : Env) (vx20_0 : Value), w = s.w ∧ e = upd (upd (upd (upd (upd e0 0 w0_0) 2 (pB b2)) 4 (pB b4)) 5 vx20_0) 6 (iI x20.2) ∧ Kp s0 s ∧ OwF Yo s [vx20_0] x20.1 44 ∧ BlF s b4 59 [(iI r15.1), (.slice none 0 0)] 41 ∧ BlF s b2 59 [(iI 0), (.slice none 0 0)] 40) ⟨s18, _, (.slice none 0 0), rfl, (ue (ue (ue (ue (ue rfl rfl) rfl) rfl) rfl) rfl), (K6.st (Xq p16 p18) rfl), (Yk 5 (Kd.int .u8) _ 44), B18, (B2.st (Yi p4 p16 p18) rfl)⟩ (fun g20 ih20 => ?_)
 rintro x20 _ _ ⟨s23, _, vx20_0, rfl, rfl, Kx20, Ax20_0, Bx20_b4, Bx20_b2⟩
 unfold spec_PageRead.b0
 refine sq (sr (Xc rfl (Xx w0_0 rfl ?_)))
 have A27 := A0_0.kp Kx20
 refine Yl A27 u25 rfl (Xc rfl (dn (cd rfl (fun h28 => ?_) (fun h28 => ?_))))
 ·
  refine sk (sq (bl (rg (Xx vx20_0 rfl (Xx w0_0 rfl (Xc rfl (Xc rfl (Xc rfl (Xc rfl (slb A27 u25 z5 rfl rfl rfl rfl rfl rfl rfl rfl (fun v29 A29 => ?_)))))))))))
  refine apF' Xv sl25 Ax20_0 A29 rfl (fun v31 s31 p31 A31 => ?_)
  refine Yd v31 rfl (dn (ib (rg (Xc rfl (Xc rfl (Xc rfl (dn ?_)))))))
  exact lb ih20 ⟨s31, _, v31, rfl, (ue (ue (ue (ue (ue rfl rfl) rfl) rfl) rfl) rfl), (Kx20.st p31 rfl), A31, (Bx20_b4.st p31 rfl), (Bx20_b2.st p31 rfl)⟩
 refine xt rfl (sgb (sr (Xx vx20_0 rfl (ix' Ax20_0.rd u25 z5 rfl (fun ad36 es36 h0_36 h1_36 he36 ce36 ia36 => ?_)))))
 obtain rfl := he36
 refine lc0' ce36 u5 rfl (cv' u3 u5 rfl (Xc rfl (dn (sr (Xc rfl (Xc rfl (Xc rfl (dn (sq (sr (Xc rfl (dn (bl (lpI (fun (x38 : Int × Int × (List (List Int))) e w => ∃ (s : St) (e0 : Env) (vx38_0 : Value), w = s.w ∧ e = upd (upd (upd (upd (upd (upd (upd e0 0 w0_0) 2 (pB b2)) 4 (pB b4)) 5 vx20_0) 7 (iI (IntKind.wrap .i64 (at_ x20.1 (0 : Int))))) 8 (iI x38.1)) 9 (iI x38.2.1) ∧ Kp s0 s ∧ OwF (Kd.sl 25 Yo) s [vx38_0] x38.2.2 45 ∧ BlF s b4 59 [(iI r15.1), vx38_0] 41 ∧ BlF s b2 59 [(iI 0), (.slice none 0 0)] 40 ∧ OwF Yo s [vx20_0] x20.1 44) ⟨s23, _, (.slice none 0 0), rfl, (ue (ue (ue (ue (ue (ue (ue rfl rfl) rfl) rfl) rfl) rfl) rfl) rfl), Kx20, (Yk 25 Yo _ 45), Bx20_b4, Bx20_b2, Ax20_0⟩ (fun g38 ih38 => ?_)))))))))))))))
 rintro x38 _ _ ⟨s39, _, vx38_0, rfl, rfl, Kx38, Ax38_0, Bx38_b4, Bx38_b2, Cx38_24⟩
 unfold spec_PageRead.b1
 refine sq (sr (Xc rfl (Xc rfl (Xc rfl (Xc rfl (jy [44, 45, 46, 47, 48, 49, 50] [] 50 (.bool ((decide (x38.2.1 < (IntKind.wrap .i64 (at_ x20.1 (0 : Int))))) && (decide ((IntKind.wrap .i64 ((1 : Int) + x38.2.1)) < (x20.1.length : Int))))) rfl (fun Kg43 => ?_) (fun j43 => ?_)))))))
 ·
  rcases Yn (decide (x38.2.1 < (IntKind.wrap .i64 (at_ x20.1 (0 : Int))))) with hb43 | hb43
  ·
   exact Xy hb43 (Xc rfl (Xc rfl (Xx vx20_0 rfl (Yl Cx38_24.rd u25 rfl (Xc rfl (Xc rfl (Kg43 _ (Ag.put ((Ag.put ((Ag.put ((Ag.put ((Ag.put ((Ag.put (Ag.base rfl) rfl)) rfl)) rfl)) rfl)) rfl)) rfl) (by rw [hb43]; rfl))))))))
  exact Xy hb43 (Xj rfl (Xj rfl (Xj rfl (Xj rfl (Xj rfl (Xc rfl (Kg43 _ (Ag.put ((Ag.put ((Ag.put ((Ag.put ((Ag.put ((Ag.put (Ag.base rfl) rfl)) rfl)) rfl)) rfl)) rfl)) rfl) (by rw [hb43]; rfl))))))))
 refine dn (cd rfl (fun h44 => ?_) (fun h44 => ?_))
 ·
  refine sk (sq (bl (sr (Xx vx20_0 rfl (Xc rfl (Xc rfl (ix' Cx38_24.rd u25 z5 rfl (fun ad45 es45 h0_45 h1_45 he45 ce45 ia45 => ?_))))))))
  obtain rfl := he45
  refine lc0' ce45 u5 rfl (cv' u3 u5 rfl (Xc rfl (dn (sq (sr (Xc rfl (Xx vx20_0 rfl (Yl Cx38_24.rd u25 rfl (Xc rfl (Xc rfl (jy [63, 64, 65, 66, 67, 68, 69, 70] [] 70 (.bool ((decide (x38.1 > (x20.1.length : Int))) || (decide ((IntKind.wrap .i64 (at_ x20.1 (IntKind.wrap .i64 ((1 : Int) + x38.2.1)))) > (IntKind.wrap .i64 ((x20.1.length : Int) - x38.1)))))) rfl (fun Kg47 => ?_) (fun j47 => ?_))))))))))))
  ·
   rcases Yn (decide (x38.1 > (x20.1.length : Int))) with hb47 | hb47
   ·
    exact Xy hb47 (Xj rfl (Xj rfl (Xj rfl (Xj rfl (Xj rfl (Xj rfl (Xc rfl (Kg47 _ (Ag.put ((Ag.put ((Ag.put ((Ag.put ((Ag.put ((Ag.put ((Ag.put (Ag.base rfl) rfl)) rfl)) rfl)) rfl)) rfl)) rfl)) rfl) (by rw [hb47]; rfl)))))))))
   exact Xy hb47 (Xc rfl (Xx vx20_0 rfl (Yl Cx38_24.rd u25 rfl (Xc rfl (Xc rfl (Xc rfl (Xc rfl (Kg47 _ (Ag.put ((Ag.put ((Ag.put ((Ag.put ((Ag.put ((Ag.put ((Ag.put (Ag.base rfl) rfl)) rfl)) rfl)) rfl)) rfl)) rfl)) rfl) (by rw [hb47]; rfl)))))))))
  refine dn (cd rfl (fun h48 => ?_) (fun h48 => ?_))
  ·
   refine sr (bd' (cells := [(iI 0), (.slice none 0 0)]) pl59 o59 rfl rfl (Xu (vs := [(iI 0), (.slice none 0 0)]) Bx38_b2 z59 rfl (Xb rfl (Xb rfl Xi)) rfl (fun s49 p49 B49 => ?_)))
   refine Xc rfl (dn (sgi ?_))
   have A51 : OwF kd59 s49 [(iI 0), (.slice none 0 0)] (Page.mk (0 : Int) ([] : (List (List Int)))) 46 := ow_z _ _ (Xz (fun x : Page => (x.Lsn, x.Slots)) (Page.mk (0 : Int) ([] : (List (List Int)))) (Xh (Xf .i64 (0 : Int)) (Ya 25 Yo)))
   have K53 := Kx38.st p49 rfl
   exact re rfl func27 rfl (r_b B49 u59 rfl z59 rfl (Xs rfl Xe)) rfl ⟨_, rfl, (.slice none 0 0), rfl, A51.fo K53 rfl z.l, z.ky K53⟩
  refine sk (sq (zdraw [[], [0], [], [], [], [], [], [5, 6], [3, 4, 7], [2, 8], [9], [1, 10, 9], [0, 1, 2, 3, 4, 5, 6, 7, 8, 9, 10, 11], [12, 11, 11, 0, 1, 2, 3, 4, 5, 6, 7, 8, 9, 10, 11]] [some 72, some 73, some 74, some 75, some 76, some 77, some 78, some 79, some 80, some 81, some 82, some 83, some 84, none] [[4], [72], [], [5], [8], [8], [10], [77, 78], [75, 76, 79], [74, 80], [81], [73, 82], [4], [84, 83]] [0, 1, 2, 3, 4, 5, 6, 7, 8, 9, 10, 11, 12, 13] ⟨by kernel_rfl, by kernel_rfl, by kernel_rfl⟩ (by kernel_rfl) (fun s54 p54 l54 tb54 zd54 => ?_)))
  refine ji [11, 12, 13] (fun (y63 : (List (List Int))) e w => ∃ (s : St) (e0 : Env) (vy63_0 : Value), w = s.w ∧ e = upd (upd (upd (upd (upd (upd (upd (upd (upd (upd e0 0 w0_0) 2 (pB b2)) 4 (pB b4)) 5 vx20_0) 7 (iI (IntKind.wrap .i64 (at_ x20.1 (0 : Int))))) 8 (iI x38.1)) 9 (iI x38.2.1)) 10 (iI (IntKind.wrap .i64 (at_ x20.1 (IntKind.wrap .i64 ((1 : Int) + x38.2.1)))))) 73 vx38_0) 82 vy63_0 ∧ Kp s0 s ∧ OwF (Kd.sl 25 Yo) s [vy63_0] y63 47 ∧ BlF s b4 59 [(iI r15.1), vx38_0] 41 ∧ BlF s b2 59 [(iI 0), (.slice none 0 0)] 40 ∧ OwF Yo s [vx20_0] x20.1 44 ∧ OwF (Kd.sl 25 Yo) s [vx38_0] x38.2.2 45) (fun Gj63 Kj63 => ?_) ?_
  ·
   refine zstep2 2 8 [some 79, some 78, some 77, some 76, some 75, some 73, some 72] [some 73, some 72] tb54 (((((((zd54.add 0 72 (pO b4 1) rfl).add 1 73 vx38_0 rfl).add 3 75 vx20_0 rfl).add 4 76 (iI x38.1) rfl).add 5 77 (iI x38.1) rfl).add 6 78 (iI (IntKind.wrap .i64 (at_ x20.1 (IntKind.wrap .i64 ((1 : Int) + x38.2.1))))) rfl).add 7 79 (iI (IntKind.wrap .i64 (x38.1 + (IntKind.wrap .i64 (at_ x20.1 (IntKind.wrap .i64 ((1 : Int) + x38.2.1))))))) rfl) (Xa (Xm rfl) rfl (Xa (Xm rfl) rfl (Xa (Xm rfl) rfl (Xa (Xm rfl) rfl (Xa (Xn vx20_0 rfl) rfl (Xa (Xp (Bx38_b4.st p54 rfl) u57 rfl) rfl (Xa (Xr fa59_1 rfl) rfl Xg))))))) (by kernel_rfl) (by kernel_rfl) (fun l64 e64 zd64 => ?_) (fun l65 e65 zd65 => ?_)
   ·
    refine lt0 (K := (Kd.int .u8)) 48 u25 z5 rfl rfl rfl rfl rfl (fun v67 s67 p67 A67 => ?_)
    refine Xl (L' := [7, 6, 5, 4, 3, 1, 0]) (D' := [2]) zd64 rfl (fun zd69 => ?_)
    refine Yc 8 [some 73, some 72] tb54 zd69 (Xa (Xm rfl) rfl (Xa (Xm rfl) rfl (Xa (Xm rfl) rfl (Xa (Xm rfl) rfl (Xa (Xn vx20_0 rfl) rfl (Xa (Xp (Bx38_b4.st (Xq p54 p67) rfl) u57 rfl) rfl (Xa (Xr fa59_1 rfl) rfl Xg))))))) (by kernel_rfl) rfl (fun l70 e70 zd70 => ?_)
    have A72 := Cx38_24.st (Xq p54 p67) rfl
    refine slb A72.rd u25 z5 rfl rfl rfl rfl rfl rfl rfl rfl (fun v73 A73 => ?_)
    refine Xl (L' := [1, 0]) (D' := [5, 6, 3, 4, 7, 8, 2]) zd70 rfl (fun zd75 => ?_)
    refine Yc 9 [some 73, some 72] tb54 zd75 (Xa (Xp (Bx38_b4.st (Xq p54 p67) rfl) u57 rfl) rfl (Xa (Xr fa59_1 rfl) rfl Xg)) (by kernel_rfl) rfl (fun l76 e76 zd76 => ?_)
    refine apF' Xv sl25 A67 A73 rfl (fun v78 s78 p78 A78 => ?_)
    refine Xl (L' := [1, 0]) (D' := [9, 5, 6, 3, 4, 7, 8, 2]) zd76 rfl (fun zd80 => ?_)
    refine Yc 10 [some 73, some 72] tb54 zd80 (Xa (Xp (Bx38_b4.st (Yi p54 p67 p78) rfl) u57 rfl) rfl (Xa (Xr fa59_1 rfl) rfl Xg)) (by kernel_rfl) rfl (fun l81 e81 zd81 => ?_)
    refine ltO (K := Yo) (cells := [v78]) [(([] : (List Int)) ++ ((x20.1.take ((IntKind.wrap .i64 (x38.1 + (IntKind.wrap .i64 (at_ x20.1 (IntKind.wrap .i64 ((1 : Int) + x38.2.1))))))).toNat).drop (x38.1).toNat))] 48 u57 z25 o25 (lo_one A78) rfl rfl rfl rfl rfl rfl rfl rfl rfl (lfill_pc (pc_c (oc A78.rd.one) pc_n) rfl) (fun v84 s84 p84 A84 => ?_)
    refine Xl (L' := [1, 0]) (D' := [10, 9, 5, 6, 3, 4, 7, 8, 2]) zd81 rfl (fun zd86 => ?_)
    refine zfin [11, 12, 13] tb54 zd86 (Xa (Xp (Bx38_b4.st (tr4 p54 p67 p78 p84) rfl) u57 rfl) rfl (Xa (Xr fa59_1 rfl) rfl Xg)) (by kernel_rfl) (by decide) ?_
    obtain ⟨s88, hw88, p88, A88⟩ := A84.rc 47 rfl
    rw [hw88]
    exact Kj63 _ _ _ ⟨s88, _, v84, rfl, (ue (ue (ue (ue (ue (ue (ue (ue (ue (ue rfl rfl) rfl) rfl) rfl) rfl) rfl) rfl) rfl) rfl) rfl), (Kx38.st (tr5 p54 p67 p78 p84 p88) rfl), A88, (Bx38_b4.st (tr5 p54 p67 p78 p84 p88) rfl), (Bx38_b2.st (tr5 p54 p67 p78 p84 p88) rfl), (A72.st (Yi p78 p84 p88) rfl), (Ax38_0.st (tr5 p54 p67 p78 p84 p88) rfl)⟩
   have A94 := Cx38_24.st p54 rfl
   refine slb A94.rd u25 z5 rfl rfl rfl rfl rfl rfl rfl rfl (fun v95 A95 => ?_)
   refine Xl (L' := [1, 0]) (D' := [5, 6, 3, 4, 7, 8]) zd65 rfl (fun zd97 => ?_)
   refine Yc 2 [some 73, some 72] tb54 zd97 (Xa (Xp (Bx38_b4.st p54 rfl) u57 rfl) rfl (Xa (Xr fa59_1 rfl) rfl Xg)) (by kernel_rfl) rfl (fun l98 e98 zd98 => ?_)
   refine lt0 (K := (Kd.int .u8)) 50 u25 z5 rfl rfl rfl rfl rfl (fun v100 s100 p100 A100 => ?_)
   refine Xl (L' := [1, 0]) (D' := [2, 5, 6, 3, 4, 7, 8]) zd98 rfl (fun zd102 => ?_)
   refine Yc 9 [some 73, some 72] tb54 zd102 (Xa (Xp (Bx38_b4.st (Xq p54 p100) rfl) u57 rfl) rfl (Xa (Xr fa59_1 rfl) rfl Xg)) (by kernel_rfl) rfl (fun l103 e103 zd103 => ?_)
   refine apF' Xv sl25 A100 (A95.st p100 rfl) rfl (fun v106 s106 p106 A106 => ?_)
   refine Xl (L' := [1, 0]) (D' := [9, 2, 5, 6, 3, 4, 7, 8]) zd103 rfl (fun zd108 => ?_)
   refine Yc 10 [some 73, some 72] tb54 zd108 (Xa (Xp (Bx38_b4.st (Yi p54 p100 p106) rfl) u57 rfl) rfl (Xa (Xr fa59_1 rfl) rfl Xg)) (by kernel_rfl) rfl (fun l109 e109 zd109 => ?_)
   refine ltO (K := Yo) (cells := [v106]) [(([] : (List Int)) ++ ((x20.1.take ((IntKind.wrap .i64 (x38.1 + (IntKind.wrap .i64 (at_ x20.1 (IntKind.wrap .i64 ((1 : Int) + x38.2.1))))))).toNat).drop (x38.1).toNat))] 50 u57 z25 o25 (lo_one A106) rfl rfl rfl rfl rfl rfl rfl rfl rfl (lfill_pc (pc_c (oc A106.rd.one) pc_n) rfl) (fun v112 s112 p112 A112 => ?_)
   refine Xl (L' := [1, 0]) (D' := [10, 9, 2, 5, 6, 3, 4, 7, 8]) zd109 rfl (fun zd114 => ?_)
   refine zfin [11, 12, 13] tb54 zd114 (Xa (Xp (Bx38_b4.st (tr4 p54 p100 p106 p112) rfl) u57 rfl) rfl (Xa (Xr fa59_1 rfl) rfl Xg)) (by kernel_rfl) (by decide) ?_
   obtain ⟨s116, hw116, p116, A116⟩ := A112.rc 47 rfl
   rw [hw116]
   exact Kj63 _ _ _ ⟨s116, _, v112, rfl, (ue (ue (ue (ue (ue (ue (ue (ue (ue (ue rfl rfl) rfl) rfl) rfl) rfl) rfl) rfl) rfl) rfl) rfl), (Kx38.st (tr5 p54 p100 p106 p112 p116) rfl), A116, (Bx38_b4.st (tr5 p54 p100 p106 p112 p116) rfl), (Bx38_b2.st (tr5 p54 p100 p106 p112 p116) rfl), (A94.st (tr4 p100 p106 p112 p116) rfl), (Ax38_0.st (tr5 p54 p100 p106 p112 p116) rfl)⟩
  rintro y63 _ _ ⟨s122, _, vy63_0, rfl, rfl, Ky63, Ay63_0, By63_b4, By63_b2, Cy63_24, Cy63_40⟩
  refine apO sl57 Cy63_40 Ay63_0 rfl rfl rfl rfl rfl rfl rfl rfl rfl (fun v126 s126 p126 A126 => ?_)
  refine Xt fa59_1 rfl (sv' (By63_b4.st p126 rfl) z57 rfl A126.rd.one rfl (fun s129 p129 B129 => ?_))
  refine dn (rg (Xc rfl (Xc rfl (Xc rfl (Xc rfl (dn (ib (rg (Xc rfl (Xc rfl (Xc rfl (dn ?_))))))))))))
  exact lb ih38 ⟨s129, _, v126, rfl, (ue (ue (ue (ue (ue (ue (ue rfl rfl) rfl) rfl) rfl) rfl) rfl) rfl), (Ky63.st (Xq p126 p129) rfl), (A126.st p129 rfl), B129, (By63_b2.st (Xq p126 p129) rfl), (Cy63_24.st (Xq p126 p129) rfl)⟩
 refine xt rfl (sgb (sq (sq (zdraw [[], [0], [1], [], [3], [2, 4]] [some 88, some 89, some 90, some 91, some 92, some 93] [[4], [88], [89], [0], [91], [90, 92]] [0, 1, 2, 3, 4, 5] ⟨by kernel_rfl, by kernel_rfl, by kernel_rfl⟩ (by kernel_rfl) (fun s135 p135 l135 tb135 zd135 => ?_)))))
 refine Yc 1 [some 92, some 91] tb135 (((zd135.add 0 88 (.agg #[(iI r15.1), vx38_0]) rfl).add 3 91 w0_0 rfl).add 4 92 (.string (str a0)) rfl) (Xa (b2s_q (A0_0.kp (Kx38.st p135 rfl)) u25 u9 u5 rfl rfl rfl rfl rfl rfl) rfl (Xa (Xn w0_0 rfl) rfl (Xa (lda_q' (es := [(iI r15.1), vx38_0]) (Bx38_b4.st p135 rfl) u59 z59 rfl) rfl Xg))) (by kernel_rfl) rfl (fun l142 e142 zd142 => ?_)
 have A146 := Ax38_0.st p135 rfl
 refine clO 52 rfl func48 rfl (spec_PageBytes.calls (Page.mk r15.1 x38.2.2) s135.w (mm [45] s135) vx38_0 A146.rd) (fun r147 v147_0 s148 p148 A147_0 => ?_)
 refine Xl (L' := [4, 3]) (D' := [0, 1]) zd142 rfl (fun zd150 => ?_)
 refine zfin [5] tb135 (zd150.add 2 90 (.string (str r147)) rfl) (Xa (b2s_q A147_0.rd u25 u9 u5 rfl rfl rfl rfl rfl rfl) rfl (Xa (b2s_q (A0_0.kp (Kx38.st (Xq p135 p148) rfl)) u25 u9 u5 rfl rfl rfl rfl rfl rfl) rfl (Xa (Xn w0_0 rfl) rfl Xg))) (by kernel_rfl) (by decide) (Xc rfl (dn (cd rfl (fun h154 => ?_) (fun h154 => ?_))))
 ·
  refine sr (bd' (cells := [(iI 0), (.slice none 0 0)]) pl59 o59 rfl rfl ?_)
  refine Xu (vs := [(iI 0), (.slice none 0 0)]) (Bx38_b2.st (Xq p135 p148) rfl) z59 rfl (Xb rfl (Xb rfl Xi)) rfl (fun s156 p156 B156 => ?_)
  refine Xc rfl (dn ?_)
  have A158 : OwF kd59 s156 [(iI 0), (.slice none 0 0)] (Page.mk (0 : Int) ([] : (List (List Int)))) 53 := ow_z _ _ (Xz (fun x : Page => (x.Lsn, x.Slots)) (Page.mk (0 : Int) ([] : (List (List Int)))) (Xh (Xf .i64 (0 : Int)) (Ya 25 Yo)))
  have K160 := Kx38.st (Yi p135 p148 p156) rfl
  exact re rfl func27 rfl (r_b B156 u59 rfl z59 rfl (Xs rfl Xe)) rfl ⟨_, rfl, (.slice none 0 0), rfl, A158.fo K160 rfl z.l, z.ky K160⟩
 refine sk (sr ?_)
 refine Xw (es := [(iI r15.1), vx38_0]) (Bx38_b4.st (Xq p135 p148) rfl) u59 z59 rfl ?_
 have A163 := A146.st p148 rfl
 refine Xu (vs := [(iI r15.1), vx38_0]) (Bx38_b2.st (Xq p135 p148) rfl) z59 rfl (Xb rfl (Xb A163.rd.one Xi)) rfl (fun s164 p164 B164 => ?_)
 refine Xc rfl (dn ?_)
 have A166 : OwF kd59 s164 [(iI r15.1), vx38_0] (Page.mk r15.1 x38.2.2) 45 := (Xo (fun x : Page => (x.Lsn, x.Slots)) (Page.mk r15.1 x38.2.2) (Yg (Xf .i64 r15.1) (A163.st p164 rfl)))
 have K169 := Kx38.st (Yi p135 p148 p164) rfl
 exact re rfl func27 rfl (r_b B164 u59 rfl z59 rfl (Xs rfl Xe)) rfl ⟨_, rfl, vx38_0, rfl, A166.fo K169 rfl z.l, z.ky K169⟩
def spec_PagePut.b0 (a1 : Int) (a2 : (List Int)) (a3 : Int) (x52 : (List (List Int))) : Option ((List (List Int)) ⊕ (Page × Bool)) :=
 (if (decide ((x52.length : Int) ≤ a1)) = true then (if x52.length + ([([] : (List Int))]).length ≤ Lim then (some (Sum.inl (x52 ++ [([] : (List Int))]))) else none) else ((if ([] : (List Int)).length + a2.length ≤ Lim then (if 0 ≤ a1 ∧ a1 < (x52.length : Int) then ((spec_PageUsed.f (Page.mk a3 (x52.set (a1).toNat (([] : (List Int)) ++ a2)))).bind fun r104 => (if (decide (r104 < (0 : Int))) = true then (some ((Page.mk (0 : Int) ([] : (List (List Int)))), false)) else (some ((Page.mk a3 (x52.set (a1).toNat (([] : (List Int)) ++ a2))), true)))) else none) else none).bind fun o => some (Sum.inr o)))
def spec_PagePut.f (a0 : Page) (a1 : Int) (a2 : (List Int)) (a3 : Int) : Option (Page × Bool) :=
 ((spec_PageUsed.f a0).bind fun r10 => ((if (decide (r10 < (0 : Int))) = true then (some true) else ((spec_l5in.f a1 (0 : Int) (15 : Int)).bind fun r16 => (some (!r16)))).bind fun y12 => ((if ((y12 || ((a2.length : Int) == (0 : Int))) || (decide ((a2.length : Int) > (92 : Int)))) = true then (some true) else ((spec_l5in.f a3 (1 : Int) (1000000 : Int)).bind fun r29 => (some (!r29)))).bind fun y28 => (if y28 = true then (some ((Page.mk (0 : Int) ([] : (List (List Int)))), false)) else ((spec_l7copy.f a0).bind fun r44 => (iter (spec_PagePut.b0 a1 a2 a3) r44.Slots))))))
def spec_PagePut.Q (w : World) (F : Nat → Prop) (r : Page × Bool) (v : Value) (w' : World) : Prop :=
 ∃ (v0 : Value), v = .tuple #[(.agg #[(iI r.1.Lsn), v0]), (.bool r.2)] ∧ FO kd59 w w' [(iI r.1.Lsn), v0] r.1 ∧ Ky [] w w'
theorem spec_PagePut.calls (a0 : Page) (a1 : Int) (a2 : (List Int)) (a3 : Int) (w : World) (F : Nat → Prop) (w0_0 : Value) (w2_0 : Value) (h0_0 : (Kd.sl 25 Yo).rd w [w0_0] a0.Slots F) (h2_0 : Yo.rd w [w2_0] a2 F) (r : Page × Bool) (m : spec_PagePut.f a0 a1 a2 a3 = some r) :
  Calls prog 28 #[(.agg #[(iI a0.Lsn), w0_0]), (iI a1), w2_0, (iI a3)] w (RT (spec_PagePut.Q w F) r) := by
 obtain ⟨s0, rfl, kp0, z⟩ := Xk w F
 have A0_0 := z.rd h0_0
 have A2_0 := z.rd h2_0
 refine Xd (args := [(.agg #[(iI a0.Lsn), w0_0]), (iI a1), w2_0, (iI a3)]) func28 ntmps28 rfl rfl m ?_
 unfold spec_PagePut.f
 refine sr (bx' (cs := [(iI a0.Lsn), w0_0]) 40 rfl rfl (fun b3 s3 p3 B3 => ?_))
 refine al' (cs := [(iI 0), (.slice none 0 0)]) 41 rfl o59 rfl (fun b5 s5 p5 B5 => ?_)
 refine Xc rfl (dn (sq (sr ?_)))
 have A7 := B3.st p5 rfl
 refine Xw (es := [(iI a0.Lsn), w0_0]) A7 u59 z59 rfl ?_
 have K8 := kp0.st (Xq p3 p5) rfl
 refine Ym 42 rfl func43 rfl (spec_PageUsed.calls a0 s5.w (mm [0] s5) w0_0 (A0_0.kp K8)) (fun r10 s11 p11 n11 => ?_)
 refine Xc rfl (Xc rfl (ji [8, 9, 10, 11, 12, 13, 14, 15, 16, 17, 18, 19, 20, 21, 22] (fun (y12 : Bool) e w => ∃ (s : St) (e0 : Env), w = s.w ∧ e = upd (upd (upd (upd (upd (upd e0 1 (iI a1)) 2 w2_0) 3 (iI a3)) 4 (pB b3)) 8 (pB b5)) 18 (.bool y12) ∧ Kp s0 s ∧ BlF s b5 59 [(iI 0), (.slice none 0 0)] 41 ∧ BlF s b3 59 [(iI a0.Lsn), w0_0] 40) (fun Gj12 Kj12 => ?_) ?_))
 ·
  rcases Yn (decide (r10 < (0 : Int))) with hb12 | hb12
  ·
   refine Xy hb12 ?_
   rw [if_pos hb12]
   refine Xj rfl (Xj rfl (Xj rfl (Xc rfl ?_)))
   exact Kj12 _ _ _ ⟨s11, _, rfl, (ue (ue (ue (ue (ue (ue rfl rfl) rfl) rfl) rfl) rfl) rfl), (K8.st p11 rfl), (B5.st p11 rfl), (A7.st p11 rfl)⟩
  refine Xy hb12 ?_
  rw [if_neg (by rw [hb12]; decide)]
  refine Xc rfl (Ym 43 rfl func45 rfl (spec_l5in.calls a1 (0 : Int) (15 : Int) s11.w (mm [] s11)) (fun r16 s17 p17 n17 => ?_))
  refine Xc rfl (Xc rfl ?_)
  exact Kj12 _ _ _ ⟨s17, _, rfl, (ue (ue (ue (ue (ue (ue rfl rfl) rfl) rfl) rfl) rfl) rfl), (K8.st (Xq p11 p17) rfl), (B5.st (Xq p11 p17) rfl), (A7.st (Xq p11 p17) rfl)⟩
 rintro y12 _ _ ⟨s21, _, rfl, rfl, Ky12, By12_b5, By12_b3⟩
 refine Xc rfl (jy [19, 20, 21, 22, 23] [13, 14, 15, 16, 17, 18, 19, 20, 21, 22] 23 (.bool (y12 || ((a2.length : Int) == (0 : Int)))) rfl (fun Kg24 => ?_) (fun j24 => ?_))
 ·
  rcases Yn y12 with hb24 | hb24
  ·
   exact Xy hb24 (Xj rfl (Xj rfl (Xj rfl (Xc rfl (Kg24 _ (Ag.put ((Ag.put ((Ag.put ((Ag.put (Ag.base rfl) rfl)) rfl)) rfl)) rfl) (by rw [hb24]; rfl))))))
  refine Xy hb24 (Xx w2_0 rfl ?_)
  exact Yl (A2_0.kp Ky12) u25 rfl (Xc rfl (Xc rfl (Kg24 _ (Ag.put ((Ag.put ((Ag.put ((Ag.put (Ag.base rfl) rfl)) rfl)) rfl)) rfl) (by rw [hb24]; rfl))))
 refine Xc rfl (jy [24, 25, 26, 27, 28] [18, 19, 20, 21, 22] 28 (.bool ((y12 || ((a2.length : Int) == (0 : Int))) || (decide ((a2.length : Int) > (92 : Int))))) rfl (fun Kg26 => ?_) (fun j26 => ?_))
 ·
  rcases Yn (y12 || ((a2.length : Int) == (0 : Int))) with hb26 | hb26
  ·
   exact Xy hb26 (Xj rfl (Xj rfl (Xj rfl (Xc rfl (Kg26 _ (Ag.put ((Ag.put ((Ag.put ((Ag.put (Ag.base rfl) rfl)) rfl)) rfl)) rfl) (by rw [hb26]; rfl))))))
  refine Xy hb26 (Xx w2_0 rfl ?_)
  exact Yl (A2_0.kp Ky12) u25 rfl (Xc rfl (Xc rfl (Kg26 _ (Ag.put ((Ag.put ((Ag.put ((Ag.put (Ag.base rfl) rfl)) rfl)) rfl)) rfl) (by rw [hb26]; rfl))))
 refine Xc rfl (ji [] (fun (y28 : Bool) e w => ∃ (s : St) (e0 : Env), w = s.w ∧ e = upd (upd (upd (upd (upd (upd e0 1 (iI a1)) 2 w2_0) 3 (iI a3)) 4 (pB b3)) 8 (pB b5)) 33 (.bool y28) ∧ Kp s0 s ∧ BlF s b5 59 [(iI 0), (.slice none 0 0)] 41 ∧ BlF s b3 59 [(iI a0.Lsn), w0_0] 40) (fun Gj28 Kj28 => ?_) ?_)
 ·
  rcases Yn ((y12 || ((a2.length : Int) == (0 : Int))) || (decide ((a2.length : Int) > (92 : Int)))) with hb28 | hb28
  ·
   refine Xy hb28 ?_
   rw [if_pos hb28]
   exact Xj rfl (Xj rfl (Xj rfl (Xc rfl (Kj28 _ _ _ ⟨s21, _, rfl, (ue (ue (ue (ue (ue (ue rfl rfl) rfl) rfl) rfl) rfl) rfl), Ky12, By12_b5, By12_b3⟩))))
  refine Xy hb28 ?_
  rw [if_neg (by rw [hb28]; decide)]
  refine Xc rfl (Ym 44 rfl func45 rfl (spec_l5in.calls a3 (1 : Int) (1000000 : Int) s21.w (mm [] s21)) (fun r29 s30 p30 n30 => ?_))
  refine Xc rfl (Xc rfl ?_)
  exact Kj28 _ _ _ ⟨s30, _, rfl, (ue (ue (ue (ue (ue (ue rfl rfl) rfl) rfl) rfl) rfl) rfl), (Ky12.st p30 rfl), (By12_b5.st p30 rfl), (By12_b3.st p30 rfl)⟩
 rintro y28 _ _ ⟨s34, _, rfl, rfl, Ky28, By28_b5, By28_b3⟩
 refine dn (cd rfl (fun h37 => ?_) (fun h37 => ?_))
 ·
  refine sr (bd' (cells := [(iI 0), (.slice none 0 0)]) pl59 o59 rfl rfl (Xu (vs := [(iI 0), (.slice none 0 0)]) By28_b5 z59 rfl (Xb rfl (Xb rfl Xi)) rfl (fun s38 p38 B38 => ?_)))
  refine Xc rfl (dn ?_)
  have A40 : OwF kd59 s38 [(iI 0), (.slice none 0 0)] (Page.mk (0 : Int) ([] : (List (List Int)))) 45 := ow_z _ _ (Xz (fun x : Page => (x.Lsn, x.Slots)) (Page.mk (0 : Int) ([] : (List (List Int)))) (Xh (Xf .i64 (0 : Int)) (Ya 25 Yo)))
  have K42 := Ky28.st p38 rfl
  exact re rfl func28 rfl (r_b B38 u59 rfl z59 rfl (Xs rfl Xe)) rfl ⟨_, rfl, (.slice none 0 0), rfl, A40.fo K42 rfl z.l, z.ky K42⟩
 refine sk (sr (Xw (es := [(iI a0.Lsn), w0_0]) By28_b3 u59 z59 rfl ?_))
 refine cl' rfl func46 rfl (spec_l7copy.calls a0 s34.w (mm [0] s34) w0_0 (A0_0.kp Ky28)) ?_
 rintro r44 _ w44 m44 ⟨v44_0, rfl, f44_0, ky44⟩
 obtain ⟨s45, rfl, p45, n45⟩ := nwx s34 w44 46 ky44
 refine al' (cs := [(iI 0), (.slice none 0 0)]) 47 rfl o59 rfl (fun b47 s47 p47 B47 => ?_)
 have A49 := (ap59 (f44_0.c n45)).st p47 rfl
 refine Xu (vs := [(iI r44.Lsn), v44_0]) B47 z59 rfl (Xb rfl (Xb A49.rd.one Xi)) rfl (fun s50 p50 B50 => ?_)
 refine dn (sq (bl ?_))
 refine lpI (fun (x52 : (List (List Int))) e w => ∃ (s : St) (e0 : Env) (vx52_0 : Value), w = s.w ∧ e = upd (upd (upd (upd (upd e0 1 (iI a1)) 2 w2_0) 3 (iI a3)) 8 (pB b5)) 10 (pB b47) ∧ Kp s0 s ∧ OwF (Kd.sl 25 Yo) s [vx52_0] x52 46 ∧ BlF s b47 59 [(iI r44.Lsn), vx52_0] 47 ∧ BlF s b5 59 [(iI 0), (.slice none 0 0)] 41) ⟨s50, _, v44_0, rfl, (ue (ue (ue (ue (ue rfl rfl) rfl) rfl) rfl) rfl), (Ky28.st (Yi p45 p47 p50) rfl), (A49.st p50 rfl), B50, (By28_b5.st (Yi p45 p47 p50) rfl)⟩ (fun g52 ih52 => ?_)
 rintro x52 _ _ ⟨s56, _, vx52_0, rfl, rfl, Kx52, Ax52_0, Bx52_b47, Bx52_b5⟩
 unfold spec_PagePut.b0
 refine sq (sr (Xt fa59_1 rfl (Yb Bx52_b47 u57 rfl (Yl Ax52_0.rd u57 rfl (Xc rfl (Xc rfl (dn (cd rfl (fun h60 => ?_) (fun h60 => ?_)))))))))
 ·
  refine sk (bl (rg (Xt fa59_1 rfl (Yb Bx52_b47 u57 rfl ?_))))
  have A61 : OwF Yo s56 [(.slice none 0 0)] ([] : (List Int)) 49 := ow_z _ _ (Ya 5 (Kd.int .u8))
  refine ltO (K := Yo) (cells := [(.slice none 0 0)]) [([] : (List Int))] 49 u57 z25 o25 (lo_one A61) rfl rfl rfl rfl rfl rfl rfl rfl rfl rfl (fun v64 s64 p64 A64 => ?_)
  refine apO sl57 (Ax52_0.st p64 rfl) A64 rfl rfl rfl rfl rfl rfl rfl rfl rfl (fun v67 s67 p67 A67 => ?_)
  refine Xt fa59_1 rfl (sv' (Bx52_b47.st (Xq p64 p67) rfl) z57 rfl A67.rd.one rfl (fun s70 p70 B70 => ?_))
  refine dn (ib ?_)
  exact lb ih52 ⟨s70, _, v67, rfl, (ue (ue (ue (ue (ue rfl rfl) rfl) rfl) rfl) rfl), (Kx52.st (Yi p64 p67 p70) rfl), (A67.st p70 rfl), B70, (Bx52_b5.st (Yi p64 p67 p70) rfl)⟩
 refine xt rfl (sgb (sq (zdraw [[], [0], [], [], [], [3, 4], [1, 2, 0, 1, 2, 3, 4, 5], [6, 5, 5, 0, 1, 2, 3, 4, 5]] [some 47, some 48, some 49, some 50, some 51, some 52, some 53, none] [[10], [47], [1], [], [2], [50, 51], [48, 49], [53, 52]] [0, 1, 2, 3, 4, 5, 6, 7] ⟨by kernel_rfl, by kernel_rfl, by kernel_rfl⟩ (by kernel_rfl) (fun s75 p75 l75 tb75 zd75 => ?_))))
 refine Yc 3 [some 51, some 49, some 48, some 47] tb75 ((((zd75.add 0 47 (pO b47 1) rfl).add 1 48 vx52_0 rfl).add 2 49 (iI a1) rfl).add 4 51 w2_0 rfl) (Xa (Xn w2_0 rfl) rfl (Xa (Xm rfl) rfl (Xa (Xp (Bx52_b47.st p75 rfl) u57 rfl) rfl (Xa (Xr fa59_1 rfl) rfl Xg)))) (by kernel_rfl) rfl (fun l81 e81 zd81 => ?_)
 refine lt0 (K := (Kd.int .u8)) 50 u25 z5 rfl rfl rfl rfl rfl (fun v83 s83 p83 A83 => ?_)
 refine Xl (L' := [4, 2, 1, 0]) (D' := [3]) zd81 rfl (fun zd85 => ?_)
 refine Yc 5 [some 49, some 48, some 47] tb75 zd85 (Xa (Xn w2_0 rfl) rfl (Xa (Xm rfl) rfl (Xa (Xp (Bx52_b47.st (Xq p75 p83) rfl) u57 rfl) rfl (Xa (Xr fa59_1 rfl) rfl Xg)))) (by kernel_rfl) rfl (fun l86 e86 zd86 => ?_)
 have K88 := Kx52.st (Xq p75 p83) rfl
 refine apF' Xv sl25 A83 (A2_0.kp K88) rfl (fun v90 s90 p90 A90 => ?_)
 refine Xl (L' := [2, 1, 0]) (D' := [4, 5, 3]) zd86 rfl (fun zd92 => ?_)
 refine zfin [6, 7] tb75 zd92 (Xa (Xm rfl) rfl (Xa (Xp (Bx52_b47.st (Yi p75 p83 p90) rfl) u57 rfl) rfl (Xa (Xr fa59_1 rfl) rfl Xg))) (by kernel_rfl) (by decide) ?_
 have A94 := Ax52_0.st (Yi p75 p83 p90) rfl
 refine ix' A94.rd u57 z25 rfl (fun ad95 es95 h0_95 h1_95 he95 ce95 ia95 => ?_)
 obtain ⟨v95, rfl, he95'⟩ := he95
 have A95 : RdF Yo s90 [v95] (at_ x52 a1) [46] := ⟨v95, rfl, he95'⟩
 refine sog (x' := (([] : (List Int)) ++ a2)) lg_id A94 ia95 h0_95 h1_95 A90 rfl rfl z25 rfl rfl rfl rfl rfl (oc A90.rd.one) (fun s98 p98 A98 => ?_)
 refine dn (sr (Xc rfl (Xt fa59_0 rfl ?_)))
 refine sv' (Bx52_b47.st (tr4 p75 p83 p90 p98) rfl) z3 rfl rfl rfl (fun s101 p101 B101 => ?_)
 refine dn (sq (sr (Xw (es := [(iI a3), vx52_0]) B101 u59 z59 rfl ?_)))
 have A103 := A98.st p101 rfl
 refine Ym 51 rfl func43 rfl (spec_PageUsed.calls (Page.mk a3 (x52.set (a1).toNat (([] : (List Int)) ++ a2))) s101.w (mm [46] s101) vx52_0 A103.rd) (fun r104 s105 p105 n105 => ?_)
 refine Xc rfl (dn (cd rfl (fun h106 => ?_) (fun h106 => ?_)))
 ·
  refine sr (bd' (cells := [(iI 0), (.slice none 0 0)]) pl59 o59 rfl rfl ?_)
  refine Xu (vs := [(iI 0), (.slice none 0 0)]) (Bx52_b5.st (tr6 p75 p83 p90 p98 p101 p105) rfl) z59 rfl (Xb rfl (Xb rfl Xi)) rfl (fun s108 p108 B108 => ?_)
  refine Xc rfl (dn ?_)
  have A110 : OwF kd59 s108 [(iI 0), (.slice none 0 0)] (Page.mk (0 : Int) ([] : (List (List Int)))) 52 := ow_z _ _ (Xz (fun x : Page => (x.Lsn, x.Slots)) (Page.mk (0 : Int) ([] : (List (List Int)))) (Xh (Xf .i64 (0 : Int)) (Ya 25 Yo)))
  have K112 := K88.st (tr5 p90 p98 p101 p105 p108) rfl
  exact re rfl func28 rfl (r_b B108 u59 rfl z59 rfl (Xs rfl Xe)) rfl ⟨_, rfl, (.slice none 0 0), rfl, A110.fo K112 rfl z.l, z.ky K112⟩
 refine sk (sr ?_)
 refine Xw (es := [(iI a3), vx52_0]) (B101.st p105 rfl) u59 z59 rfl ?_
 have A115 := A103.st p105 rfl
 refine Xu (vs := [(iI a3), vx52_0]) (Bx52_b5.st (tr6 p75 p83 p90 p98 p101 p105) rfl) z59 rfl (Xb rfl (Xb A115.rd.one Xi)) rfl (fun s116 p116 B116 => ?_)
 refine Xc rfl (dn ?_)
 have A118 : OwF kd59 s116 [(iI a3), vx52_0] (Page.mk a3 (x52.set (a1).toNat (([] : (List Int)) ++ a2))) 46 := (Xo (fun x : Page => (x.Lsn, x.Slots)) (Page.mk a3 (x52.set (a1).toNat (([] : (List Int)) ++ a2))) (Yg (Xf .i64 a3) (A115.st p116 rfl)))
 have K121 := K88.st (tr5 p90 p98 p101 p105 p116) rfl
 exact re rfl func28 rfl (r_b B116 u59 rfl z59 rfl (Xs rfl Xe)) rfl ⟨_, rfl, vx52_0, rfl, A118.fo K121 rfl z.l, z.ky K121⟩
def spec_HeapAt.f (a0 : Heap) (a1 : Int) (a2 : Int) : Option (Tuple × Bool) :=
 ((spec_HeapOk.f a0).bind fun r9 => ((if (!r9) = true then (some true) else ((spec_l5in.f a1 (0 : Int) (IntKind.wrap .i64 ((a0.Pages.length : Int) - (1 : Int)))).bind fun r18 => (some (!r18)))).bind fun y11 => ((if y11 = true then (some true) else (if 0 ≤ a1 ∧ a1 < (a0.Pages.length : Int) then ((spec_l5in.f a2 (0 : Int) (IntKind.wrap .i64 ((((at_ a0.Pages a1).Slots).length : Int) - (1 : Int)))).bind fun r31 => (some (!r31))) else none)).bind fun y26 => (if y26 = true then (some ((Tuple.mk (0 : Int) (0 : Int) (Item.mk (0 : Int) (0 : Int) (0 : Nat) ([] : (List Int))) (Item.mk (0 : Int) (0 : Int) (0 : Nat) ([] : (List Int)))), false)) else (if 0 ≤ a1 ∧ a1 < (a0.Pages.length : Int) then (if 0 ≤ a2 ∧ a2 < (((at_ a0.Pages a1).Slots).length : Int) then ((spec_TupleRead.f (at_ ((at_ a0.Pages a1).Slots) a2)).bind fun r52 => (some (r52.1, r52.2))) else none) else none)))))
def spec_HeapAt.Q (w : World) (F : Nat → Prop) (r : Tuple × Bool) (v : Value) (w' : World) : Prop :=
 ∃ (v0 : Value) (v1 : Value) (v2 : Value) (v3 : Value), v = .tuple #[(.agg #[(iI r.1.Xmin), (iI r.1.Xmax), (iI r.1.Key.Kind), (iI r.1.Key.N), v0, v1, (iI r.1.Value.Kind), (iI r.1.Value.N), v2, v3]), (.bool r.2)] ∧ FO kd79 w w' [(iI r.1.Xmin), (iI r.1.Xmax), (iI r.1.Key.Kind), (iI r.1.Key.N), v0, v1, (iI r.1.Value.Kind), (iI r.1.Value.N), v2, v3] r.1 ∧ Ky [] w w'
theorem spec_HeapAt.calls (a0 : Heap) (a1 : Int) (a2 : Int) (w : World) (F : Nat → Prop) (w0_0 : Value) (h0_0 : Yp.rd w [w0_0] a0.Pages F) (r : Tuple × Bool) (m : spec_HeapAt.f a0 a1 a2 = some r) :
  Calls prog 49 #[(.agg #[w0_0]), (iI a1), (iI a2)] w (RT (spec_HeapAt.Q w F) r) := by
 obtain ⟨s0, rfl, kp0, z⟩ := Xk w F
 have A0_0 := z.rd h0_0
 refine Xd (args := [(.agg #[w0_0]), (iI a1), (iI a2)]) func49 ntmps49 rfl rfl m ?_
 unfold spec_HeapAt.f
 refine sr (bx' (cs := [w0_0]) 40 rfl rfl (fun b2 s2 p2 B2 => ?_))
 refine al' (cs := [(iI 0), (iI 0), (iI 0), (iI 0), (.float .f64 0), (.slice none 0 0), (iI 0), (iI 0), (.float .f64 0), (.slice none 0 0)]) 41 rfl o79 rfl (fun b4 s4 p4 B4 => ?_)
 refine Xc rfl (dn (sq (sr ?_)))
 have A6 := B2.st p4 rfl
 refine Xw (es := [w0_0]) A6 u32 z32 rfl ?_
 have K7 := kp0.st (Xq p2 p4) rfl
 refine Ym 42 rfl func24 rfl (spec_HeapOk.calls a0 s4.w (mm [0] s4) w0_0 (A0_0.kp K7)) (fun r9 s10 p10 n10 => ?_)
 refine Xc rfl (Xc rfl (ji [12, 13, 14, 15, 16, 17, 18, 19, 20, 21, 22, 23, 24] (fun (y11 : Bool) e w => ∃ (s : St) (e0 : Env), w = s.w ∧ e = upd (upd (upd (upd (upd e0 1 (iI a1)) 2 (iI a2)) 3 (pB b2)) 6 (pB b4)) 19 (.bool y11) ∧ Kp s0 s ∧ BlF s b4 79 [(iI 0), (iI 0), (iI 0), (iI 0), (.float .f64 0), (.slice none 0 0), (iI 0), (iI 0), (.float .f64 0), (.slice none 0 0)] 41 ∧ BlF s b2 32 [w0_0] 40) (fun Gj11 Kj11 => ?_) ?_))
 ·
  rcases Yn (!r9) with hb11 | hb11
  ·
   refine Xy hb11 ?_
   rw [if_pos hb11]
   refine Xj rfl (Xj rfl (Xj rfl (Xj rfl (Xj rfl (Xj rfl (Xj rfl (Xc rfl ?_)))))))
   exact Kj11 _ _ _ ⟨s10, _, rfl, (ue (ue (ue (ue (ue rfl rfl) rfl) rfl) rfl) rfl), (K7.st p10 rfl), (B4.st p10 rfl), (A6.st p10 rfl)⟩
  refine Xy hb11 ?_
  rw [if_neg (by rw [hb11]; decide)]
  refine Xc rfl (Xt fa32_0 rfl ?_)
  have A15 := A6.st p10 rfl
  refine Yb A15 u30 rfl ?_
  have K16 := K7.st p10 rfl
  refine Yl (A0_0.kp K16) u30 rfl (Xc rfl (Ym 43 rfl func45 rfl (spec_l5in.calls a1 (0 : Int) (IntKind.wrap .i64 ((a0.Pages.length : Int) - (1 : Int))) s10.w (mm [] s10)) (fun r18 s19 p19 n19 => ?_)))
  refine Xc rfl (Xc rfl ?_)
  exact Kj11 _ _ _ ⟨s19, _, rfl, (ue (ue (ue (ue (ue rfl rfl) rfl) rfl) rfl) rfl), (K16.st p19 rfl), (B4.st (Xq p10 p19) rfl), (A15.st p19 rfl)⟩
 rintro y11 _ _ ⟨s23, _, rfl, rfl, Ky11, By11_b4, By11_b2⟩
 refine Xc rfl (ji [] (fun (y26 : Bool) e w => ∃ (s : St) (e0 : Env), w = s.w ∧ e = upd (upd (upd (upd (upd e0 1 (iI a1)) 2 (iI a2)) 3 (pB b2)) 6 (pB b4)) 32 (.bool y26) ∧ Kp s0 s ∧ BlF s b4 79 [(iI 0), (iI 0), (iI 0), (iI 0), (.float .f64 0), (.slice none 0 0), (iI 0), (iI 0), (.float .f64 0), (.slice none 0 0)] 41 ∧ BlF s b2 32 [w0_0] 40) (fun Gj26 Kj26 => ?_) ?_)
 ·
  rcases Yn y11 with hb26 | hb26
  ·
   refine Xy hb26 ?_
   rw [if_pos hb26]
   exact Xj rfl (Xj rfl (Xj rfl (Xj rfl (Xj rfl (Xj rfl (Xj rfl (Xj rfl (Xj rfl (Xj rfl (Xj rfl (Xc rfl (Kj26 _ _ _ ⟨s23, _, rfl, (ue (ue (ue (ue (ue rfl rfl) rfl) rfl) rfl) rfl), Ky11, By11_b4, By11_b2⟩))))))))))))
  refine Xy hb26 ?_
  rw [if_neg (by rw [hb26]; decide)]
  refine Xc rfl (Xt fa32_0 rfl (Yb By11_b2 u30 rfl (Xc rfl ?_)))
  refine ix' (A0_0.kp Ky11) u30 z59 rfl (fun ad28 es28 h0_28 h1_28 he28 ce28 ia28 => ?_)
  obtain ⟨v28_0, rfl, A28_0⟩ := op59 he28
  refine Xt fa59_1 rfl (lc ce28 u57 rfl rfl rfl rfl rfl rfl rfl rfl (Yl A28_0 u57 rfl (Xc rfl (Ym 44 rfl func45 rfl (spec_l5in.calls a2 (0 : Int) (IntKind.wrap .i64 ((((at_ a0.Pages a1).Slots).length : Int) - (1 : Int))) s23.w (mm [] s23)) (fun r31 s32 p32 n32 => ?_)))))
  refine Xc rfl (Xc rfl ?_)
  exact Kj26 _ _ _ ⟨s32, _, rfl, (ue (ue (ue (ue (ue rfl rfl) rfl) rfl) rfl) rfl), (Ky11.st p32 rfl), (By11_b4.st p32 rfl), (By11_b2.st p32 rfl)⟩
 rintro y26 _ _ ⟨s36, _, rfl, rfl, Ky26, By26_b4, By26_b2⟩
 refine dn (cd rfl (fun h39 => ?_) (fun h39 => ?_))
 ·
  refine sr (bd' (cells := [(iI 0), (iI 0), (iI 0), (iI 0), (.float .f64 0), (.slice none 0 0), (iI 0), (iI 0), (.float .f64 0), (.slice none 0 0)]) pl79 o79 rfl rfl (Xu (vs := [(iI 0), (iI 0), (iI 0), (iI 0), (.float .f64 0), (.slice none 0 0), (iI 0), (iI 0), (.float .f64 0), (.slice none 0 0)]) By26_b4 z79 rfl (Xb rfl (Xb rfl (Xb rfl (Xb rfl (Xb (FL.one (Yh rfl)) (Xb rfl (Xb rfl (Xb rfl (Xb (FL.one (Yh rfl)) (Xb rfl Xi)))))))))) rfl (fun s40 p40 B40 => ?_)))
  refine Xc rfl (dn ?_)
  have A42 : OwF kd79 s40 [(iI 0), (iI 0), (iI 0), (iI 0), (.float .f64 0), (.slice none 0 0), (iI 0), (iI 0), (.float .f64 0), (.slice none 0 0)] (Tuple.mk (0 : Int) (0 : Int) (Item.mk (0 : Int) (0 : Int) (0 : Nat) ([] : (List Int))) (Item.mk (0 : Int) (0 : Int) (0 : Nat) ([] : (List Int)))) 45 := ow_z _ _ (Xz (fun x : Tuple => (x.Xmin, x.Xmax, x.Key, x.Value)) (Tuple.mk (0 : Int) (0 : Int) (Item.mk (0 : Int) (0 : Int) (0 : Nat) ([] : (List Int))) (Item.mk (0 : Int) (0 : Int) (0 : Nat) ([] : (List Int)))) (Xh (Xf .i64 (0 : Int)) (Xh (Xf .i64 (0 : Int)) (Xh (Xz (fun x : Item => (x.Kind, x.N, x.F, x.T)) (Item.mk (0 : Int) (0 : Int) (0 : Nat) ([] : (List Int))) (Xh (Xf .i64 (0 : Int)) (Xh (Xf .i64 (0 : Int)) (Xh (Yj (Yh rfl)) (Ya 5 (Kd.int .u8)))))) (Xz (fun x : Item => (x.Kind, x.N, x.F, x.T)) (Item.mk (0 : Int) (0 : Int) (0 : Nat) ([] : (List Int))) (Xh (Xf .i64 (0 : Int)) (Xh (Xf .i64 (0 : Int)) (Xh (Yj (Yh rfl)) (Ya 5 (Kd.int .u8))))))))))
  have K44 := Ky26.st p40 rfl
  exact re rfl func49 rfl (r_b B40 u79 rfl z79 rfl (Xs rfl Xe)) rfl ⟨_, rfl, (.float .f64 0), (.slice none 0 0), (.float .f64 0), (.slice none 0 0), rfl, A42.fo K44 rfl z.l, z.ky K44⟩
 refine sk (sr (Xt fa32_0 rfl (Yb By26_b2 u30 rfl (Xc rfl ?_))))
 refine ix' (A0_0.kp Ky26) u30 z59 rfl (fun ad46 es46 h0_46 h1_46 he46 ce46 ia46 => ?_)
 obtain ⟨v46_0, rfl, A46_0⟩ := op59 he46
 refine Xt fa59_1 rfl (lc ce46 u57 rfl rfl rfl rfl rfl rfl rfl rfl (Xc rfl (ix' A46_0 u57 z25 rfl (fun ad49 es49 h0_49 h1_49 he49 ce49 ia49 => ?_))))
 obtain ⟨v49, rfl, he49'⟩ := he49
 have A49 : RdF Yo s36 [v49] (at_ ((at_ a0.Pages a1).Slots) a2) [0] := ⟨v49, rfl, he49'⟩
 refine lc0' ce49 u25 rfl (cl' rfl func44 rfl (spec_TupleRead.calls (at_ ((at_ a0.Pages a1).Slots) a2) s36.w (mm [0] s36) v49 A49) ?_)
 rintro r52 _ w52 m52 ⟨v52_0, v52_1, v52_2, v52_3, rfl, f52_0, ky52⟩
 obtain ⟨s53, rfl, p53, n53⟩ := nwx s36 w52 46 ky52
 obtain ⟨s54, hw54, p54, hu52_0_0, Au52_0_1, hu52_0_2, Au52_0_3⟩ := ap79 47 (f52_0.c n53) rfl
 rw [hw54]
 refine Xc (v := (.agg #[(iI r52.1.Xmin), (iI r52.1.Xmax), (iI r52.1.Key.Kind), (iI r52.1.Key.N), v52_0, v52_1, (iI r52.1.Value.Kind), (iI r52.1.Value.N), v52_2, v52_3])) rfl (Xc (v := (.bool r52.2)) rfl ?_)
 refine Xu (vs := [(iI r52.1.Xmin), (iI r52.1.Xmax), (iI r52.1.Key.Kind), (iI r52.1.Key.N), v52_0, v52_1, (iI r52.1.Value.Kind), (iI r52.1.Value.N), v52_2, v52_3]) (By26_b4.st (Xq p53 p54) rfl) z79 rfl (Xb rfl (Xb rfl (Xb rfl (Xb rfl (Xb (FL.one hu52_0_0) (Xb Au52_0_1.rd.one (Xb rfl (Xb rfl (Xb (FL.one hu52_0_2) (Xb Au52_0_3.rd.one Xi)))))))))) rfl (fun s58 p58 B58 => ?_)
 refine Xc rfl (dn ?_)
 obtain ⟨s62, hw62, p62, A62⟩ := ow_2 (Xo (fun x : Item => (x.Kind, x.N, x.F, x.T)) r52.1.Key (Yg (Xf .i64 r52.1.Key.Kind) (Yg (Xf .i64 r52.1.Key.N) (Yg (Yj hu52_0_0) (Au52_0_1.st p58 rfl))))) (Xo (fun x : Item => (x.Kind, x.N, x.F, x.T)) r52.1.Value (Yg (Xf .i64 r52.1.Value.Kind) (Yg (Xf .i64 r52.1.Value.N) (Yg (Yj hu52_0_2) (Au52_0_3.st p58 rfl))))) rfl rfl
 rw [hw62]
 have A64 : OwF kd79 s62 [(iI r52.1.Xmin), (iI r52.1.Xmax), (iI r52.1.Key.Kind), (iI r52.1.Key.N), v52_0, v52_1, (iI r52.1.Value.Kind), (iI r52.1.Value.N), v52_2, v52_3] r52.1 46 := (Xo (fun x : Tuple => (x.Xmin, x.Xmax, x.Key, x.Value)) r52.1 (Yg (Xf .i64 r52.1.Xmin) (Yg (Xf .i64 r52.1.Xmax) A62)))
 have K67 := Ky26.st (tr4 p53 p54 p58 p62) rfl
 exact re rfl func49 rfl (r_b (B58.st p62 rfl) u79 rfl z79 rfl (Xs rfl Xe)) rfl ⟨_, rfl, v52_0, v52_1, v52_2, v52_3, rfl, A64.fo K67 rfl z.l, z.ky K67⟩
def spec_HeapMark.f (a0 : Heap) (a1 : Int) (a2 : Int) (a3 : Int) (a4 : Int) : Option (Heap × Bool) :=
 ((spec_HeapAt.f a0 a1 a2).bind fun r9 => ((if (!r9.2) = true then (some true) else ((spec_l5in.f a3 (0 : Int) (400 : Int)).bind fun r26 => (some (!r26)))).bind fun y20 => ((if y20 = true then (some true) else ((spec_l5in.f a4 (1 : Int) (1000000 : Int)).bind fun r39 => (some (!r39)))).bind fun y38 => (if y38 = true then (some ((Heap.mk ([] : (List Page))), false)) else ((spec_l10copy.f a0).bind fun r62 => (if 0 ≤ a1 ∧ a1 < (r62.Pages.length : Int) then (((spec_TupleBytes.f (Tuple.mk r9.1.Xmin a3 r9.1.Key r9.1.Value)).bind fun r92 => ((spec_PagePut.f (at_ r62.Pages a1) a2 r92 a4).bind fun r102 => (some (r102.1.Lsn, r102.1.Slots, r102.2)))).bind fun y85 => (if 0 ≤ a1 ∧ a1 < (r62.Pages.length : Int) then (some ((Heap.mk (r62.Pages.set (a1).toNat (Page.mk y85.1 y85.2.1))), true)) else none)) else none))))))
def spec_HeapMark.Q (w : World) (F : Nat → Prop) (r : Heap × Bool) (v : Value) (w' : World) : Prop :=
 ∃ (v0 : Value), v = .tuple #[(.agg #[v0]), (.bool r.2)] ∧ FO kd32 w w' [v0] r.1 ∧ Ky [] w w'
theorem spec_HeapMark.calls (a0 : Heap) (a1 : Int) (a2 : Int) (a3 : Int) (a4 : Int) (w : World) (F : Nat → Prop) (w0_0 : Value) (h0_0 : Yp.rd w [w0_0] a0.Pages F) (r : Heap × Bool) (m : spec_HeapMark.f a0 a1 a2 a3 a4 = some r) :
  Calls prog 29 #[(.agg #[w0_0]), (iI a1), (iI a2), (iI a3), (iI a4)] w (RT (spec_HeapMark.Q w F) r) := by
 obtain ⟨s0, rfl, kp0, z⟩ := Xk w F
 have A0_0 := z.rd h0_0
 refine Xd (args := [(.agg #[w0_0]), (iI a1), (iI a2), (iI a3), (iI a4)]) func29 ntmps29 rfl rfl m ?_
 unfold spec_HeapMark.f
 refine sr (bx' (cs := [w0_0]) 40 rfl rfl (fun b2 s2 p2 B2 => ?_))
 refine al' (cs := [(.slice none 0 0)]) 41 rfl o32 rfl (fun b4 s4 p4 B4 => ?_)
 refine Xc rfl (dn (sr ?_))
 have A6 := B2.st p4 rfl
 refine Xw (es := [w0_0]) A6 u32 z32 rfl (Xc rfl (Xc rfl ?_))
 have K7 := kp0.st (Xq p2 p4) rfl
 refine cl' rfl func49 rfl (spec_HeapAt.calls a0 a1 a2 s4.w (mm [0] s4) w0_0 (A0_0.kp K7)) ?_
 rintro r9 _ w9 m9 ⟨v9_0, v9_1, v9_2, v9_3, rfl, f9_0, ky9⟩
 obtain ⟨s10, rfl, p10, n10⟩ := nwx s4 w9 42 ky9
 obtain ⟨s11, hw11, p11, hu9_0_0, Au9_0_1, hu9_0_2, Au9_0_3⟩ := ap79 43 (f9_0.c n10) rfl
 rw [hw11]
 refine Xc rfl (Xc (v := (.agg #[(iI r9.1.Xmin), (iI r9.1.Xmax), (iI r9.1.Key.Kind), (iI r9.1.Key.N), v9_0, v9_1, (iI r9.1.Value.Kind), (iI r9.1.Value.N), v9_2, v9_3])) rfl (Xc (v := (.bool r9.2)) rfl (al' (cs := [(iI 0), (iI 0), (iI 0), (iI 0), (.float .f64 0), (.slice none 0 0), (iI 0), (iI 0), (.float .f64 0), (.slice none 0 0)]) 44 rfl o79 rfl (fun b14 s14 p14 B14 => ?_))))
 have A16 := Au9_0_3.st p14 rfl
 have A17 := Au9_0_1.st p14 rfl
 refine Xu (vs := [(iI r9.1.Xmin), (iI r9.1.Xmax), (iI r9.1.Key.Kind), (iI r9.1.Key.N), v9_0, v9_1, (iI r9.1.Value.Kind), (iI r9.1.Value.N), v9_2, v9_3]) B14 z79 rfl (Xb rfl (Xb rfl (Xb rfl (Xb rfl (Xb (FL.one hu9_0_0) (Xb A17.rd.one (Xb rfl (Xb rfl (Xb (FL.one hu9_0_2) (Xb A16.rd.one Xi)))))))))) rfl (fun s18 p18 B18 => ?_)
 refine Xc rfl (dn (sq (sr (Xc rfl (Xc rfl (Xc rfl (ji [7, 8, 9, 10, 11] (fun (y20 : Bool) e w => ∃ (s : St) (e0 : Env), w = s.w ∧ e = upd (upd (upd (upd (upd (upd (upd (upd e0 1 (iI a1)) 2 (iI a2)) 3 (iI a3)) 4 (iI a4)) 5 (pB b2)) 10 (pB b4)) 12 (pB b14)) 30 (.bool y20) ∧ Kp s0 s ∧ BlF s b14 79 [(iI r9.1.Xmin), (iI r9.1.Xmax), (iI r9.1.Key.Kind), (iI r9.1.Key.N), v9_0, v9_1, (iI r9.1.Value.Kind), (iI r9.1.Value.N), v9_2, v9_3] 44 ∧ BlF s b4 32 [(.slice none 0 0)] 41 ∧ BlF s b2 32 [w0_0] 40 ∧ OwF Yo s [v9_1] r9.1.Key.T 42 ∧ OwF Yo s [v9_3] r9.1.Value.T 43) (fun Gj20 Kj20 => ?_) ?_)))))))
 ·
  rcases Yn (!r9.2) with hb20 | hb20
  ·
   refine Xy hb20 ?_
   rw [if_pos hb20]
   refine Xj rfl (Xj rfl (Xj rfl (Xc rfl ?_)))
   exact Kj20 _ _ _ ⟨s18, _, rfl, (ue (ue (ue (ue (ue (ue (ue (ue rfl rfl) rfl) rfl) rfl) rfl) rfl) rfl) rfl), (K7.st (tr4 p10 p11 p14 p18) rfl), B18, (B4.st (tr4 p10 p11 p14 p18) rfl), (A6.st (tr4 p10 p11 p14 p18) rfl), (A17.st p18 rfl), (A16.st p18 rfl)⟩
  refine Xy hb20 ?_
  rw [if_neg (by rw [hb20]; decide)]
  refine Xc rfl (Ym 45 rfl func45 rfl (spec_l5in.calls a3 (0 : Int) (400 : Int) s18.w (mm [] s18)) (fun r26 s27 p27 n27 => ?_))
  refine Xc rfl (Xc rfl ?_)
  exact Kj20 _ _ _ ⟨s27, _, rfl, (ue (ue (ue (ue (ue (ue (ue (ue rfl rfl) rfl) rfl) rfl) rfl) rfl) rfl) rfl), (K7.st (tr5 p10 p11 p14 p18 p27) rfl), (B18.st p27 rfl), (B4.st (tr5 p10 p11 p14 p18 p27) rfl), (A6.st (tr5 p10 p11 p14 p18 p27) rfl), (A17.st (Xq p18 p27) rfl), (A16.st (Xq p18 p27) rfl)⟩
 rintro y20 _ _ ⟨s34, _, rfl, rfl, Ky20, By20_b14, By20_b4, By20_b2, Cy20_12, Cy20_13⟩
 refine Xc rfl (ji [] (fun (y38 : Bool) e w => ∃ (s : St) (e0 : Env), w = s.w ∧ e = upd (upd (upd (upd (upd (upd (upd (upd e0 1 (iI a1)) 2 (iI a2)) 3 (iI a3)) 4 (iI a4)) 5 (pB b2)) 10 (pB b4)) 12 (pB b14)) 35 (.bool y38) ∧ Kp s0 s ∧ BlF s b14 79 [(iI r9.1.Xmin), (iI r9.1.Xmax), (iI r9.1.Key.Kind), (iI r9.1.Key.N), v9_0, v9_1, (iI r9.1.Value.Kind), (iI r9.1.Value.N), v9_2, v9_3] 44 ∧ BlF s b4 32 [(.slice none 0 0)] 41 ∧ BlF s b2 32 [w0_0] 40 ∧ OwF Yo s [v9_1] r9.1.Key.T 42 ∧ OwF Yo s [v9_3] r9.1.Value.T 43) (fun Gj38 Kj38 => ?_) ?_)
 ·
  rcases Yn y20 with hb38 | hb38
  ·
   refine Xy hb38 ?_
   rw [if_pos hb38]
   exact Xj rfl (Xj rfl (Xj rfl (Xc rfl (Kj38 _ _ _ ⟨s34, _, rfl, (ue (ue (ue (ue (ue (ue (ue (ue rfl rfl) rfl) rfl) rfl) rfl) rfl) rfl) rfl), Ky20, By20_b14, By20_b4, By20_b2, Cy20_12, Cy20_13⟩))))
  refine Xy hb38 ?_
  rw [if_neg (by rw [hb38]; decide)]
  refine Xc rfl (Ym 46 rfl func45 rfl (spec_l5in.calls a4 (1 : Int) (1000000 : Int) s34.w (mm [] s34)) (fun r39 s40 p40 n40 => ?_))
  refine Xc rfl (Xc rfl ?_)
  exact Kj38 _ _ _ ⟨s40, _, rfl, (ue (ue (ue (ue (ue (ue (ue (ue rfl rfl) rfl) rfl) rfl) rfl) rfl) rfl) rfl), (Ky20.st p40 rfl), (By20_b14.st p40 rfl), (By20_b4.st p40 rfl), (By20_b2.st p40 rfl), (Cy20_12.st p40 rfl), (Cy20_13.st p40 rfl)⟩
 rintro y38 _ _ ⟨s47, _, rfl, rfl, Ky38, By38_b14, By38_b4, By38_b2, Cy38_12, Cy38_13⟩
 refine dn (cd rfl (fun h51 => ?_) (fun h51 => ?_))
 ·
  refine sr (bd' (cells := [(.slice none 0 0)]) pl32 o32 rfl rfl (Xu (vs := [(.slice none 0 0)]) By38_b4 z32 rfl (Xb rfl Xi) rfl (fun s52 p52 B52 => ?_)))
  refine Xc rfl (dn ?_)
  have A54 : OwF kd32 s52 [(.slice none 0 0)] (Heap.mk ([] : (List Page))) 47 := ow_z _ _ (Xz (fun x : Heap => (x.Pages)) (Heap.mk ([] : (List Page))) (Ya 59 kd59))
  have K56 := Ky38.st p52 rfl
  exact re rfl func29 rfl (r_b B52 u32 rfl z32 rfl (Xs rfl Xe)) rfl ⟨_, rfl, (.slice none 0 0), rfl, A54.fo K56 rfl z.l, z.ky K56⟩
 refine sk (sr (Xc rfl (Xt fa79_1 rfl (sv' By38_b14 z3 rfl rfl rfl (fun s57 p57 B57 => ?_)))))
 refine dn (sr ?_)
 refine Xw (es := [w0_0]) (By38_b2.st p57 rfl) u32 z32 rfl ?_
 have K60 := Ky38.st p57 rfl
 refine cl' rfl func26 rfl (spec_l10copy.calls a0 s57.w (mm [0] s57) w0_0 (A0_0.kp K60)) ?_
 rintro r62 _ w62 m62 ⟨v62_0, rfl, f62_0, ky62⟩
 obtain ⟨s63, rfl, p63, n63⟩ := nwx s57 w62 48 ky62
 refine al' (cs := [(.slice none 0 0)]) 49 rfl o32 rfl (fun b65 s65 p65 B65 => ?_)
 have A67 := (ap32 (f62_0.c n63)).st p65 rfl
 refine Xu (vs := [v62_0]) B65 z32 rfl (Xb A67.rd.one Xi) rfl (fun s68 p68 B68 => ?_)
 refine dn (sq (zdraw [[], [0], [], [1, 2], [3], [], [], [6], [], [4, 5, 7, 8, 7], [9], [10], [10], [], [13, 11, 9, 0, 1, 2, 3, 4, 5, 6, 7, 8, 9, 10, 11, 13], [12, 14, 0, 1, 2, 3, 4, 5, 6, 7, 8, 9, 10, 11, 12, 13, 14]] [some 42, some 43, some 44, some 45, some 46, some 47, some 48, some 49, some 50, some 51, some 41, some 52, some 53, some 15, none, some 16] [[14], [42], [1], [43, 44], [45], [2], [12], [48], [4], [46, 47, 49, 50], [51], [41], [41], [], [15, 52], [53]] [0, 1, 2, 3, 4, 5, 6, 7, 8, 9, 10, 11, 14, 12, 13, 15] ⟨by kernel_rfl, by kernel_rfl, by kernel_rfl⟩ (by kernel_rfl) (fun s70 p70 l70 tb70 zd70 => ?_)))
 have A75 := A67.st (Xq p68 p70) rfl
 refine mg fun hg76 => ?_
 obtain ⟨ad76, es76, he76, ce76, ia76⟩ := ix_e A75.rd rfl hg76.1 hg76.2
 obtain ⟨v76_0, rfl, A76_0⟩ := op59 he76
 refine ji [15] (fun (y85 : Int × (List (List Int)) × Bool) e w => ∃ (s : St) (e0 : Env) (vy85_0 : Value) (by85_0 : Nat), w = s.w ∧ e = upd (upd (upd (upd (upd e0 1 (iI a1)) 10 (pB b4)) 14 (pB b65)) 15 (pB by85_0)) 53 (.bool y85.2.2) ∧ Kp s0 s ∧ OwF (Kd.sl 25 Yo) s [vy85_0] y85.2.1 50 ∧ BlF s b65 32 [v62_0] 49 ∧ BlF s b4 32 [(.slice none 0 0)] 41 ∧ BlF s by85_0 59 [(iI y85.1), vy85_0] 51 ∧ OwF Yp s [v62_0] r62.Pages 48) (fun Gj85 Kj85 => ?_) ?_
 ·
  refine zstep2 7 13 [some 50, some 47, some 46, some 45, some 44, some 43, some 42] [some 50, some 48, some 47, some 46, some 45, some 44, some 43, some 42] tb70 ((((((((zd70.add 0 42 (pB b65) rfl).add 1 43 v62_0 rfl).add 2 44 (iI a1) rfl).add 3 45 (.pointer (some ad76)) rfl).add 4 46 (.agg #[(iI ((at_ r62.Pages a1).Lsn)), v76_0]) rfl).add 5 47 (iI a2) rfl).add 6 48 (.agg #[(iI r9.1.Xmin), (iI a3), (iI r9.1.Key.Kind), (iI r9.1.Key.N), v9_0, v9_1, (iI r9.1.Value.Kind), (iI r9.1.Value.N), v9_2, v9_3]) rfl).add 8 50 (iI a4) rfl) (Xa (Xm rfl) rfl (Xa (lda_q' (es := [(iI r9.1.Xmin), (iI a3), (iI r9.1.Key.Kind), (iI r9.1.Key.N), v9_0, v9_1, (iI r9.1.Value.Kind), (iI r9.1.Value.N), v9_2, v9_3]) (B57.st (tr4 p63 p65 p68 p70) rfl) u79 z79 rfl) rfl (Xa (Xm rfl) rfl (Xa (lca_q ce76 u59 z59 rfl rfl rfl rfl rfl rfl rfl) rfl (Xa (ix_q' A75.rd u30 z59 hg76.1 hg76.2 ia76 rfl) rfl (Xa (Xm rfl) rfl (Xa (Xp (B68.st p70 rfl) u30 rfl) rfl (Xa (Xr fa32_0 rfl) rfl Xg)))))))) (by kernel_rfl) (by kernel_rfl) (fun l86 e86 zd86 => ?_) (fun l87 e87 zd87 => ?_)
  ·
   refine clO 52 rfl func50 rfl (spec_TupleBytes.calls (Tuple.mk r9.1.Xmin a3 r9.1.Key r9.1.Value) s70.w (mm [42, 43] s70) v9_0 v9_1 v9_2 v9_3 ((Ye (s := s70) hu9_0_0).sub (D := [42, 43]) rfl) ((Cy38_12.st (tr5 p57 p63 p65 p68 p70) rfl).rd.sub (D := [42, 43]) rfl) ((Ye (s := s70) hu9_0_2).sub (D := [42, 43]) rfl) ((Cy38_13.st (tr5 p57 p63 p65 p68 p70) rfl).rd.sub (D := [42, 43]) rfl)) (fun r92 v92_0 s93 p93 A92_0 => ?_)
   refine Xl (L' := [8, 5, 4, 3, 2, 1, 0]) (D' := [6, 7]) zd86 rfl (fun zd95 => ?_)
   have A99 := A75.st p93 rfl
   refine zstep2 9 13 [] [some 50, some 47, some 46, some 45, some 44, some 43, some 42] tb70 zd95 (Xa (Xm rfl) rfl (Xa (Xm rfl) rfl (Xa (lca_q (ce76.st p93 rfl rfl) u59 z59 rfl rfl rfl rfl rfl rfl rfl) rfl (Xa (ix_q' A99.rd u30 z59 hg76.1 hg76.2 ia76 rfl) rfl (Xa (Xm rfl) rfl (Xa (Xp (B68.st (Xq p70 p93) rfl) u30 rfl) rfl (Xa (Xr fa32_0 rfl) rfl Xg))))))) (by kernel_rfl) (by kernel_rfl) (fun l96 e96 zd96 => ?_) (fun l97 e97 zd97 => ?_)
   ·
    refine cl' rfl func28 rfl (spec_PagePut.calls (at_ r62.Pages a1) a2 r92 a4 s93.w (mm [48, 52] s93) v76_0 v92_0 ((A76_0.st p93 rfl).sub (D := [48, 52]) rfl) (A92_0.rd.sub (D := [48, 52]) rfl)) ?_
    rintro r102 _ w102 m102 ⟨v102_0, rfl, f102_0, ky102⟩
    obtain ⟨s103, rfl, p103, n103⟩ := nwx s93 w102 53 ky102
    refine Xl (L' := []) (D' := [0, 1, 2, 3, 4, 5, 8, 9, 6, 7]) zd96 rfl (fun zd105 => ?_)
    refine Yc 13 [some 53, some 52, some 41] tb70 (((zd105.add 10 41 (.tuple #[(.agg #[(iI r102.1.Lsn), v102_0]), (.bool r102.2)]) rfl).add 11 52 (.agg #[(iI r102.1.Lsn), v102_0]) rfl).add 12 53 (.bool r102.2) rfl) (Xa (Xm (v := (.bool r102.2)) rfl) rfl (Xa (Xm (v := (.agg #[(iI r102.1.Lsn), v102_0])) rfl) rfl (Xa (Xm rfl) rfl Xg))) (by kernel_rfl) rfl (fun l109 e109 zd109 => ?_)
    refine al' (cs := [(iI 0), (.slice none 0 0)]) 54 rfl o59 rfl (fun b110 s110 p110 B110 => ?_)
    refine Xl (L' := [12, 11, 10]) (D' := [13, 0, 1, 2, 3, 4, 5, 8, 9, 6, 7]) zd109 rfl (fun zd112 => ?_)
    refine Yc 14 [some 53] tb70 zd112 (Xa (Xm (v := (.bool r102.2)) rfl) rfl (Xa (Xm (v := (.agg #[(iI r102.1.Lsn), v102_0])) rfl) rfl (Xa (Xm rfl) rfl Xg))) (by kernel_rfl) rfl (fun l113 e113 zd113 => ?_)
    have A114 := (ap59 (f102_0.c n103)).st p110 rfl
    refine Xu (vs := [(iI r102.1.Lsn), v102_0]) B110 z59 rfl (Xb rfl (Xb A114.rd.one Xi)) rfl (fun s115 p115 B115 => ?_)
    refine zdone0 (L' := [12]) (D' := [11, 10, 11, 14, 13, 0, 1, 2, 3, 4, 5, 8, 9, 6, 7]) zd113 rfl rfl rfl (fun zd117 => ?_)
    refine zfin [15] tb70 zd117 (Xa (Xm (v := (.bool r102.2)) rfl) rfl Xg) (by kernel_rfl) (by decide) ?_
    obtain ⟨s118, hw118, p118, D118⟩ := BlF.rc B115 51 rfl
    rw [hw118]
    obtain ⟨s121, hw121, p121, A121⟩ := (A114.st (Xq p115 p118) rfl).rc 50 rfl
    rw [hw121]
    exact Kj85 _ _ _ ⟨s121, _, v102_0, b110, rfl, (ue (ue (ue (ue (ue rfl rfl) rfl) rfl) rfl) rfl), (K60.st (tr10 p63 p65 p68 p70 p93 p103 p110 p115 p118 p121) rfl), A121, (B68.st (tr7 p70 p93 p103 p110 p115 p118 p121) rfl), (By38_b4.st (tr11 p57 p63 p65 p68 p70 p93 p103 p110 p115 p118 p121) rfl), (D118.st p121 rfl), (A99.st (tr5 p103 p110 p115 p118 p121) rfl)⟩
   refine al' (cs := [(iI 0), (.slice none 0 0)]) 55 rfl o59 rfl (fun b127 s127 p127 B127 => ?_)
   refine Xl (L' := [8, 5, 4, 3, 2, 1, 0]) (D' := [13, 6, 7]) zd97 rfl (fun zd129 => ?_)
   have A132 := A99.st p127 rfl
   refine Yc 9 [] tb70 zd129 (Xa (Xm rfl) rfl (Xa (Xm rfl) rfl (Xa (lca_q (ce76.st (Xq p93 p127) rfl rfl) u59 z59 rfl rfl rfl rfl rfl rfl rfl) rfl (Xa (ix_q' A132.rd u30 z59 hg76.1 hg76.2 ia76 rfl) rfl (Xa (Xm rfl) rfl (Xa (Xp (B68.st (Yi p70 p93 p127) rfl) u30 rfl) rfl (Xa (Xr fa32_0 rfl) rfl Xg))))))) (by kernel_rfl) rfl (fun l130 e130 zd130 => ?_)
   refine cl' rfl func28 rfl (spec_PagePut.calls (at_ r62.Pages a1) a2 r92 a4 s127.w (mm [48, 52] s127) v76_0 v92_0 ((A76_0.st (Xq p93 p127) rfl).sub (D := [48, 52]) rfl) ((A92_0.st p127 rfl).rd.sub (D := [48, 52]) rfl)) ?_
   rintro r136 _ w136 m136 ⟨v136_0, rfl, f136_0, ky136⟩
   obtain ⟨s137, rfl, p137, n137⟩ := nwx s127 w136 56 ky136
   have Au136_0_0 := ap59 (f136_0.c n137)
   refine Xl (L' := []) (D' := [0, 1, 2, 3, 4, 5, 8, 9, 13, 6, 7]) zd130 rfl (fun zd139 => ?_)
   refine Yc 14 [some 53] tb70 (((zd139.add 10 41 (.tuple #[(.agg #[(iI r136.1.Lsn), v136_0]), (.bool r136.2)]) rfl).add 11 52 (.agg #[(iI r136.1.Lsn), v136_0]) rfl).add 12 53 (.bool r136.2) rfl) (Xa (Xm (v := (.bool r136.2)) rfl) rfl (Xa (Xm (v := (.agg #[(iI r136.1.Lsn), v136_0])) rfl) rfl (Xa (Xm rfl) rfl Xg))) (by kernel_rfl) rfl (fun l143 e143 zd143 => ?_)
   refine Xu (vs := [(iI r136.1.Lsn), v136_0]) (B127.st p137 rfl) z59 rfl (Xb rfl (Xb Au136_0_0.rd.one Xi)) rfl (fun s145 p145 B145 => ?_)
   refine zdone0 (L' := [12]) (D' := [11, 10, 11, 14, 0, 1, 2, 3, 4, 5, 8, 9, 13, 6, 7]) zd143 rfl rfl rfl (fun zd147 => ?_)
   refine zfin [15] tb70 zd147 (Xa (Xm (v := (.bool r136.2)) rfl) rfl Xg) (by kernel_rfl) (by decide) ?_
   obtain ⟨s148, hw148, p148, D148⟩ := BlF.rc B145 51 rfl
   rw [hw148]
   obtain ⟨s151, hw151, p151, A151⟩ := (Au136_0_0.st (Xq p145 p148) rfl).rc 50 rfl
   rw [hw151]
   exact Kj85 _ _ _ ⟨s151, _, v136_0, b127, rfl, (ue (ue (ue (ue (ue rfl rfl) rfl) rfl) rfl) rfl), (K60.st (tr10 p63 p65 p68 p70 p93 p127 p137 p145 p148 p151) rfl), A151, (B68.st (tr7 p70 p93 p127 p137 p145 p148 p151) rfl), (By38_b4.st (tr11 p57 p63 p65 p68 p70 p93 p127 p137 p145 p148 p151) rfl), (D148.st p151 rfl), (A132.st (tr4 p137 p145 p148 p151) rfl)⟩
  refine al' (cs := [(iI 0), (.slice none 0 0)]) 57 rfl o59 rfl (fun b157 s157 p157 B157 => ?_)
  refine Xl (L' := [8, 6, 5, 4, 3, 2, 1, 0]) (D' := [13]) zd87 rfl (fun zd159 => ?_)
  have A162 := A75.st p157 rfl
  refine Yc 7 [some 50, some 47, some 46, some 45, some 44, some 43, some 42] tb70 zd159 (Xa (Xm rfl) rfl (Xa (lda_q' (es := [(iI r9.1.Xmin), (iI a3), (iI r9.1.Key.Kind), (iI r9.1.Key.N), v9_0, v9_1, (iI r9.1.Value.Kind), (iI r9.1.Value.N), v9_2, v9_3]) (B57.st (tr5 p63 p65 p68 p70 p157) rfl) u79 z79 rfl) rfl (Xa (Xm rfl) rfl (Xa (lca_q (ce76.st p157 rfl rfl) u59 z59 rfl rfl rfl rfl rfl rfl rfl) rfl (Xa (ix_q' A162.rd u30 z59 hg76.1 hg76.2 ia76 rfl) rfl (Xa (Xm rfl) rfl (Xa (Xp (B68.st (Xq p70 p157) rfl) u30 rfl) rfl (Xa (Xr fa32_0 rfl) rfl Xg)))))))) (by kernel_rfl) rfl (fun l160 e160 zd160 => ?_)
  refine clO 58 rfl func50 rfl (spec_TupleBytes.calls (Tuple.mk r9.1.Xmin a3 r9.1.Key r9.1.Value) s157.w (mm [42, 43] s157) v9_0 v9_1 v9_2 v9_3 ((Ye (s := s157) hu9_0_0).sub (D := [42, 43]) rfl) ((Cy38_12.st (tr6 p57 p63 p65 p68 p70 p157) rfl).rd.sub (D := [42, 43]) rfl) ((Ye (s := s157) hu9_0_2).sub (D := [42, 43]) rfl) ((Cy38_13.st (tr6 p57 p63 p65 p68 p70 p157) rfl).rd.sub (D := [42, 43]) rfl)) (fun r167 v167_0 s168 p168 A167_0 => ?_)
  refine Xl (L' := [8, 5, 4, 3, 2, 1, 0]) (D' := [6, 7, 13]) zd160 rfl (fun zd170 => ?_)
  have A173 := A162.st p168 rfl
  refine Yc 9 [] tb70 zd170 (Xa (Xm rfl) rfl (Xa (Xm rfl) rfl (Xa (lca_q (ce76.st (Xq p157 p168) rfl rfl) u59 z59 rfl rfl rfl rfl rfl rfl rfl) rfl (Xa (ix_q' A173.rd u30 z59 hg76.1 hg76.2 ia76 rfl) rfl (Xa (Xm rfl) rfl (Xa (Xp (B68.st (Yi p70 p157 p168) rfl) u30 rfl) rfl (Xa (Xr fa32_0 rfl) rfl Xg))))))) (by kernel_rfl) rfl (fun l171 e171 zd171 => ?_)
  refine cl' rfl func28 rfl (spec_PagePut.calls (at_ r62.Pages a1) a2 r167 a4 s168.w (mm [48, 58] s168) v76_0 v167_0 ((A76_0.st (Xq p157 p168) rfl).sub (D := [48, 58]) rfl) (A167_0.rd.sub (D := [48, 58]) rfl)) ?_
  rintro r176 _ w176 m176 ⟨v176_0, rfl, f176_0, ky176⟩
  obtain ⟨s177, rfl, p177, n177⟩ := nwx s168 w176 59 ky176
  have Au176_0_0 := ap59 (f176_0.c n177)
  refine Xl (L' := []) (D' := [0, 1, 2, 3, 4, 5, 8, 9, 6, 7, 13]) zd171 rfl (fun zd179 => ?_)
  refine Yc 14 [some 53] tb70 (((zd179.add 10 41 (.tuple #[(.agg #[(iI r176.1.Lsn), v176_0]), (.bool r176.2)]) rfl).add 11 52 (.agg #[(iI r176.1.Lsn), v176_0]) rfl).add 12 53 (.bool r176.2) rfl) (Xa (Xm (v := (.bool r176.2)) rfl) rfl (Xa (Xm (v := (.agg #[(iI r176.1.Lsn), v176_0])) rfl) rfl (Xa (Xm rfl) rfl Xg))) (by kernel_rfl) rfl (fun l183 e183 zd183 => ?_)
  refine Xu (vs := [(iI r176.1.Lsn), v176_0]) (B157.st (Xq p168 p177) rfl) z59 rfl (Xb rfl (Xb Au176_0_0.rd.one Xi)) rfl (fun s185 p185 B185 => ?_)
  refine zdone0 (L' := [12]) (D' := [11, 10, 11, 14, 0, 1, 2, 3, 4, 5, 8, 9, 6, 7, 13]) zd183 rfl rfl rfl (fun zd187 => ?_)
  refine zfin [15] tb70 zd187 (Xa (Xm (v := (.bool r176.2)) rfl) rfl Xg) (by kernel_rfl) (by decide) ?_
  obtain ⟨s188, hw188, p188, D188⟩ := BlF.rc B185 51 rfl
  rw [hw188]
  obtain ⟨s191, hw191, p191, A191⟩ := (Au176_0_0.st (Xq p185 p188) rfl).rc 50 rfl
  rw [hw191]
  exact Kj85 _ _ _ ⟨s191, _, v176_0, b157, rfl, (ue (ue (ue (ue (ue rfl rfl) rfl) rfl) rfl) rfl), (K60.st (tr10 p63 p65 p68 p70 p157 p168 p177 p185 p188 p191) rfl), A191, (B68.st (tr7 p70 p157 p168 p177 p185 p188 p191) rfl), (By38_b4.st (tr11 p57 p63 p65 p68 p70 p157 p168 p177 p185 p188 p191) rfl), (D188.st p191 rfl), (A173.st (tr4 p177 p185 p188 p191) rfl)⟩
 rintro y85 _ _ ⟨s197, _, vy85_0, by85_0, rfl, rfl, Ky85, Ay85_0, By85_b65, By85_b4, Dy85_0, Cy85_64⟩
 refine Xc rfl (dn (sr (Xt fa32_0 rfl (Yb By85_b65 u30 rfl (Xc rfl (Xw (es := [(iI y85.1), vy85_0]) Dy85_0 u59 z59 rfl (ix' Cy85_64.rd u30 z59 rfl (fun ad202 es202 h0_202 h1_202 he202 ce202 ia202 => ?_))))))))
 obtain ⟨v202_0, rfl, A202_0⟩ := op59 he202
 have A205 : OwF kd59 s197 [(iI y85.1), vy85_0] (Page.mk y85.1 y85.2.1) 50 := (Xo (fun x : Page => (x.Lsn, x.Slots)) (Page.mk y85.1 y85.2.1) (Yg (Xf .i64 y85.1) Ay85_0))
 refine som (x' := (Page.mk y85.1 y85.2.1)) Cy85_64 ia202 h0_202 h1_202 A205 rfl rfl z59 rfl rfl rfl rfl rfl rfl (fun s207 p207 A207 => ?_)
 refine dn (sr ?_)
 refine Xw (es := [v62_0]) (By85_b65.st p207 rfl) u32 z32 rfl (Xu (vs := [v62_0]) (By85_b4.st p207 rfl) z32 rfl (Xb A207.rd.one Xi) rfl (fun s211 p211 B211 => ?_))
 refine Xc rfl (dn ?_)
 have A213 : OwF kd32 s211 [v62_0] (Heap.mk (r62.Pages.set (a1).toNat (Page.mk y85.1 y85.2.1))) 48 := (Xo (fun x : Heap => (x.Pages)) (Heap.mk (r62.Pages.set (a1).toNat (Page.mk y85.1 y85.2.1))) (A207.st p211 rfl))
 have K216 := Ky85.st (Xq p207 p211) rfl
 exact re rfl func29 rfl (r_b B211 u32 rfl z32 rfl (Xs rfl Xe)) rfl ⟨_, rfl, v62_0, rfl, A213.fo K216 rfl z.l, z.ky K216⟩
def spec_PageClear.b0 (a2 : Int) (x61 : (List (List Int))) : Option ((List (List Int)) ⊕ (Page × Bool)) :=
 ((if (decide ((x61.length : Int) > (0 : Int))) = true then (if 0 ≤ (IntKind.wrap .i64 ((x61.length : Int) - (1 : Int))) ∧ (IntKind.wrap .i64 ((x61.length : Int) - (1 : Int))) < (x61.length : Int) then (some (((at_ x61 (IntKind.wrap .i64 ((x61.length : Int) - (1 : Int)))).length : Int) == (0 : Int))) else none) else (some false)).bind fun y69 => (if y69 = true then (if 0 ≤ (IntKind.wrap .i64 ((x61.length : Int) - (1 : Int))) ∧ (IntKind.wrap .i64 ((x61.length : Int) - (1 : Int))) ≤ (x61.length : Int) then (some (Sum.inl (x61.take ((IntKind.wrap .i64 ((x61.length : Int) - (1 : Int)))).toNat))) else none) else ((some ((Page.mk a2 x61), true)).bind fun o => some (Sum.inr o))))
def spec_PageClear.f (a0 : Page) (a1 : Int) (a2 : Int) : Option (Page × Bool) :=
 ((spec_PageUsed.f a0).bind fun r9 => ((if (decide (r9 < (0 : Int))) = true then (some true) else ((spec_l5in.f a1 (0 : Int) (IntKind.wrap .i64 ((a0.Slots.length : Int) - (1 : Int)))).bind fun r18 => (some (!r18)))).bind fun y11 => ((if y11 = true then (some true) else ((spec_l5in.f a2 (1 : Int) (1000000 : Int)).bind fun r27 => (some (!r27)))).bind fun y26 => (if y26 = true then (some ((Page.mk (0 : Int) ([] : (List (List Int)))), false)) else ((spec_l7copy.f a0).bind fun r42 => (if 0 ≤ a1 ∧ a1 < (r42.Slots.length : Int) then (iter (spec_PageClear.b0 a2) (r42.Slots.set (a1).toNat ([] : (List Int)))) else none))))))
def spec_PageClear.Q (w : World) (F : Nat → Prop) (r : Page × Bool) (v : Value) (w' : World) : Prop :=
 ∃ (v0 : Value), v = .tuple #[(.agg #[(iI r.1.Lsn), v0]), (.bool r.2)] ∧ FO kd59 w w' [(iI r.1.Lsn), v0] r.1 ∧ Ky [] w w'
theorem spec_PageClear.calls (a0 : Page) (a1 : Int) (a2 : Int) (w : World) (F : Nat → Prop) (w0_0 : Value) (h0_0 : (Kd.sl 25 Yo).rd w [w0_0] a0.Slots F) (r : Page × Bool) (m : spec_PageClear.f a0 a1 a2 = some r) :
  Calls prog 51 #[(.agg #[(iI a0.Lsn), w0_0]), (iI a1), (iI a2)] w (RT (spec_PageClear.Q w F) r) := by
 obtain ⟨s0, rfl, kp0, z⟩ := Xk w F
 have A0_0 := z.rd h0_0
 refine Xd (args := [(.agg #[(iI a0.Lsn), w0_0]), (iI a1), (iI a2)]) func51 ntmps51 rfl rfl m ?_
 unfold spec_PageClear.f
 refine sr (bx' (cs := [(iI a0.Lsn), w0_0]) 40 rfl rfl (fun b2 s2 p2 B2 => ?_))
 refine al' (cs := [(iI 0), (.slice none 0 0)]) 41 rfl o59 rfl (fun b4 s4 p4 B4 => ?_)
 refine Xc rfl (dn (sq (sr ?_)))
 have A6 := B2.st p4 rfl
 refine Xw (es := [(iI a0.Lsn), w0_0]) A6 u59 z59 rfl ?_
 have K7 := kp0.st (Xq p2 p4) rfl
 refine Ym 42 rfl func43 rfl (spec_PageUsed.calls a0 s4.w (mm [0] s4) w0_0 (A0_0.kp K7)) (fun r9 s10 p10 n10 => ?_)
 refine Xc rfl (Xc rfl (ji [12, 13, 14, 15, 16] (fun (y11 : Bool) e w => ∃ (s : St) (e0 : Env), w = s.w ∧ e = upd (upd (upd (upd (upd e0 1 (iI a1)) 2 (iI a2)) 3 (pB b2)) 6 (pB b4)) 20 (.bool y11) ∧ Kp s0 s ∧ BlF s b4 59 [(iI 0), (.slice none 0 0)] 41 ∧ BlF s b2 59 [(iI a0.Lsn), w0_0] 40) (fun Gj11 Kj11 => ?_) ?_))
 ·
  rcases Yn (decide (r9 < (0 : Int))) with hb11 | hb11
  ·
   refine Xy hb11 ?_
   rw [if_pos hb11]
   refine Xj rfl (Xj rfl (Xj rfl (Xj rfl (Xj rfl (Xj rfl (Xj rfl (Xc rfl ?_)))))))
   exact Kj11 _ _ _ ⟨s10, _, rfl, (ue (ue (ue (ue (ue rfl rfl) rfl) rfl) rfl) rfl), (K7.st p10 rfl), (B4.st p10 rfl), (A6.st p10 rfl)⟩
  refine Xy hb11 ?_
  rw [if_neg (by rw [hb11]; decide)]
  refine Xc rfl (Xt fa59_1 rfl ?_)
  have A15 := A6.st p10 rfl
  refine Yb A15 u57 rfl ?_
  have K16 := K7.st p10 rfl
  refine Yl (A0_0.kp K16) u57 rfl (Xc rfl (Ym 43 rfl func45 rfl (spec_l5in.calls a1 (0 : Int) (IntKind.wrap .i64 ((a0.Slots.length : Int) - (1 : Int))) s10.w (mm [] s10)) (fun r18 s19 p19 n19 => ?_)))
  refine Xc rfl (Xc rfl ?_)
  exact Kj11 _ _ _ ⟨s19, _, rfl, (ue (ue (ue (ue (ue rfl rfl) rfl) rfl) rfl) rfl), (K16.st p19 rfl), (B4.st (Xq p10 p19) rfl), (A15.st p19 rfl)⟩
 rintro y11 _ _ ⟨s23, _, rfl, rfl, Ky11, By11_b4, By11_b2⟩
 refine Xc rfl (ji [] (fun (y26 : Bool) e w => ∃ (s : St) (e0 : Env), w = s.w ∧ e = upd (upd (upd (upd (upd e0 1 (iI a1)) 2 (iI a2)) 3 (pB b2)) 6 (pB b4)) 25 (.bool y26) ∧ Kp s0 s ∧ BlF s b4 59 [(iI 0), (.slice none 0 0)] 41 ∧ BlF s b2 59 [(iI a0.Lsn), w0_0] 40) (fun Gj26 Kj26 => ?_) ?_)
 ·
  rcases Yn y11 with hb26 | hb26
  ·
   refine Xy hb26 ?_
   rw [if_pos hb26]
   exact Xj rfl (Xj rfl (Xj rfl (Xc rfl (Kj26 _ _ _ ⟨s23, _, rfl, (ue (ue (ue (ue (ue rfl rfl) rfl) rfl) rfl) rfl), Ky11, By11_b4, By11_b2⟩))))
  refine Xy hb26 ?_
  rw [if_neg (by rw [hb26]; decide)]
  refine Xc rfl (Ym 44 rfl func45 rfl (spec_l5in.calls a2 (1 : Int) (1000000 : Int) s23.w (mm [] s23)) (fun r27 s28 p28 n28 => ?_))
  refine Xc rfl (Xc rfl ?_)
  exact Kj26 _ _ _ ⟨s28, _, rfl, (ue (ue (ue (ue (ue rfl rfl) rfl) rfl) rfl) rfl), (Ky11.st p28 rfl), (By11_b4.st p28 rfl), (By11_b2.st p28 rfl)⟩
 rintro y26 _ _ ⟨s32, _, rfl, rfl, Ky26, By26_b4, By26_b2⟩
 refine dn (cd rfl (fun h35 => ?_) (fun h35 => ?_))
 ·
  refine sr (bd' (cells := [(iI 0), (.slice none 0 0)]) pl59 o59 rfl rfl (Xu (vs := [(iI 0), (.slice none 0 0)]) By26_b4 z59 rfl (Xb rfl (Xb rfl Xi)) rfl (fun s36 p36 B36 => ?_)))
  refine Xc rfl (dn ?_)
  have A38 : OwF kd59 s36 [(iI 0), (.slice none 0 0)] (Page.mk (0 : Int) ([] : (List (List Int)))) 45 := ow_z _ _ (Xz (fun x : Page => (x.Lsn, x.Slots)) (Page.mk (0 : Int) ([] : (List (List Int)))) (Xh (Xf .i64 (0 : Int)) (Ya 25 Yo)))
  have K40 := Ky26.st p36 rfl
  exact re rfl func51 rfl (r_b B36 u59 rfl z59 rfl (Xs rfl Xe)) rfl ⟨_, rfl, (.slice none 0 0), rfl, A38.fo K40 rfl z.l, z.ky K40⟩
 refine sk (sr (Xw (es := [(iI a0.Lsn), w0_0]) By26_b2 u59 z59 rfl ?_))
 refine cl' rfl func46 rfl (spec_l7copy.calls a0 s32.w (mm [0] s32) w0_0 (A0_0.kp Ky26)) ?_
 rintro r42 _ w42 m42 ⟨v42_0, rfl, f42_0, ky42⟩
 obtain ⟨s43, rfl, p43, n43⟩ := nwx s32 w42 46 ky42
 refine al' (cs := [(iI 0), (.slice none 0 0)]) 47 rfl o59 rfl (fun b45 s45 p45 B45 => ?_)
 have A47 := (ap59 (f42_0.c n43)).st p45 rfl
 refine Xu (vs := [(iI r42.Lsn), v42_0]) B45 z59 rfl (Xb rfl (Xb A47.rd.one Xi)) rfl (fun s48 p48 B48 => ?_)
 refine dn (sr (Xt fa59_1 rfl (Yb B48 u57 rfl (Xc rfl ?_))))
 have A50 := A47.st p48 rfl
 refine ix' A50.rd u57 z25 rfl (fun ad51 es51 h0_51 h1_51 he51 ce51 ia51 => ?_)
 obtain ⟨v51, rfl, he51'⟩ := he51
 have A51 : RdF Yo s48 [v51] (at_ r42.Slots a1) [46] := ⟨v51, rfl, he51'⟩
 have A54 : OwF Yo s48 [(.slice none 0 0)] ([] : (List Int)) 48 := ow_z _ _ (Ya 5 (Kd.int .u8))
 refine sog (x' := ([] : (List Int))) lg_id A50 ia51 h0_51 h1_51 A54 rfl rfl z25 rfl rfl rfl rfl rfl rfl (fun s56 p56 A56 => ?_)
 refine dn (sr (Xc rfl (Xt fa59_0 rfl ?_)))
 refine sv' (B48.st p56 rfl) z3 rfl rfl rfl (fun s59 p59 B59 => ?_)
 refine dn (sq (bl ?_))
 refine lpI (fun (x61 : (List (List Int))) e w => ∃ (s : St) (e0 : Env) (vx61_0 : Value), w = s.w ∧ e = upd (upd e0 6 (pB b4)) 8 (pB b45) ∧ Kp s0 s ∧ OwF (Kd.sl 25 Yo) s [vx61_0] x61 46 ∧ BlF s b45 59 [(iI a2), vx61_0] 47 ∧ BlF s b4 59 [(iI 0), (.slice none 0 0)] 41) ⟨s59, _, v42_0, rfl, (ue (ue rfl rfl) rfl), (Ky26.st (tr5 p43 p45 p48 p56 p59) rfl), (A56.st p59 rfl), B59, (By26_b4.st (tr5 p43 p45 p48 p56 p59) rfl)⟩ (fun g61 ih61 => ?_)
 rintro x61 _ _ ⟨s65, _, vx61_0, rfl, rfl, Kx61, Ax61_0, Bx61_b45, Bx61_b4⟩
 unfold spec_PageClear.b0
 refine sq (sr (Xt fa59_1 rfl (Yb Bx61_b45 u57 rfl (Yl Ax61_0.rd u57 rfl (Xc rfl (Xc rfl (ji [] (fun (y69 : Bool) e w => ∃ (s : St) (e0 : Env), w = s.w ∧ e = upd (upd (upd e0 6 (pB b4)) 8 (pB b45)) 50 (.bool y69) ∧ Kp s0 s ∧ BlF s b45 59 [(iI a2), vx61_0] 47 ∧ BlF s b4 59 [(iI 0), (.slice none 0 0)] 41 ∧ OwF (Kd.sl 25 Yo) s [vx61_0] x61 46) (fun Gj69 Kj69 => ?_) ?_)))))))
 ·
  rcases Yn (decide ((x61.length : Int) > (0 : Int))) with hb69 | hb69
  ·
   refine Xy hb69 ?_
   rw [if_pos hb69]
   refine Xt fa59_1 rfl (Yb Bx61_b45 u57 rfl (Xt fa59_1 rfl (Yb Bx61_b45 u57 rfl (Yl Ax61_0.rd u57 rfl (Xc rfl (ix' Ax61_0.rd u57 z25 rfl (fun ad70 es70 h0_70 h1_70 he70 ce70 ia70 => ?_)))))))
   obtain ⟨v70, rfl, he70'⟩ := he70
   have A70 : RdF Yo s65 [v70] (at_ x61 (IntKind.wrap .i64 ((x61.length : Int) - (1 : Int)))) [46] := ⟨v70, rfl, he70'⟩
   exact lc0' ce70 u25 rfl (Yl A70 u25 rfl (Xc rfl (Xc rfl (Kj69 _ _ _ ⟨s65, _, rfl, (ue (ue (ue rfl rfl) rfl) rfl), Kx61, Bx61_b45, Bx61_b4, Ax61_0⟩))))
  refine Xy hb69 ?_
  rw [if_neg (by rw [hb69]; decide)]
  exact Xj rfl (Xj rfl (Xj rfl (Xj rfl (Xj rfl (Xj rfl (Xj rfl (Xj rfl (Xj rfl (Xj rfl (Xc rfl (Kj69 _ _ _ ⟨s65, _, rfl, (ue (ue (ue rfl rfl) rfl) rfl), Kx61, Bx61_b45, Bx61_b4, Ax61_0⟩)))))))))))
 rintro y69 _ _ ⟨s73, _, rfl, rfl, Ky69, By69_b45, By69_b4, Cy69_66⟩
 refine dn (cd rfl (fun h76 => ?_) (fun h76 => ?_))
 ·
  refine sk (bl (rg (Xt fa59_1 rfl (Yb By69_b45 u57 rfl (Xt fa59_1 rfl (Yb By69_b45 u57 rfl (Yl Cy69_66.rd u57 rfl (Xc rfl (slO Cy69_66 u57 z25 rfl rfl rfl rfl rfl rfl rfl (fun v77 A77 => ?_))))))))))
  refine Xt fa59_1 rfl (sv' By69_b45 z57 rfl A77.rd.one rfl (fun s79 p79 B79 => ?_))
  refine dn (ib ?_)
  exact lb ih61 ⟨s79, _, v77, rfl, (ue (ue rfl rfl) rfl), (Ky69.st p79 rfl), (A77.st p79 rfl), B79, (By69_b4.st p79 rfl)⟩
 refine xt rfl (sgb (sr (Xw (es := [(iI a2), vx61_0]) By69_b45 u59 z59 rfl (Xu (vs := [(iI a2), vx61_0]) By69_b4 z59 rfl (Xb rfl (Xb Cy69_66.rd.one Xi)) rfl (fun s84 p84 B84 => ?_)))))
 refine Xc rfl (dn ?_)
 have A86 : OwF kd59 s84 [(iI a2), vx61_0] (Page.mk a2 x61) 46 := (Xo (fun x : Page => (x.Lsn, x.Slots)) (Page.mk a2 x61) (Yg (Xf .i64 a2) (Cy69_66.st p84 rfl)))
 have K89 := Ky69.st p84 rfl
 exact re rfl func51 rfl (r_b B84 u59 rfl z59 rfl (Xs rfl Xe)) rfl ⟨_, rfl, vx61_0, rfl, A86.fo K89 rfl z.l, z.ky K89⟩
end Go.Proofs.YtkkpplnhcpjmgaaGreat
