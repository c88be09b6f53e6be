/- The functions as models, and that the calls come to what the models tell. -/
import Derived.Test.YtcgbhldenkeplaaGreatGt
set_option linter.unusedVariables false
set_option linter.unusedSimpArgs false
set_option maxHeartbeats 4000000
set_option maxRecDepth 100000
noncomputable section
namespace Go.Proofs.YtcgbhldenkeplaaGreat
open Go V Tryz
def laws_szByteS.f (a0 : (List Int)) (a1 : Int) : Option (Int) :=
 (if (decide ((IntKind.wrap .i64 (a1 - (a0.length : Int))) < (0 : Int))) = true then (some (-1 : Int)) else (some (IntKind.wrap .i64 (a1 - (a0.length : Int)))))
def laws_szByteS.Q (w : World) (F : Nat → Prop) (r : Int) (v : Value) (w' : World) : Prop :=
 v = (iI r) ∧ Ky [] w w'
theorem laws_szByteS.calls (a0 : (List Int)) (a1 : Int) (w : World) (F : Nat → Prop) (w0_0 : Value) (h0_0 : Ye.rd w [w0_0] a0 F) (r : Int) (m : laws_szByteS.f a0 a1 = some r) :
  Calls prog 78 #[w0_0, (iI a1)] w (RT (laws_szByteS.Q w F) r) := by
 obtain ⟨s0, rfl, kp0, z⟩ := Xg w F
 refine Xd (args := [w0_0, (iI a1)]) func78 ntmps78 rfl rfl m ?_
 unfold laws_szByteS.f
 refine sr (Xb rfl (dn (sr (Xb rfl (Xl w0_0 rfl (ln' (z.rd h0_0) u45 rfl (Xb rfl (Xb rfl (dn (sq (sr (Xb rfl (Xb rfl (dn ?_))))))))))))))
 refine cd rfl (fun h2 => ?_) (fun h2 => ?_)
 ·
  exact sr (Xb rfl (dn (re rfl func78 rfl (Xo rfl Xe) rfl ⟨_, rfl, rfl, z.ky kp0⟩)))
 exact sk (sr (Xb rfl (Xb rfl (dn (re rfl func78 rfl (Xo rfl Xe) rfl ⟨_, rfl, rfl, z.ky kp0⟩)))))
def laws_szByteSS.b0 (a0 : (List (List Int))) (x3 : Int × Int) : Option ((Int × Int) ⊕ Int) :=
 (if (decide (x3.2 < (a0.length : Int))) = true then (if 0 ≤ x3.2 ∧ x3.2 < (a0.length : Int) then ((laws_szByteS.f (at_ a0 x3.2) x3.1).bind fun r10 => (if (decide (r10 < (0 : Int))) = true then (some (Sum.inr (-1 : Int))) else (some (Sum.inl (r10, (IntKind.wrap .i64 (x3.2 + (1 : Int)))))))) else none) else ((some x3.1).bind fun o => some (Sum.inr o)))
def laws_szByteSS.f (a0 : (List (List Int))) (a1 : Int) : Option (Int) :=
 (if (decide ((IntKind.wrap .i64 (a1 - (a0.length : Int))) < (0 : Int))) = true then (some (-1 : Int)) else (iter (laws_szByteSS.b0 a0) ((IntKind.wrap .i64 (a1 - (a0.length : Int))), (0 : Int))))
def laws_szByteSS.Q (w : World) (F : Nat → Prop) (r : Int) (v : Value) (w' : World) : Prop :=
 v = (iI r) ∧ Ky [] w w'
theorem laws_szByteSS.calls (a0 : (List (List Int))) (a1 : Int) (w : World) (F : Nat → Prop) (w0_0 : Value) (h0_0 : (Kd.sl 45 Ye).rd w [w0_0] a0 F) (r : Int) (m : laws_szByteSS.f a0 a1 = some r) :
  Calls prog 52 #[w0_0, (iI a1)] w (RT (laws_szByteSS.Q w F) r) := by
 obtain ⟨s0, rfl, kp0, z⟩ := Xg w F
 have A0_0 := z.rd h0_0
 refine Xd (args := [w0_0, (iI a1)]) func52 ntmps52 rfl rfl m ?_
 unfold laws_szByteSS.f
 refine sr (Xb rfl (dn (sr (Xb rfl (Xl w0_0 rfl (ln' A0_0 u66 rfl (Xb rfl (Xb rfl (dn (sq (sr (Xb rfl (Xb rfl (dn ?_))))))))))))))
 refine cd rfl (fun h2 => ?_) (fun h2 => ?_)
 ·
  exact sr (Xb rfl (dn (re rfl func52 rfl (Xo rfl Xe) rfl ⟨_, rfl, rfl, z.ky kp0⟩)))
 refine sk (sq (sr (Xb rfl (dn (bl (lpI (fun (x3 : Int × Int) e w => ∃ (s : St) (e0 : Env), w = s.w ∧ e = upd (upd (upd e0 0 w0_0) 1 (iI x3.1)) 5 (iI x3.2) ∧ Kp s0 s) ⟨s0, _, rfl, (ue (ue (ue rfl rfl) rfl) rfl), kp0⟩ (fun g3 ih3 => ?_)))))))
 rintro x3 _ _ ⟨s4, _, rfl, rfl, Kx3⟩
 unfold laws_szByteSS.b0
 refine sq (sr (Xb rfl (Xl w0_0 rfl ?_)))
 have A5 := A0_0.kp Kx3
 refine ln' A5 u66 rfl (Xb rfl (dn (cd rfl (fun h6 => ?_) (fun h6 => ?_))))
 ·
  refine sk (sq (bl (sr (Xl w0_0 rfl (Xb rfl (ix' A5 u66 z45 rfl (fun ad7 es7 h0_7 h1_7 he7 ce7 ia7 => ?_)))))))
  obtain ⟨v7, rfl, he7'⟩ := he7
  have A7 : RdF Ye s4 [v7] (at_ a0 x3.2) [0] := ⟨v7, rfl, he7'⟩
  refine lc0' ce7 u45 rfl (Xb rfl (clV 40 rfl func78 rfl (laws_szByteS.calls (at_ a0 x3.2) x3.1 s4.w (mm [0] s4) v7 A7) (fun r10 s11 p11 n11 => ?_)))
  refine Xb rfl (dn (sr (Xb rfl (Xb rfl (dn (cd rfl (fun h12 => ?_) (fun h12 => ?_)))))))
  ·
   refine sr (Xb rfl (dn (sgi ?_)))
   exact re rfl func52 rfl (Xo rfl Xe) rfl ⟨_, rfl, rfl, z.ky (Kx3.st p11 rfl)⟩
  refine sk (ib (rg (Xb rfl (Xb rfl (Xb rfl (dn ?_))))))
  exact lb ih3 ⟨s11, _, rfl, (ue (ue (ue rfl rfl) rfl) rfl), (Kx3.st p11 rfl)⟩
 exact xt rfl (sgb (sr (Xb rfl (Xb rfl (dn (re rfl func52 rfl (Xo rfl Xe) rfl ⟨_, rfl, rfl, z.ky Kx3⟩))))))
def laws_szPage.f (a0 : Page) (a1 : Int) : Option (Int) :=
 ((laws_szByteSS.f a0.Slots a1).bind fun r6 => (if (decide (r6 < (0 : Int))) = true then (some (-1 : Int)) else (some r6)))
def laws_szPage.Q (w : World) (F : Nat → Prop) (r : Int) (v : Value) (w' : World) : Prop :=
 v = (iI r) ∧ Ky [] w w'
theorem laws_szPage.calls (a0 : Page) (a1 : Int) (w : World) (F : Nat → Prop) (w0_0 : Value) (h0_0 : (Kd.sl 45 Ye).rd w [w0_0] a0.Slots F) (r : Int) (m : laws_szPage.f a0 a1 = some r) :
  Calls prog 32 #[(.agg #[(iI a0.Lsn), w0_0]), (iI a1)] w (RT (laws_szPage.Q w F) r) := by
 obtain ⟨s0, rfl, kp0, z⟩ := Xg w F
 refine Xd (args := [(.agg #[(iI a0.Lsn), w0_0]), (iI a1)]) func32 ntmps32 rfl rfl m ?_
 unfold laws_szPage.f
 refine sr (bx' (cs := [(iI a0.Lsn), w0_0]) 40 rfl rfl (fun b2 s2 p2 B2 => ?_))
 refine Xb rfl (dn (sr (Xr fa68_1 rfl (ld' B2 u66 rfl (Xb rfl ?_)))))
 have K4 := kp0.st p2 rfl
 refine clV 41 rfl func52 rfl (laws_szByteSS.calls a0.Slots a1 s2.w (mm [0] s2) w0_0 ((z.rd h0_0).kp K4)) (fun r6 s7 p7 n7 => ?_)
 refine Xb rfl (dn (sq (sr (Xb rfl (Xb rfl (dn (cd rfl (fun h8 => ?_) (fun h8 => ?_))))))))
 ·
  refine sr (Xb rfl (dn ?_))
  exact re rfl func32 rfl (Xo rfl Xe) rfl ⟨_, rfl, rfl, z.ky (K4.st p7 rfl)⟩
 refine sk (sr (Xb rfl (Xb rfl (dn ?_))))
 exact re rfl func32 rfl (Xo rfl Xe) rfl ⟨_, rfl, rfl, z.ky (K4.st p7 rfl)⟩
def laws_szPageS.b0 (a0 : (List Page)) (x3 : Int × Int) : Option ((Int × Int) ⊕ Int) :=
 (if (decide (x3.2 < (a0.length : Int))) = true then (if 0 ≤ x3.2 ∧ x3.2 < (a0.length : Int) then ((laws_szPage.f (at_ a0 x3.2) x3.1).bind fun r10 => (if (decide (r10 < (0 : Int))) = true then (some (Sum.inr (-1 : Int))) else (some (Sum.inl (r10, (IntKind.wrap .i64 (x3.2 + (1 : Int)))))))) else none) else ((some x3.1).bind fun o => some (Sum.inr o)))
def laws_szPageS.f (a0 : (List Page)) (a1 : Int) : Option (Int) :=
 (if (decide ((IntKind.wrap .i64 (a1 - (a0.length : Int))) < (0 : Int))) = true then (some (-1 : Int)) else (iter (laws_szPageS.b0 a0) ((IntKind.wrap .i64 (a1 - (a0.length : Int))), (0 : Int))))
def laws_szPageS.Q (w : World) (F : Nat → Prop) (r : Int) (v : Value) (w' : World) : Prop :=
 v = (iI r) ∧ Ky [] w w'
theorem laws_szPageS.calls (a0 : (List Page)) (a1 : Int) (w : World) (F : Nat → Prop) (w0_0 : Value) (h0_0 : (Kd.sl 68 kd68).rd w [w0_0] a0 F) (r : Int) (m : laws_szPageS.f a0 a1 = some r) :
  Calls prog 16 #[w0_0, (iI a1)] w (RT (laws_szPageS.Q w F) r) := by
 obtain ⟨s0, rfl, kp0, z⟩ := Xg w F
 have A0_0 := z.rd h0_0
 refine Xd (args := [w0_0, (iI a1)]) func16 ntmps16 rfl rfl m ?_
 unfold laws_szPageS.f
 refine sr (Xb rfl (dn (sr (Xb rfl (Xl w0_0 rfl (ln' A0_0 u22 rfl (Xb rfl (Xb rfl (dn (sq (sr (Xb rfl (Xb rfl (dn ?_))))))))))))))
 refine cd rfl (fun h2 => ?_) (fun h2 => ?_)
 ·
  exact sr (Xb rfl (dn (re rfl func16 rfl (Xo rfl Xe) rfl ⟨_, rfl, rfl, z.ky kp0⟩)))
 refine sk (sq (sr (Xb rfl (dn (bl (lpI (fun (x3 : Int × Int) e w => ∃ (s : St) (e0 : Env), w = s.w ∧ e = upd (upd (upd e0 0 w0_0) 1 (iI x3.1)) 5 (iI x3.2) ∧ Kp s0 s) ⟨s0, _, rfl, (ue (ue (ue rfl rfl) rfl) rfl), kp0⟩ (fun g3 ih3 => ?_)))))))
 rintro x3 _ _ ⟨s4, _, rfl, rfl, Kx3⟩
 unfold laws_szPageS.b0
 refine sq (sr (Xb rfl (Xl w0_0 rfl ?_)))
 have A5 := A0_0.kp Kx3
 refine ln' A5 u22 rfl (Xb rfl (dn (cd rfl (fun h6 => ?_) (fun h6 => ?_))))
 ·
  refine sk (sq (bl (sr (Xl w0_0 rfl (Xb rfl (ix' A5 u22 z68 rfl (fun ad7 es7 h0_7 h1_7 he7 ce7 ia7 => ?_)))))))
  obtain ⟨v7_0, rfl, A7_0⟩ := op68 he7
  refine lca ce7 u68 z68 rfl rfl rfl rfl rfl rfl rfl (Xb rfl (clV 40 rfl func32 rfl (laws_szPage.calls (at_ a0 x3.2) x3.1 s4.w (mm [0] s4) v7_0 A7_0) (fun r10 s11 p11 n11 => ?_)))
  refine Xb rfl (dn (sr (Xb rfl (Xb rfl (dn (cd rfl (fun h12 => ?_) (fun h12 => ?_)))))))
  ·
   refine sr (Xb rfl (dn (sgi ?_)))
   exact re rfl func16 rfl (Xo rfl Xe) rfl ⟨_, rfl, rfl, z.ky (Kx3.st p11 rfl)⟩
  refine sk (ib (rg (Xb rfl (Xb rfl (Xb rfl (dn ?_))))))
  exact lb ih3 ⟨s11, _, rfl, (ue (ue (ue rfl rfl) rfl) rfl), (Kx3.st p11 rfl)⟩
 exact xt rfl (sgb (sr (Xb rfl (Xb rfl (dn (re rfl func16 rfl (Xo rfl Xe) rfl ⟨_, rfl, rfl, z.ky Kx3⟩))))))
def laws_szHeap.f (a0 : Heap) (a1 : Int) : Option (Int) :=
 ((laws_szPageS.f a0.Pages a1).bind fun r6 => (if (decide (r6 < (0 : Int))) = true then (some (-1 : Int)) else (some r6)))
def laws_szHeap.Q (w : World) (F : Nat → Prop) (r : Int) (v : Value) (w' : World) : Prop :=
 v = (iI r) ∧ Ky [] w w'
theorem laws_szHeap.calls (a0 : Heap) (a1 : Int) (w : World) (F : Nat → Prop) (w0_0 : Value) (h0_0 : (Kd.sl 68 kd68).rd w [w0_0] a0.Pages F) (r : Int) (m : laws_szHeap.f a0 a1 = some r) :
  Calls prog 4 #[(.agg #[w0_0]), (iI a1)] w (RT (laws_szHeap.Q w F) r) := by
 obtain ⟨s0, rfl, kp0, z⟩ := Xg w F
 refine Xd (args := [(.agg #[w0_0]), (iI a1)]) func4 ntmps4 rfl rfl m ?_
 unfold laws_szHeap.f
 refine sr (bx' (cs := [w0_0]) 40 rfl rfl (fun b2 s2 p2 B2 => ?_))
 refine Xb rfl (dn (sr (Xr fa24_0 rfl (ld' B2 u22 rfl (Xb rfl ?_)))))
 have K4 := kp0.st p2 rfl
 refine clV 41 rfl func16 rfl (laws_szPageS.calls a0.Pages a1 s2.w (mm [0] s2) w0_0 ((z.rd h0_0).kp K4)) (fun r6 s7 p7 n7 => ?_)
 refine Xb rfl (dn (sq (sr (Xb rfl (Xb rfl (dn (cd rfl (fun h8 => ?_) (fun h8 => ?_))))))))
 ·
  refine sr (Xb rfl (dn ?_))
  exact re rfl func4 rfl (Xo rfl Xe) rfl ⟨_, rfl, rfl, z.ky (K4.st p7 rfl)⟩
 refine sk (sr (Xb rfl (Xb rfl (dn ?_))))
 exact re rfl func4 rfl (Xo rfl Xe) rfl ⟨_, rfl, rfl, z.ky (K4.st p7 rfl)⟩
def laws_toByteS.b0 (a0 : (List Int)) (x4 : (List Int) × Int) : Option (((List Int) × Int) ⊕ (List Int)) :=
 (if (decide (x4.2 < (a0.length : Int))) = true then (if 0 ≤ x4.2 ∧ x4.2 < (a0.length : Int) then (if 0 ≤ x4.2 ∧ x4.2 < (x4.1.length : Int) then (some (Sum.inl ((x4.1.set (x4.2).toNat (at_ a0 x4.2)), (IntKind.wrap .i64 (x4.2 + (1 : Int)))))) else none) else none) else ((some x4.1).bind fun o => some (Sum.inr o)))
def laws_toByteS.f (a0 : (List Int)) : Option ((List Int)) :=
 (if 0 ≤ (a0.length : Int) ∧ (a0.length : Int) ≤ (Lim : Int) then (iter (laws_toByteS.b0 a0) ((List.replicate ((a0.length : Int)).toNat (0 : Int)), (0 : Int))) else none)
def laws_toByteS.Q (w : World) (F : Nat → Prop) (r : (List Int)) (v : Value) (w' : World) : Prop :=
 FO Ye w w' [v] r ∧ Ky [] w w'
theorem laws_toByteS.calls (a0 : (List Int)) (w : World) (F : Nat → Prop) (w0_0 : Value) (h0_0 : Ye.rd w [w0_0] a0 F) (r : (List Int)) (m : laws_toByteS.f a0 = some r) :
  Calls prog 88 #[w0_0] w (RT (laws_toByteS.Q w F) r) := by
 obtain ⟨s0, rfl, kp0, z⟩ := Xg w F
 have A0_0 := z.rd h0_0
 refine Xd (args := [w0_0]) func88 ntmps88 rfl rfl m ?_
 unfold laws_toByteS.f
 refine sr (Xb rfl (dn (sr (Xl w0_0 rfl (ln' A0_0 u45 rfl (mk (x0 := (0 : Int)) (K := (Kd.int .u8)) 40 sl45 o5 (fun _ => ⟨rfl, rfl⟩) rfl rfl rfl rfl rfl rfl rfl (fun v2 s2 p2 A2 => ?_)))))))
 refine Xp v2 rfl (dn (sq (sr (Xb rfl (dn (bl ?_))))))
 refine lpI (fun (x4 : (List Int) × Int) e w => ∃ (s : St) (e0 : Env), w = s.w ∧ e = upd (upd (upd e0 0 w0_0) 3 v2) 4 (iI x4.2) ∧ Kp s0 s ∧ OwF Ye s [v2] x4.1 40) ⟨s2, _, rfl, (ue (ue (ue rfl rfl) rfl) rfl), (kp0.st p2 rfl), A2⟩ (fun g4 ih4 => ?_)
 rintro x4 _ _ ⟨s6, _, rfl, rfl, Kx4, Ax4_0⟩
 unfold laws_toByteS.b0
 refine sq (sr (Xb rfl (Xl w0_0 rfl ?_)))
 have A8 := A0_0.kp Kx4
 refine ln' A8 u45 rfl (Xb rfl (dn (cd rfl (fun h9 => ?_) (fun h9 => ?_))))
 ·
  refine sk (sq (bl (rg (Xl v2 rfl (Xb rfl (Xl w0_0 rfl (Xb rfl (ix' A8 u45 z5 rfl (fun ad10 es10 h0_10 h1_10 he10 ce10 ia10 => ?_)))))))))
  obtain rfl := he10
  refine lc0' ce10 u5 rfl (ix' Ax4_0.rd u45 z5 rfl (fun ad12 es12 h0_12 h1_12 he12 ce12 ia12 => ?_))
  obtain rfl := he12
  refine so (x' := (at_ a0 x4.2)) Ax4_0 ia12 h0_12 h1_12 cs_flat z5 rfl rfl rfl rfl rfl rfl (fun s14 p14 A14 => ?_)
  refine dn (ib (rg (Xb rfl (Xb rfl (Xb rfl (dn ?_))))))
  exact lb ih4 ⟨s14, _, rfl, (ue (ue (ue rfl rfl) rfl) rfl), (Kx4.st p14 rfl), A14⟩
 exact xt rfl (sgb (sr (Xl v2 rfl (Xp v2 rfl (dn (re rfl func88 rfl (Xo rfl Xe) rfl ⟨_, rfl, Ax4_0.fo Kx4 rfl z.l, z.ky Kx4⟩))))))
def laws_toByteSS.b0 (a0 : (List (List Int))) (x4 : (List (List Int)) × Int) : Option (((List (List Int)) × Int) ⊕ (List (List Int))) :=
 (if (decide (x4.2 < (a0.length : Int))) = true then (if 0 ≤ x4.2 ∧ x4.2 < (a0.length : Int) then ((laws_toByteS.f (at_ a0 x4.2)).bind fun r13 => (if 0 ≤ x4.2 ∧ x4.2 < (x4.1.length : Int) then (some (Sum.inl ((x4.1.set (x4.2).toNat r13), (IntKind.wrap .i64 (x4.2 + (1 : Int)))))) else none)) else none) else ((some x4.1).bind fun o => some (Sum.inr o)))
def laws_toByteSS.f (a0 : (List (List Int))) : Option ((List (List Int))) :=
 (if 0 ≤ (a0.length : Int) ∧ (a0.length : Int) ≤ (Lim : Int) then (iter (laws_toByteSS.b0 a0) ((List.replicate ((a0.length : Int)).toNat ([] : (List Int))), (0 : Int))) else none)
def laws_toByteSS.Q (w : World) (F : Nat → Prop) (r : (List (List Int))) (v : Value) (w' : World) : Prop :=
 FO (Kd.sl 45 Ye) w w' [v] r ∧ Ky [] w w'
theorem laws_toByteSS.calls (a0 : (List (List Int))) (w : World) (F : Nat → Prop) (w0_0 : Value) (h0_0 : (Kd.sl 45 Ye).rd w [w0_0] a0 F) (r : (List (List Int))) (m : laws_toByteSS.f a0 = some r) :
  Calls prog 61 #[w0_0] w (RT (laws_toByteSS.Q w F) r) := by
 obtain ⟨s0, rfl, kp0, z⟩ := Xg w F
 have A0_0 := z.rd h0_0
 refine Xd (args := [w0_0]) func61 ntmps61 rfl rfl m ?_
 unfold laws_toByteSS.f
 refine sr (Xb rfl (dn (sr (Xl w0_0 rfl (ln' A0_0 u66 rfl (mk (x0 := ([] : (List Int))) (K := Ye) 40 sl66 o45 (fun _ => ⟨_, rfl, [], [], [], rfl, ⟨by simp, .inl ⟨rfl, rfl, rfl⟩⟩, ⟨rfl, rfl⟩⟩) rfl rfl rfl rfl rfl rfl rfl (fun v2 s2 p2 A2 => ?_)))))))
 refine Xp v2 rfl (dn (sq (sr (Xb rfl (dn (bl ?_))))))
 refine lpI (fun (x4 : (List (List Int)) × Int) e w => ∃ (s : St) (e0 : Env), w = s.w ∧ e = upd (upd (upd e0 0 w0_0) 3 v2) 4 (iI x4.2) ∧ Kp s0 s ∧ OwF (Kd.sl 45 Ye) s [v2] x4.1 40) ⟨s2, _, rfl, (ue (ue (ue rfl rfl) rfl) rfl), (kp0.st p2 rfl), A2⟩ (fun g4 ih4 => ?_)
 rintro x4 _ _ ⟨s6, _, rfl, rfl, Kx4, Ax4_0⟩
 unfold laws_toByteSS.b0
 refine sq (sr (Xb rfl (Xl w0_0 rfl ?_)))
 have A8 := A0_0.kp Kx4
 refine ln' A8 u66 rfl (Xb rfl (dn (cd rfl (fun h9 => ?_) (fun h9 => ?_))))
 ·
  refine sk (sq (bl (rg (Xl v2 rfl (Xb rfl (Xl w0_0 rfl (Xb rfl (ix' A8 u66 z45 rfl (fun ad10 es10 h0_10 h1_10 he10 ce10 ia10 => ?_)))))))))
  obtain ⟨v10, rfl, he10'⟩ := he10
  have A10 : RdF Ye s6 [v10] (at_ a0 x4.2) [0] := ⟨v10, rfl, he10'⟩
  refine lc0' ce10 u45 rfl (clO 41 rfl func88 rfl (laws_toByteS.calls (at_ a0 x4.2) s6.w (mm [0] s6) v10 A10) (fun r13 v13_0 s14 p14 A13_0 => ?_))
  have A16 := Ax4_0.st p14 rfl
  refine ix' A16.rd u66 z45 rfl (fun ad17 es17 h0_17 h1_17 he17 ce17 ia17 => ?_)
  obtain ⟨v17, rfl, he17'⟩ := he17
  have A17 : RdF Ye s14 [v17] (at_ x4.1 x4.2) [40] := ⟨v17, rfl, he17'⟩
  refine sog (x' := r13) lg_id A16 ia17 h0_17 h1_17 A13_0 rfl rfl z45 rfl rfl rfl rfl rfl (oc A13_0.rd.one) (fun s20 p20 A20 => ?_)
  refine dn (ib (rg (Xb rfl (Xb rfl (Xb rfl (dn ?_))))))
  exact lb ih4 ⟨s20, _, rfl, (ue (ue (ue rfl rfl) rfl) rfl), (Kx4.st (Xs p14 p20) rfl), A20⟩
 exact xt rfl (sgb (sr (Xl v2 rfl (Xp v2 rfl (dn (re rfl func61 rfl (Xo rfl Xe) rfl ⟨_, rfl, Ax4_0.fo Kx4 rfl z.l, z.ky Kx4⟩))))))
def laws_toPage.f (a0 : Page) : Option (Page) :=
 ((laws_toByteSS.f a0.Slots).bind fun r14 => (some (Page.mk a0.Lsn r14)))
def laws_toPage.Q (w : World) (F : Nat → Prop) (r : Page) (v : Value) (w' : World) : Prop :=
 ∃ (v0 : Value), v = (.agg #[(iI r.Lsn), v0]) ∧ FO kd70 w w' [(iI r.Lsn), v0] r ∧ Ky [] w w'
theorem laws_toPage.calls (a0 : Page) (w : World) (F : Nat → Prop) (w0_0 : Value) (h0_0 : (Kd.sl 45 Ye).rd w [w0_0] a0.Slots F) (r : Page) (m : laws_toPage.f a0 = some r) :
  Calls prog 37 #[(.agg #[(iI a0.Lsn), w0_0])] w (RT (laws_toPage.Q w F) r) := by
 obtain ⟨s0, rfl, kp0, z⟩ := Xg w F
 refine Xd (args := [(.agg #[(iI a0.Lsn), w0_0])]) func37 ntmps37 rfl rfl m ?_
 unfold laws_toPage.f
 refine sr (bx' (cs := [(iI a0.Lsn), w0_0]) 40 rfl rfl (fun b2 s2 p2 B2 => ?_))
 refine al' (cs := [(iI 0), (.slice none 0 0)]) 41 rfl o70 rfl (fun b4 s4 p4 B4 => ?_)
 refine dn (sr (al' (cs := [(iI 0), (.slice none 0 0)]) 42 rfl o70 rfl (fun b6 s6 p6 B6 => ?_)))
 refine dn (sr (Xr fa68_0 rfl ?_))
 have A8 := B2.st (Xs p4 p6) rfl
 refine ld' A8 u3 rfl (Xr fa70_0 rfl (sv B6 z3 rfl rfl rfl rfl rfl rfl rfl rfl (fun s9 p9 B9 => ?_)))
 refine dn (sr (Xr fa68_1 rfl ?_))
 refine ld' (A8.st p9 rfl) u66 rfl ?_
 have K12 := kp0.st (tr4 p2 p4 p6 p9) rfl
 refine clO 43 rfl func61 rfl (laws_toByteSS.calls a0.Slots s9.w (mm [0] s9) w0_0 ((z.rd h0_0).kp K12)) (fun r14 v14_0 s15 p15 A14_0 => ?_)
 refine Xr fa70_1 rfl (sv (B9.st p15 rfl) z66 rfl rfl rfl rfl rfl rfl A14_0.rd.one rfl (fun s18 p18 B18 => ?_))
 refine dn (sr (Yc (es := [(iI a0.Lsn), v14_0]) B18 u70 z70 rfl ?_))
 have A21 := A14_0.st p18 rfl
 refine sva' (vs := [(iI a0.Lsn), v14_0]) (B4.st (tr4 p6 p9 p15 p18) rfl) z70 rfl (Xc rfl (Xc A21.rd.one Xt)) rfl (fun s22 p22 B22 => ?_)
 refine dn ?_
 have A24 : OwF kd70 s22 [(iI a0.Lsn), v14_0] (Page.mk a0.Lsn r14) 43 := (Yd (fun x : Page => (x.Lsn, x.Slots)) (Page.mk a0.Lsn r14) (ow_l (Xi .i64 a0.Lsn) (A21.st p22 rfl)))
 have K27 := K12.st (tr3 p15 p18 p22) rfl
 exact re rfl func37 rfl (r_b B22 u70 rfl z70 rfl Xe) rfl ⟨_, rfl, v14_0, rfl, A24.fo K27 rfl z.l, z.ky K27⟩
def laws_toPageS.b0 (a0 : (List Page)) (x4 : (List Page) × Int) : Option (((List Page) × Int) ⊕ (List Page)) :=
 (if (decide (x4.2 < (a0.length : Int))) = true then (if 0 ≤ x4.2 ∧ x4.2 < (a0.length : Int) then ((laws_toPage.f (at_ a0 x4.2)).bind fun r13 => (if 0 ≤ x4.2 ∧ x4.2 < (x4.1.length : Int) then (some (Sum.inl ((x4.1.set (x4.2).toNat r13), (IntKind.wrap .i64 (x4.2 + (1 : Int)))))) else none)) else none) else ((some x4.1).bind fun o => some (Sum.inr o)))
def laws_toPageS.f (a0 : (List Page)) : Option ((List Page)) :=
 (if 0 ≤ (a0.length : Int) ∧ (a0.length : Int) ≤ (Lim : Int) then (iter (laws_toPageS.b0 a0) ((List.replicate ((a0.length : Int)).toNat (Page.mk (0 : Int) ([] : (List (List Int))))), (0 : Int))) else none)
def laws_toPageS.Q (w : World) (F : Nat → Prop) (r : (List Page)) (v : Value) (w' : World) : Prop :=
 FO Yg w w' [v] r ∧ Ky [] w w'
theorem laws_toPageS.calls (a0 : (List Page)) (w : World) (F : Nat → Prop) (w0_0 : Value) (h0_0 : (Kd.sl 68 kd68).rd w [w0_0] a0 F) (r : (List Page)) (m : laws_toPageS.f a0 = some r) :
  Calls prog 20 #[w0_0] w (RT (laws_toPageS.Q w F) r) := by
 obtain ⟨s0, rfl, kp0, z⟩ := Xg w F
 have A0_0 := z.rd h0_0
 refine Xd (args := [w0_0]) func20 ntmps20 rfl rfl m ?_
 unfold laws_toPageS.f
 refine sr (Xb rfl (dn (sr (Xl w0_0 rfl (ln' A0_0 u22 rfl (mk (x0 := (Page.mk (0 : Int) ([] : (List (List Int))))) (K := kd70) 40 sl29 o70 (fun _ => ⟨_, _, [], [], rfl, rfl, ⟨rfl, rfl⟩, ⟨_, rfl, [], [], [], rfl, ⟨by simp, .inl ⟨rfl, rfl, rfl⟩⟩, ⟨rfl, rfl⟩⟩⟩) rfl rfl rfl rfl rfl rfl rfl (fun v2 s2 p2 A2 => ?_)))))))
 refine Xp v2 rfl (dn (sq (sr (Xb rfl (dn (bl ?_))))))
 refine lpI (fun (x4 : (List Page) × Int) e w => ∃ (s : St) (e0 : Env), w = s.w ∧ e = upd (upd (upd e0 0 w0_0) 3 v2) 4 (iI x4.2) ∧ Kp s0 s ∧ OwF Yg s [v2] x4.1 40) ⟨s2, _, rfl, (ue (ue (ue rfl rfl) rfl) rfl), (kp0.st p2 rfl), A2⟩ (fun g4 ih4 => ?_)
 rintro x4 _ _ ⟨s6, _, rfl, rfl, Kx4, Ax4_0⟩
 unfold laws_toPageS.b0
 refine sq (sr (Xb rfl (Xl w0_0 rfl ?_)))
 have A8 := A0_0.kp Kx4
 refine ln' A8 u22 rfl (Xb rfl (dn (cd rfl (fun h9 => ?_) (fun h9 => ?_))))
 ·
  refine sk (sq (bl (rg (Xl v2 rfl (Xb rfl (Xl w0_0 rfl (Xb rfl (ix' A8 u22 z68 rfl (fun ad10 es10 h0_10 h1_10 he10 ce10 ia10 => ?_)))))))))
  obtain ⟨v10_0, rfl, A10_0⟩ := op68 he10
  refine lca ce10 u68 z68 rfl rfl rfl rfl rfl rfl rfl (cl' rfl func37 rfl (laws_toPage.calls (at_ a0 x4.2) s6.w (mm [0] s6) v10_0 A10_0) ?_)
  rintro r13 _ w13 m13 ⟨v13_0, rfl, f13_0, ky13⟩
  obtain ⟨s14, rfl, p14, n14⟩ := nwx s6 w13 41 ky13
  have A16 := Ax4_0.st p14 rfl
  refine ix' A16.rd u29 z70 rfl (fun ad17 es17 h0_17 h1_17 he17 ce17 ia17 => ?_)
  obtain ⟨v17_0, rfl, A17_0⟩ := op70 he17
  have A20 : OwF kd70 s14 [(iI r13.Lsn), v13_0] r13 41 := (Yd (fun x : Page => (x.Lsn, x.Slots)) r13 (ow_l (Xi .i64 r13.Lsn) (ap70 (f13_0.c n14))))
  refine som (x' := r13) A16 ia17 h0_17 h1_17 A20 rfl rfl z70 rfl rfl rfl rfl rfl rfl (fun s22 p22 A22 => ?_)
  refine dn (ib (rg (Xb rfl (Xb rfl (Xb rfl (dn ?_))))))
  exact lb ih4 ⟨s22, _, rfl, (ue (ue (ue rfl rfl) rfl) rfl), (Kx4.st (Xs p14 p22) rfl), A22⟩
 exact xt rfl (sgb (sr (Xl v2 rfl (Xp v2 rfl (dn (re rfl func20 rfl (Xo rfl Xe) rfl ⟨_, rfl, Ax4_0.fo Kx4 rfl z.l, z.ky Kx4⟩))))))
def laws_toHeap.f (a0 : Heap) : Option (Heap) :=
 ((laws_toPageS.f a0.Pages).bind fun r11 => (some (Heap.mk r11)))
def laws_toHeap.Q (w : World) (F : Nat → Prop) (r : Heap) (v : Value) (w' : World) : Prop :=
 ∃ (v0 : Value), v = (.agg #[v0]) ∧ FO kd31 w w' [v0] r ∧ Ky [] w w'
theorem laws_toHeap.calls (a0 : Heap) (w : World) (F : Nat → Prop) (w0_0 : Value) (h0_0 : (Kd.sl 68 kd68).rd w [w0_0] a0.Pages F) (r : Heap) (m : laws_toHeap.f a0 = some r) :
  Calls prog 6 #[(.agg #[w0_0])] w (RT (laws_toHeap.Q w F) r) := by
 obtain ⟨s0, rfl, kp0, z⟩ := Xg w F
 refine Xd (args := [(.agg #[w0_0])]) func6 ntmps6 rfl rfl m ?_
 unfold laws_toHeap.f
 refine sr (bx' (cs := [w0_0]) 40 rfl rfl (fun b2 s2 p2 B2 => ?_))
 refine al' (cs := [(.slice none 0 0)]) 41 rfl o31 rfl (fun b4 s4 p4 B4 => ?_)
 refine dn (sr (al' (cs := [(.slice none 0 0)]) 42 rfl o31 rfl (fun b6 s6 p6 B6 => ?_)))
 refine dn (sr (Xr fa24_0 rfl ?_))
 refine ld' (B2.st (Xs p4 p6) rfl) u22 rfl ?_
 have K9 := kp0.st (tr3 p2 p4 p6) rfl
 refine clO 43 rfl func20 rfl (laws_toPageS.calls a0.Pages s6.w (mm [0] s6) w0_0 ((z.rd h0_0).kp K9)) (fun r11 v11_0 s12 p12 A11_0 => ?_)
 refine Xr fa31_0 rfl (sv (B6.st p12 rfl) z29 rfl rfl rfl rfl rfl rfl A11_0.rd.one rfl (fun s15 p15 B15 => ?_))
 refine dn (sr (Yc (es := [v11_0]) B15 u31 z31 rfl ?_))
 have A18 := A11_0.st p15 rfl
 refine sva' (vs := [v11_0]) (B4.st (tr3 p6 p12 p15) rfl) z31 rfl (Xc A18.rd.one Xt) rfl (fun s19 p19 B19 => ?_)
 refine dn ?_
 have A21 : OwF kd31 s19 [v11_0] (Heap.mk r11) 43 := (Yd (fun x : Heap => (x.Pages)) (Heap.mk r11) (A18.st p19 rfl))
 have K24 := K9.st (tr3 p12 p15 p19) rfl
 exact re rfl func6 rfl (r_b B19 u31 rfl z31 rfl Xe) rfl ⟨_, rfl, v11_0, rfl, A21.fo K24 rfl z.l, z.ky K24⟩
def laws_toIntS.b0 (a0 : (List Int)) (x4 : (List Int) × Int) : Option (((List Int) × Int) ⊕ (List Int)) :=
 (if (decide (x4.2 < (a0.length : Int))) = true then (if 0 ≤ x4.2 ∧ x4.2 < (a0.length : Int) then (if 0 ≤ x4.2 ∧ x4.2 < (x4.1.length : Int) then (some (Sum.inl ((x4.1.set (x4.2).toNat (at_ a0 x4.2)), (IntKind.wrap .i64 (x4.2 + (1 : Int)))))) else none) else none) else ((some x4.1).bind fun o => some (Sum.inr o)))
def laws_toIntS.f (a0 : (List Int)) : Option ((List Int)) :=
 (if 0 ≤ (a0.length : Int) ∧ (a0.length : Int) ≤ (Lim : Int) then (iter (laws_toIntS.b0 a0) ((List.replicate ((a0.length : Int)).toNat (0 : Int)), (0 : Int))) else none)
def laws_toIntS.Q (w : World) (F : Nat → Prop) (r : (List Int)) (v : Value) (w' : World) : Prop :=
 FO Yj w w' [v] r ∧ Ky [] w w'
theorem laws_toIntS.calls (a0 : (List Int)) (w : World) (F : Nat → Prop) (w0_0 : Value) (h0_0 : Yj.rd w [w0_0] a0 F) (r : (List Int)) (m : laws_toIntS.f a0 = some r) :
  Calls prog 7 #[w0_0] w (RT (laws_toIntS.Q w F) r) := by
 obtain ⟨s0, rfl, kp0, z⟩ := Xg w F
 have A0_0 := z.rd h0_0
 refine Xd (args := [w0_0]) func7 ntmps7 rfl rfl m ?_
 unfold laws_toIntS.f
 refine sr (Xb rfl (dn (sr (Xl w0_0 rfl (ln' A0_0 u25 rfl (mk (x0 := (0 : Int)) (K := (Kd.int .i64)) 40 sl25 o3 (fun _ => ⟨rfl, rfl⟩) rfl rfl rfl rfl rfl rfl rfl (fun v2 s2 p2 A2 => ?_)))))))
 refine Xp v2 rfl (dn (sq (sr (Xb rfl (dn (bl ?_))))))
 refine lpI (fun (x4 : (List Int) × Int) e w => ∃ (s : St) (e0 : Env), w = s.w ∧ e = upd (upd (upd e0 0 w0_0) 3 v2) 4 (iI x4.2) ∧ Kp s0 s ∧ OwF Yj s [v2] x4.1 40) ⟨s2, _, rfl, (ue (ue (ue rfl rfl) rfl) rfl), (kp0.st p2 rfl), A2⟩ (fun g4 ih4 => ?_)
 rintro x4 _ _ ⟨s6, _, rfl, rfl, Kx4, Ax4_0⟩
 unfold laws_toIntS.b0
 refine sq (sr (Xb rfl (Xl w0_0 rfl ?_)))
 have A8 := A0_0.kp Kx4
 refine ln' A8 u25 rfl (Xb rfl (dn (cd rfl (fun h9 => ?_) (fun h9 => ?_))))
 ·
  refine sk (sq (bl (rg (Xl v2 rfl (Xb rfl (Xl w0_0 rfl (Xb rfl (ix' A8 u25 z3 rfl (fun ad10 es10 h0_10 h1_10 he10 ce10 ia10 => ?_)))))))))
  obtain rfl := he10
  refine lc0' ce10 u3 rfl (ix' Ax4_0.rd u25 z3 rfl (fun ad12 es12 h0_12 h1_12 he12 ce12 ia12 => ?_))
  obtain rfl := he12
  refine so (x' := (at_ a0 x4.2)) Ax4_0 ia12 h0_12 h1_12 cs_flat z3 rfl rfl rfl rfl rfl rfl (fun s14 p14 A14 => ?_)
  refine dn (ib (rg (Xb rfl (Xb rfl (Xb rfl (dn ?_))))))
  exact lb ih4 ⟨s14, _, rfl, (ue (ue (ue rfl rfl) rfl) rfl), (Kx4.st p14 rfl), A14⟩
 exact xt rfl (sgb (sr (Xl v2 rfl (Xp v2 rfl (dn (re rfl func7 rfl (Xo rfl Xe) rfl ⟨_, rfl, Ax4_0.fo Kx4 rfl z.l, z.ky Kx4⟩))))))
def spec_l5in.f (a0 : Int) (a1 : Int) (a2 : Int) : Option (Bool) :=
 (some ((decide (a0 ≥ a1)) && (decide (a0 ≤ a2))))
def spec_l5in.Q (w : World) (F : Nat → Prop) (r : Bool) (v : Value) (w' : World) : Prop :=
 v = (.bool r) ∧ Ky [] w w'
theorem spec_l5in.calls (a0 : Int) (a1 : Int) (a2 : Int) (w : World) (F : Nat → Prop)   (r : Bool) (m : spec_l5in.f a0 a1 a2 = some r) :
  Calls prog 35 #[(iI a0), (iI a1), (iI a2)] w (RT (spec_l5in.Q w F) r) := by
 obtain ⟨s0, rfl, kp0, z⟩ := Xg w F
 refine Xd (args := [(iI a0), (iI a1), (iI a2)]) func35 ntmps35 rfl rfl m ?_
 unfold spec_l5in.f
 refine sr (Xb rfl (dn (sr (Xb rfl (Xb rfl (Xb rfl (Xb rfl (jy [10, 11, 12, 13, 14] [8] 14 (.bool ((decide (a0 ≥ a1)) && (decide (a0 ≤ a2)))) rfl (fun Kg1 => ?_) (fun j1 => ?_)))))))))
 ·
  rcases bft (decide (a0 ≥ a1)) with hb1 | hb1
  ·
   exact Xu hb1 (Xb rfl (Xb rfl (Xb rfl (Xb rfl (Kg1 _ (Ag.put ((Ag.put ((Ag.put ((Ag.put (Ag.base rfl) rfl)) rfl)) rfl)) rfl) (by rw [hb1]; rfl))))))
  exact Xu hb1 (Xh rfl (Xh rfl (Xh rfl (Xb rfl (Kg1 _ (Ag.put ((Ag.put ((Ag.put ((Ag.put (Ag.base rfl) rfl)) rfl)) rfl)) rfl) (by rw [hb1]; rfl))))))
 exact Xb rfl (dn (re rfl func35 rfl (Xo rfl Xe) rfl ⟨_, rfl, rfl, z.ky kp0⟩))
def spec_PageUsed.b0 (a0 : Page) (x15 : Int × Int) : Option ((Int × Int) ⊕ Int) :=
 (if (decide (x15.2 < (a0.Slots.length : Int))) = true then (if 0 ≤ x15.2 ∧ x15.2 < (a0.Slots.length : Int) then (if (decide (((at_ a0.Slots x15.2).length : Int) > (92 : Int))) = true then (some (Sum.inr (-1 : Int))) else (if 0 ≤ x15.2 ∧ x15.2 < (a0.Slots.length : Int) then (some (Sum.inl ((IntKind.wrap .i64 (x15.1 + ((at_ a0.Slots x15.2).length : Int))), (IntKind.wrap .i64 (x15.2 + (1 : Int)))))) else none)) else none) else (((if (decide ((a0.Slots.length : Int) > (0 : Int))) = true then (if 0 ≤ (IntKind.wrap .i64 ((a0.Slots.length : Int) - (1 : Int))) ∧ (IntKind.wrap .i64 ((a0.Slots.length : Int) - (1 : Int))) < (a0.Slots.length : Int) then (some (((at_ a0.Slots (IntKind.wrap .i64 ((a0.Slots.length : Int) - (1 : Int)))).length : Int) == (0 : Int))) else none) else (some false)).bind fun y27 => (if y27 = true then (some (-1 : Int)) else (if (decide (x15.1 > (240 : Int))) = true then (some (-1 : Int)) else (some x15.1)))).bind fun o => some (Sum.inr o)))
def spec_PageUsed.f (a0 : Page) : Option (Int) :=
 ((spec_l5in.f a0.Lsn (0 : Int) (1000000 : Int)).bind fun r4 => (if ((!r4) || (decide ((a0.Slots.length : Int) > (16 : Int)))) = true then (some (-1 : Int)) else (iter (spec_PageUsed.b0 a0) ((IntKind.wrap .i64 ((1 : Int) + (a0.Slots.length : Int))), (0 : Int)))))
def spec_PageUsed.Q (w : World) (F : Nat → Prop) (r : Int) (v : Value) (w' : World) : Prop :=
 v = (iI r) ∧ Ky [] w w'
theorem spec_PageUsed.calls (a0 : Page) (w : World) (F : Nat → Prop) (w0_0 : Value) (h0_0 : (Kd.sl 45 Ye).rd w [w0_0] a0.Slots F) (r : Int) (m : spec_PageUsed.f a0 = some r) :
  Calls prog 53 #[(.agg #[(iI a0.Lsn), w0_0])] w (RT (spec_PageUsed.Q w F) r) := by
 obtain ⟨s0, rfl, kp0, z⟩ := Xg w F
 have A0_0 := z.rd h0_0
 refine Xd (args := [(.agg #[(iI a0.Lsn), w0_0])]) func53 ntmps53 rfl rfl m ?_
 unfold spec_PageUsed.f
 refine sr (bx' (cs := [(iI a0.Lsn), w0_0]) 40 rfl rfl (fun b2 s2 p2 B2 => ?_))
 refine Xb rfl (dn (sq (sr (Xr fa70_0 rfl (ld' B2 u3 rfl (clV 41 rfl func35 rfl (spec_l5in.calls a0.Lsn (0 : Int) (1000000 : Int) s2.w (mm [] s2)) (fun r4 s5 p5 n5 => ?_)))))))
 refine Xb rfl (Xb rfl (jy [9, 10, 11, 12, 13, 14] [] 14 (.bool ((!r4) || (decide ((a0.Slots.length : Int) > (16 : Int))))) rfl (fun Kg6 => ?_) (fun j6 => ?_)))
 ·
  rcases bft (!r4) with hb6 | hb6
  ·
   exact Xu hb6 (Xh rfl (Xh rfl (Xh rfl (Xh rfl (Xb rfl (Kg6 _ (Ag.put ((Ag.put ((Ag.put ((Ag.put ((Ag.put (Ag.base rfl) rfl)) rfl)) rfl)) rfl)) rfl) (by rw [hb6]; rfl)))))))
  refine Xu hb6 (Xr fa70_1 rfl ?_)
  exact ld' (B2.st p5 rfl) u66 rfl (ln' (A0_0.kp (kp0.st (Xs p2 p5) rfl)) u66 rfl (Xb rfl (Xb rfl (Kg6 _ (Ag.put ((Ag.put ((Ag.put ((Ag.put ((Ag.put (Ag.base rfl) rfl)) rfl)) rfl)) rfl)) rfl) (by rw [hb6]; rfl)))))
 refine dn (cd rfl (fun h10 => ?_) (fun h10 => ?_))
 ·
  refine sr (Xb rfl (dn ?_))
  exact re rfl func53 rfl (Xo rfl Xe) rfl ⟨_, rfl, rfl, z.ky (kp0.st (Xs p2 p5) rfl)⟩
 refine sk (sr (Xr fa70_1 rfl ?_))
 have A12 := B2.st p5 rfl
 refine ld' A12 u66 rfl ?_
 have K13 := kp0.st (Xs p2 p5) rfl
 refine ln' (A0_0.kp K13) u66 rfl (Xb rfl (Xb rfl (dn (sq (sr (Xb rfl (dn (bl (lpI (fun (x15 : Int × Int) e w => ∃ (s : St) (e0 : Env), w = s.w ∧ e = upd (upd (upd e0 1 (pB b2)) 3 (iI x15.1)) 4 (iI x15.2) ∧ Kp s0 s ∧ BlF s b2 70 [(iI a0.Lsn), w0_0] 40) ⟨s5, _, rfl, (ue (ue (ue rfl rfl) rfl) rfl), K13, A12⟩ (fun g15 ih15 => ?_))))))))))
 rintro x15 _ _ ⟨s16, _, rfl, rfl, Kx15, Bx15_b2⟩
 unfold spec_PageUsed.b0
 refine sq (sr (Xb rfl (Xr fa70_1 rfl (ld' Bx15_b2 u66 rfl ?_))))
 have A18 := A0_0.kp Kx15
 refine ln' A18 u66 rfl (Xb rfl (dn (cd rfl (fun h19 => ?_) (fun h19 => ?_))))
 ·
  refine sk (sq (bl (sq (sr (Xr fa70_1 rfl (ld' Bx15_b2 u66 rfl (Xb rfl (ix' A18 u66 z45 rfl (fun ad20 es20 h0_20 h1_20 he20 ce20 ia20 => ?_)))))))))
  obtain ⟨v20, rfl, he20'⟩ := he20
  have A20 : RdF Ye s16 [v20] (at_ a0.Slots x15.2) [0] := ⟨v20, rfl, he20'⟩
  refine lc0' ce20 u45 rfl (ln' A20 u45 rfl (Xb rfl (dn (cd rfl (fun h23 => ?_) (fun h23 => ?_)))))
  ·
   exact sr (Xb rfl (dn (sgi (re rfl func53 rfl (Xo rfl Xe) rfl ⟨_, rfl, rfl, z.ky Kx15⟩))))
  refine sk (rg (Xb rfl (Xr fa70_1 rfl (ld' Bx15_b2 u66 rfl (Xb rfl (ix' A18 u66 z45 rfl (fun ad24 es24 h0_24 h1_24 he24 ce24 ia24 => ?_)))))))
  obtain ⟨v24, rfl, he24'⟩ := he24
  have A24 : RdF Ye s16 [v24] (at_ a0.Slots x15.2) [0] := ⟨v24, rfl, he24'⟩
  exact lc0' ce24 u45 rfl (ln' A24 u45 rfl (Xb rfl (Xb rfl (dn (ib (rg (Xb rfl (Xb rfl (Xb rfl (dn (lb ih15 ⟨s16, _, rfl, (ue (ue (ue rfl rfl) rfl) rfl), Kx15, Bx15_b2⟩)))))))))))
 refine xt rfl (sgb (sq (sr (Xr fa70_1 rfl (ld' Bx15_b2 u66 rfl (ln' A18 u66 rfl (Xb rfl (Xb rfl (ji [] (fun (y27 : Bool) e w => ∃ (s : St) (e0 : Env), w = s.w ∧ e = upd (upd e0 3 (iI x15.1)) 56 (.bool y27) ∧ Kp s0 s) (fun Gj27 Kj27 => ?_) ?_)))))))))
 ·
  rcases bft (decide ((a0.Slots.length : Int) > (0 : Int))) with hb27 | hb27
  ·
   refine Xu hb27 ?_
   rw [if_pos hb27]
   refine Xr fa70_1 rfl (ld' Bx15_b2 u66 rfl (Xr fa70_1 rfl (ld' Bx15_b2 u66 rfl (ln' A18 u66 rfl (Xb rfl (ix' A18 u66 z45 rfl (fun ad28 es28 h0_28 h1_28 he28 ce28 ia28 => ?_)))))))
   obtain ⟨v28, rfl, he28'⟩ := he28
   have A28 : RdF Ye s16 [v28] (at_ a0.Slots (IntKind.wrap .i64 ((a0.Slots.length : Int) - (1 : Int)))) [0] := ⟨v28, rfl, he28'⟩
   exact lc0' ce28 u45 rfl (ln' A28 u45 rfl (Xb rfl (Xb rfl (Kj27 _ _ _ ⟨s16, _, rfl, (ue (ue rfl rfl) rfl), Kx15⟩))))
  refine Xu hb27 ?_
  rw [if_neg (by rw [hb27]; decide)]
  exact Xh rfl (Xh rfl (Xh rfl (Xh rfl (Xh rfl (Xh rfl (Xh rfl (Xh rfl (Xh rfl (Xh rfl (Xb rfl (Kj27 _ _ _ ⟨s16, _, rfl, (ue (ue rfl rfl) rfl), Kx15⟩)))))))))))
 rintro y27 _ _ ⟨s31, _, rfl, rfl, Ky27⟩
 refine dn (cd rfl (fun h32 => ?_) (fun h32 => ?_))
 ·
  exact sr (Xb rfl (dn (re rfl func53 rfl (Xo rfl Xe) rfl ⟨_, rfl, rfl, z.ky Ky27⟩)))
 refine sk (sq (sr (Xb rfl (Xb rfl (dn (cd rfl (fun h33 => ?_) (fun h33 => ?_)))))))
 ·
  exact sr (Xb rfl (dn (re rfl func53 rfl (Xo rfl Xe) rfl ⟨_, rfl, rfl, z.ky Ky27⟩)))
 exact sk (sr (Xb rfl (Xb rfl (dn (re rfl func53 rfl (Xo rfl Xe) rfl ⟨_, rfl, rfl, z.ky Ky27⟩)))))
def spec_GetNum.b0 (a0 : (List Int)) (a1 : Int) (x7 : Int × Int) : Option ((Int × Int) ⊕ (Int × Bool)) :=
 (if (decide (x7.2 ≥ (0 : Int))) = true then (if 0 ≤ (IntKind.wrap .i64 (a1 + x7.2)) ∧ (IntKind.wrap .i64 (a1 + x7.2)) < (a0.length : Int) then (if ((x7.2 == (7 : Int)) && (decide ((IntKind.wrap .i64 (at_ a0 (IntKind.wrap .i64 (a1 + x7.2)))) > (127 : Int)))) = true then (some (Sum.inr ((0 : Int), false))) else (some (Sum.inl ((IntKind.wrap .i64 ((IntKind.wrap .i64 (x7.1 * (256 : Int))) + (IntKind.wrap .i64 (at_ a0 (IntKind.wrap .i64 (a1 + x7.2)))))), (IntKind.wrap .i64 (x7.2 - (1 : Int))))))) else none) else ((some (x7.1, true)).bind fun o => some (Sum.inr o)))
def spec_GetNum.f (a0 : (List Int)) (a1 : Int) (a2 : Int) : Option (Int × Bool) :=
 (if (((((decide (a2 < (1 : Int))) || (decide (a2 > (8 : Int)))) || (decide (a1 < (0 : Int)))) || (decide (a1 > (a0.length : Int)))) || (decide (a2 > (IntKind.wrap .i64 ((a0.length : Int) - a1))))) = true then (some ((0 : Int), false)) else (iter (spec_GetNum.b0 a0 a1) ((0 : Int), (IntKind.wrap .i64 (a2 - (1 : Int))))))
def spec_GetNum.Q (w : World) (F : Nat → Prop) (r : Int × Bool) (v : Value) (w' : World) : Prop :=
 v = .tuple #[(iI r.1), (.bool r.2)] ∧ Ky [] w w'
theorem spec_GetNum.calls (a0 : (List Int)) (a1 : Int) (a2 : Int) (w : World) (F : Nat → Prop) (w0_0 : Value) (h0_0 : Ye.rd w [w0_0] a0 F) (r : Int × Bool) (m : spec_GetNum.f a0 a1 a2 = some r) :
  Calls prog 54 #[w0_0, (iI a1), (iI a2)] w (RT (spec_GetNum.Q w F) r) := by
 obtain ⟨s0, rfl, kp0, z⟩ := Xg w F
 have A0_0 := z.rd h0_0
 refine Xd (args := [w0_0, (iI a1), (iI a2)]) func54 ntmps54 rfl rfl m ?_
 unfold spec_GetNum.f
 refine sr (Xb rfl (Xb rfl (dn (sq (sr (Xb rfl (Xb rfl (Xb rfl (jy [13, 14, 15, 16] [6, 7, 8, 9, 10, 11, 12, 13, 14, 15, 16, 17, 18, 19, 20, 21, 22, 23] 16 (.bool ((decide (a2 < (1 : Int))) || (decide (a2 > (8 : Int))))) rfl (fun Kg2 => ?_) (fun j2 => ?_))))))))))
 ·
  rcases bft (decide (a2 < (1 : Int))) with hb2 | hb2
  ·
   exact Xu hb2 (Xh rfl (Xh rfl (Xb rfl (Kg2 _ (Ag.put ((Ag.put ((Ag.put (Ag.base rfl) rfl)) rfl)) rfl) (by rw [hb2]; rfl)))))
  exact Xu hb2 (Xb rfl (Xb rfl (Xb rfl (Kg2 _ (Ag.put ((Ag.put ((Ag.put (Ag.base rfl) rfl)) rfl)) rfl) (by rw [hb2]; rfl)))))
 refine Xb rfl (jy [17, 18, 19, 20] [10, 11, 12, 13, 14, 15, 16, 17, 18, 19, 20, 21, 22, 23] 20 (.bool (((decide (a2 < (1 : Int))) || (decide (a2 > (8 : Int)))) || (decide (a1 < (0 : Int))))) rfl (fun Kg3 => ?_) (fun j3 => ?_))
 ·
  rcases bft ((decide (a2 < (1 : Int))) || (decide (a2 > (8 : Int)))) with hb3 | hb3
  ·
   exact Xu hb3 (Xh rfl (Xh rfl (Xb rfl (Kg3 _ (Ag.put ((Ag.put ((Ag.put (Ag.base rfl) rfl)) rfl)) rfl) (by rw [hb3]; rfl)))))
  exact Xu hb3 (Xb rfl (Xb rfl (Xb rfl (Kg3 _ (Ag.put ((Ag.put ((Ag.put (Ag.base rfl) rfl)) rfl)) rfl) (by rw [hb3]; rfl)))))
 refine Xb rfl (jy [21, 22, 23, 24, 25, 26] [16, 17, 18, 19, 20, 21, 22, 23] 26 (.bool ((((decide (a2 < (1 : Int))) || (decide (a2 > (8 : Int)))) || (decide (a1 < (0 : Int)))) || (decide (a1 > (a0.length : Int))))) rfl (fun Kg4 => ?_) (fun j4 => ?_))
 ·
  rcases bft (((decide (a2 < (1 : Int))) || (decide (a2 > (8 : Int)))) || (decide (a1 < (0 : Int)))) with hb4 | hb4
  ·
   exact Xu hb4 (Xh rfl (Xh rfl (Xh rfl (Xh rfl (Xb rfl (Kg4 _ (Ag.put ((Ag.put ((Ag.put ((Ag.put ((Ag.put (Ag.base rfl) rfl)) rfl)) rfl)) rfl)) rfl) (by rw [hb4]; rfl)))))))
  exact Xu hb4 (Xb rfl (Xl w0_0 rfl (ln' A0_0 u45 rfl (Xb rfl (Xb rfl (Kg4 _ (Ag.put ((Ag.put ((Ag.put ((Ag.put ((Ag.put (Ag.base rfl) rfl)) rfl)) rfl)) rfl)) rfl) (by rw [hb4]; rfl)))))))
 refine Xb rfl (jy [27, 28, 29, 30, 31, 32, 33, 34] [] 34 (.bool (((((decide (a2 < (1 : Int))) || (decide (a2 > (8 : Int)))) || (decide (a1 < (0 : Int)))) || (decide (a1 > (a0.length : Int)))) || (decide (a2 > (IntKind.wrap .i64 ((a0.length : Int) - a1)))))) rfl (fun Kg5 => ?_) (fun j5 => ?_))
 ·
  rcases bft ((((decide (a2 < (1 : Int))) || (decide (a2 > (8 : Int)))) || (decide (a1 < (0 : Int)))) || (decide (a1 > (a0.length : Int)))) with hb5 | hb5
  ·
   exact Xu hb5 (Xh rfl (Xh rfl (Xh rfl (Xh rfl (Xh rfl (Xh rfl (Xb rfl (Kg5 _ (Ag.put ((Ag.put ((Ag.put ((Ag.put ((Ag.put ((Ag.put ((Ag.put (Ag.base rfl) rfl)) rfl)) rfl)) rfl)) rfl)) rfl)) rfl) (by rw [hb5]; rfl)))))))))
  exact Xu hb5 (Xb rfl (Xl w0_0 rfl (ln' A0_0 u45 rfl (Xb rfl (Xb rfl (Xb rfl (Xb rfl (Kg5 _ (Ag.put ((Ag.put ((Ag.put ((Ag.put ((Ag.put ((Ag.put ((Ag.put (Ag.base rfl) rfl)) rfl)) rfl)) rfl)) rfl)) rfl)) rfl) (by rw [hb5]; rfl)))))))))
 refine dn (cd rfl (fun h6 => ?_) (fun h6 => ?_))
 ·
  exact sr (Xb rfl (Xb rfl (dn (re rfl func54 rfl (Xo rfl (Xo rfl Xe)) rfl ⟨_, rfl, rfl, z.ky kp0⟩))))
 refine sk (sr (Xb rfl (dn (sq (sr (Xb rfl (Xb rfl (Xb rfl (dn (bl (lpI (fun (x7 : Int × Int) e w => ∃ (s : St) (e0 : Env), w = s.w ∧ e = upd (upd (upd (upd e0 0 w0_0) 1 (iI a1)) 8 (iI x7.1)) 9 (iI x7.2) ∧ Kp s0 s) ⟨s0, _, rfl, (ue (ue (ue (ue rfl rfl) rfl) rfl) rfl), kp0⟩ (fun g7 ih7 => ?_))))))))))))
 rintro x7 _ _ ⟨s8, _, rfl, rfl, Kx7⟩
 unfold spec_GetNum.b0
 refine sq (sr (Xb rfl (Xb rfl (dn (cd rfl (fun h9 => ?_) (fun h9 => ?_))))))
 ·
  refine sk (sq (bl (sr (Xl w0_0 rfl (Xb rfl (Xb rfl (Xb rfl ?_)))))))
  refine ix' (A0_0.kp Kx7) u45 z5 rfl (fun ad11 es11 h0_11 h1_11 he11 ce11 ia11 => ?_)
  obtain rfl := he11
  refine lc0' ce11 u5 rfl (cv' u3 u5 rfl (Xb rfl (dn (sq (sr (Xb rfl (Xb rfl (Xb rfl (jy [50, 51, 52, 53] [] 53 (.bool ((x7.2 == (7 : Int)) && (decide ((IntKind.wrap .i64 (at_ a0 (IntKind.wrap .i64 (a1 + x7.2)))) > (127 : Int))))) rfl (fun Kg13 => ?_) (fun j13 => ?_))))))))))
  ·
   rcases bft (x7.2 == (7 : Int)) with hb13 | hb13
   ·
    exact Xu hb13 (Xb rfl (Xb rfl (Xb rfl (Kg13 _ (Ag.put ((Ag.put ((Ag.put (Ag.base rfl) rfl)) rfl)) rfl) (by rw [hb13]; rfl)))))
   exact Xu hb13 (Xh rfl (Xh rfl (Xb rfl (Kg13 _ (Ag.put ((Ag.put ((Ag.put (Ag.base rfl) rfl)) rfl)) rfl) (by rw [hb13]; rfl)))))
  refine dn (cd rfl (fun h14 => ?_) (fun h14 => ?_))
  ·
   exact sr (Xb rfl (Xb rfl (dn (sgi (re rfl func54 rfl (Xo rfl (Xo rfl Xe)) rfl ⟨_, rfl, rfl, z.ky Kx7⟩)))))
  exact sk (rg (Xb rfl (Xb rfl (Xb rfl (Xb rfl (Xb rfl (dn (ib (rg (Xb rfl (Xb rfl (Xb rfl (dn (lb ih7 ⟨s8, _, rfl, (ue (ue (ue (ue rfl rfl) rfl) rfl) rfl), Kx7⟩))))))))))))))
 exact xt rfl (sgb (sr (Xb rfl (Xb rfl (Xb rfl (dn (re rfl func54 rfl (Xo rfl (Xo rfl Xe)) rfl ⟨_, rfl, rfl, z.ky Kx7⟩)))))))
def spec_l3low.b0 (a0 : (List Int)) (x2 : Int × Int) : Option ((Int × Int) ⊕ Int) :=
 (if (decide (x2.2 < (a0.length : Int))) = true then (if 0 ≤ x2.2 ∧ x2.2 < (a0.length : Int) then (some (Sum.inl ((ior .u64 (ishl .u64 x2.1 (8 : Int)) (IntKind.wrap .u64 (at_ a0 x2.2))), (IntKind.wrap .i64 (x2.2 + (1 : Int)))))) else none) else ((some x2.1).bind fun o => some (Sum.inr o)))
def spec_l3low.f (a0 : (List Int)) : Option (Int) :=
 (iter (spec_l3low.b0 a0) ((0 : Int), (0 : Int)))
def spec_l3low.Q (w : World) (F : Nat → Prop) (r : Int) (v : Value) (w' : World) : Prop :=
 v = (.int .u64 r) ∧ Ky [] w w'
theorem spec_l3low.calls (a0 : (List Int)) (w : World) (F : Nat → Prop) (w0_0 : Value) (h0_0 : Ye.rd w [w0_0] a0 F) (r : Int) (m : spec_l3low.f a0 = some r) :
  Calls prog 79 #[w0_0] w (RT (spec_l3low.Q w F) r) := by
 obtain ⟨s0, rfl, kp0, z⟩ := Xg w F
 refine Xd (args := [w0_0]) func79 ntmps79 rfl rfl m ?_
 unfold spec_l3low.f
 refine sr (Xb rfl (dn (sr (Xb rfl (dn (sq (sr (Xb rfl (dn (bl (lpI (fun (x2 : Int × Int) e w => ∃ (s : St) (e0 : Env), w = s.w ∧ e = upd (upd (upd e0 0 w0_0) 3 (.int .u64 x2.1)) 4 (iI x2.2) ∧ Kp s0 s) ⟨s0, _, rfl, (ue (ue (ue rfl rfl) rfl) rfl), kp0⟩ (fun g2 ih2 => ?_))))))))))))
 rintro x2 _ _ ⟨s3, _, rfl, rfl, Kx2⟩
 unfold spec_l3low.b0
 refine sq (sr (Xb rfl (Xl w0_0 rfl ?_)))
 have A4 := (z.rd h0_0).kp Kx2
 refine ln' A4 u45 rfl (Xb rfl (dn (cd rfl (fun h5 => ?_) (fun h5 => ?_))))
 ·
  refine sk (sq (bl (rg (Xb rfl (shlK rfl rfl rfl rfl rfl rfl rfl rfl (Xl w0_0 rfl (Xb rfl (ix' A4 u45 z5 rfl (fun ad6 es6 h0_6 h1_6 he6 ce6 ia6 => ?_)))))))))
  obtain rfl := he6
  exact lc0' ce6 u5 rfl (cv' u103 u5 rfl (Xb rfl (Xb rfl (dn (ib (rg (Xb rfl (Xb rfl (Xb rfl (dn (lb ih2 ⟨s3, _, rfl, (ue (ue (ue rfl rfl) rfl) rfl), Kx2⟩)))))))))))
 exact xt rfl (sgb (sr (Xb rfl (Xb rfl (dn (re rfl func79 rfl (Xo rfl Xe) rfl ⟨_, rfl, rfl, z.ky Kx2⟩))))))
def spec_FloatOf.b1  (x21 : Nat × Int) : Option ((Nat × Int) ⊕ (Nat ⊕ Nat)) :=
 (if (decide (x21.2 < (0 : Int))) = true then (some (Sum.inl ((far .quo x21.1 (4611686018427387904 : Nat)), (IntKind.wrap .i64 (x21.2 + (1 : Int)))))) else ((some (Sum.inl x21.1)).bind fun o => some (Sum.inr o)))
def spec_FloatOf.b0  (x16 : Nat × Int) : Option ((Nat × Int) ⊕ (Nat ⊕ Nat)) :=
 (if (decide (x16.2 > (0 : Int))) = true then (some (Sum.inl ((far .mul x16.1 (4611686018427387904 : Nat)), (IntKind.wrap .i64 (x16.2 - (1 : Int)))))) else ((iter spec_FloatOf.b1 (x16.1, x16.2)).bind fun o => some (Sum.inr o)))
def spec_FloatOf.f (a0 : Int) : Option (Nat) :=
 ((if ((IntKind.wrap .i64 (iand .u64 (ishr .u64 a0 (52 : Int)) (2047 : Int))) == (2047 : Int)) = true then (if ((iand .u64 a0 (4503599627370495 : Int)) != (0 : Int)) = true then (some (Sum.inr (far .quo (0 : Nat) (0 : Nat)))) else (some (Sum.inl (far .quo (4607182418800017408 : Nat) (0 : Nat))))) else ((if ((IntKind.wrap .i64 (iand .u64 (ishr .u64 a0 (52 : Int)) (2047 : Int))) == (0 : Int)) = true then (some ((far .quo (FloatKind.f64.nearest (iand .u64 a0 (4503599627370495 : Int))) (4841369599423283200 : Nat)), (-1022 : Int))) else (some ((far .add (far .quo (FloatKind.f64.nearest (iand .u64 a0 (4503599627370495 : Int))) (4841369599423283200 : Nat)) (4607182418800017408 : Nat)), (IntKind.wrap .i64 ((IntKind.wrap .i64 (iand .u64 (ishr .u64 a0 (52 : Int)) (2047 : Int))) - (1023 : Int)))))).bind fun y10 => (iter spec_FloatOf.b0 (y10.1, y10.2)))).bind (sel fun y3 => (if ((ishr .u64 a0 (63 : Int)) == (1 : Int)) = true then (some (fneg y3)) else (some y3))))
def spec_FloatOf.Q (w : World) (F : Nat → Prop) (r : Nat) (v : Value) (w' : World) : Prop :=
 FL v r ∧ Ky [] w w'
theorem spec_FloatOf.calls (a0 : Int) (w : World) (F : Nat → Prop)   (r : Nat) (m : spec_FloatOf.f a0 = some r) :
  Calls prog 82 #[(.int .u64 a0)] w (RT (spec_FloatOf.Q w F) r) := by
 obtain ⟨s0, rfl, kp0, z⟩ := Xg w F
 refine Xd (args := [(.int .u64 a0)]) func82 ntmps82 rfl rfl m ?_
 unfold spec_FloatOf.f
 refine sr (Xp (.float .f64 0) rfl (dn (sr (Xb rfl (shrK rfl rfl rfl rfl rfl rfl rfl rfl (Xb rfl (cv' u3 u103 rfl (Xb rfl (dn (sr (Xb rfl (Xb rfl (Xb rfl (dn ?_))))))))))))))
 refine sr (Xp (.float .f64 0) rfl (dn (sr (Xb rfl (i2f u44 u103 rfl rfl rfl rfl rfl rfl (fun v1 A1 => ?_))))))
 refine fa_ A1 (Xw rfl) (by simp) rfl rfl rfl rfl rfl rfl rfl (fun v2 s2 p2 A2 => ?_)
 refine Xp v2 rfl (dn (sq (sr (Xb rfl (Xb rfl (dn (jr (fun (y3 : Nat) e w => ∃ (s : St) (e0 : Env) (uy3_0 : Value), w = s.w ∧ e = upd (upd e0 0 (.int .u64 a0)) 6 uy3_0 ∧ Kp s0 s ∧ FL uy3_0 y3) (fun Gj3 Kj3 hG3 => ?_) ?_)))))))
 ·
  refine cd rfl (fun h4 => ?_) (fun h4 => ?_)
  ·
   refine sq (sr (Xb rfl (Xb rfl (dn (cd rfl (fun h5 => ?_) (fun h5 => ?_))))))
   ·
    refine sr (Xl (.float .f64 0) rfl (Xl (.float .f64 0) rfl (fa_ (Xw rfl) (Xw rfl) (by simp) rfl rfl rfl rfl rfl rfl rfl (fun v6 s6 p6 A6 => ?_))))
    refine Xp v6 rfl (dn (jri hG3 ?_))
    exact re rfl func82 rfl (Xo rfl Xe) rfl ⟨_, rfl, A6, z.ky (kp0.st (Xs p2 p6) rfl)⟩
   refine sk (rg (Xl (.float .f64 0) rfl (fa_ (Xw rfl) (Xw rfl) (by simp) rfl rfl rfl rfl rfl rfl rfl (fun v8 s8 p8 A8 => ?_))))
   refine Xp v8 rfl (dn ?_)
   exact Kj3 _ _ _ ⟨s8, _, v8, rfl, (ue (ue rfl rfl) rfl), (kp0.st (Xs p2 p8) rfl), A8⟩
  refine sr (Xb rfl (Xb rfl (Xb rfl (dn (sq (sr (Xb rfl (Xb rfl (dn (jc (fun (y10 : Nat × Int) e w => ∃ (s : St) (e0 : Env) (uy10_0 : Value), w = s.w ∧ e = upd (upd (upd e0 0 (.int .u64 a0)) 6 uy10_0) 7 (iI y10.2) ∧ Kp s0 s ∧ FL uy10_0 y10.1) (fun Gj10 Kj10 => ?_) ?_))))))))))
  ·
   refine cd rfl (fun h11 => ?_) (fun h11 => ?_)
   ·
    refine rg (Xb rfl (dn ?_))
    exact Kj10 _ _ _ ⟨s2, _, v2, rfl, (ue (ue (ue rfl rfl) rfl) rfl), (kp0.st p2 rfl), A2⟩
   refine rg (Xl v2 rfl (fa_ A2 (Xw rfl) (by simp) rfl rfl rfl rfl rfl rfl rfl (fun v13 s13 p13 A13 => ?_)))
   refine Xp v13 rfl (dn ?_)
   exact Kj10 _ _ _ ⟨s13, _, v13, rfl, (ue (ue (ue rfl rfl) rfl) rfl), (kp0.st (Xs p2 p13) rfl), A13⟩
  rintro y10 _ _ ⟨s15, _, uy10_0, rfl, rfl, Ky10, Fy10_0⟩
  refine sq (bl (lpI (fun (x16 : Nat × Int) e w => ∃ (s : St) (e0 : Env) (ux16_0 : Value), w = s.w ∧ e = upd (upd (upd e0 0 (.int .u64 a0)) 6 ux16_0) 7 (iI x16.2) ∧ Kp s0 s ∧ FL ux16_0 x16.1) ⟨s15, _, uy10_0, rfl, (ue (ue (ue rfl rfl) rfl) rfl), Ky10, Fy10_0⟩ (fun g16 ih16 => ?_)))
  rintro x16 _ _ ⟨s17, _, ux16_0, rfl, rfl, Kx16, Fx16_0⟩
  unfold spec_FloatOf.b0
  refine sq (sr (Xb rfl (Xb rfl (dn (cd rfl (fun h18 => ?_) (fun h18 => ?_))))))
  ·
   refine sk (sq (bl (rg (Xl ux16_0 rfl (fa_ Fx16_0 (Xw rfl) (by simp) rfl rfl rfl rfl rfl rfl rfl (fun v19 s19 p19 A19 => ?_))))))
   refine Xp v19 rfl (dn (ib (rg (Xb rfl (Xb rfl (Xb rfl (dn ?_)))))))
   exact lb ih16 ⟨s19, _, v19, rfl, (ue (ue (ue rfl rfl) rfl) rfl), (Kx16.st p19 rfl), A19⟩
  refine xt rfl (sgb (bl (lpI (fun (x21 : Nat × Int) e w => ∃ (s : St) (e0 : Env) (ux21_0 : Value), w = s.w ∧ e = upd (upd (upd e0 0 (.int .u64 a0)) 6 ux21_0) 7 (iI x21.2) ∧ Kp s0 s ∧ FL ux21_0 x21.1) ⟨s17, _, ux16_0, rfl, (ue (ue (ue rfl rfl) rfl) rfl), Kx16, Fx16_0⟩ (fun g21 ih21 => ?_))))
  rintro x21 _ _ ⟨s22, _, ux21_0, rfl, rfl, Kx21, Fx21_0⟩
  unfold spec_FloatOf.b1
  refine sq (sr (Xb rfl (Xb rfl (dn (cd rfl (fun h23 => ?_) (fun h23 => ?_))))))
  ·
   refine sk (sq (bl (rg (Xl ux21_0 rfl (fa_ Fx21_0 (Xw rfl) (by simp) rfl rfl rfl rfl rfl rfl rfl (fun v24 s24 p24 A24 => ?_))))))
   refine Xp v24 rfl (dn (ib (rg (Xb rfl (Xb rfl (Xb rfl (dn ?_)))))))
   exact lb ih21 ⟨s24, _, v24, rfl, (ue (ue (ue rfl rfl) rfl) rfl), (Kx21.st p24 rfl), A24⟩
  exact xt rfl (sgb (Kj3 _ _ _ ⟨s22, _, ux21_0, rfl, (ue (ue rfl rfl) rfl), Kx21, Fx21_0⟩))
 rintro y3 _ _ ⟨s26, _, uy3_0, rfl, rfl, Ky3, Fy3_0⟩
 refine sq (sr (Xb rfl (shrK rfl rfl rfl rfl rfl rfl rfl rfl (Xb rfl (dn (cd rfl (fun h27 => ?_) (fun h27 => ?_)))))))
 ·
  refine sr (Xl uy3_0 rfl (fng_ Fy3_0 rfl rfl rfl rfl rfl rfl (fun v28 A28 => ?_)))
  exact Xp v28 rfl (dn (re rfl func82 rfl (Xo rfl Xe) rfl ⟨_, rfl, A28, z.ky Ky3⟩))
 exact sk (sr (Xl uy3_0 rfl (Xp uy3_0 rfl (dn (re rfl func82 rfl (Xo rfl Xe) rfl ⟨_, rfl, Fy3_0, z.ky Ky3⟩)))))
def spec_FloatBits.b1 (y8 : Int × Nat) (x19 : Nat × Int) : Option ((Nat × Int) ⊕ Int) :=
 (if ((fcmp .f64 x19.1 (4607182418800017408 : Nat) == some .lt) && (decide (x19.2 > (-1022 : Int)))) = true then (some (Sum.inl ((far .mul x19.1 (4611686018427387904 : Nat)), (IntKind.wrap .i64 (x19.2 - (1 : Int)))))) else ((if (fcmp .f64 x19.1 (4607182418800017408 : Nat) == some .lt) = true then ((floatToIntVal .f64 (far .mul x19.1 (4841369599423283200 : Nat)) .u64).bind fun r27 => (some (ior .u64 y8.1 r27))) else ((floatToIntVal .f64 (far .mul (far .sub x19.1 (4607182418800017408 : Nat)) (4841369599423283200 : Nat)) .u64).bind fun r31 => (some (ior .u64 (ior .u64 y8.1 (ishl .u64 (IntKind.wrap .u64 (IntKind.wrap .i64 (x19.2 + (1023 : Int)))) (52 : Int))) r31)))).bind fun o => some (Sum.inr o)))
def spec_FloatBits.b0 (y8 : Int × Nat) (x14 : Nat × Int) : Option ((Nat × Int) ⊕ Int) :=
 (if (fcmp .f64 x14.1 (4611686018427387904 : Nat) == some .gt || fcmp .f64 x14.1 (4611686018427387904 : Nat) == some .eq) = true then (some (Sum.inl ((far .quo x14.1 (4611686018427387904 : Nat)), (IntKind.wrap .i64 (x14.2 + (1 : Int)))))) else ((iter (spec_FloatBits.b1 y8) (x14.1, x14.2)).bind fun o => some (Sum.inr o)))
def spec_FloatBits.f (a0 : Nat) : Option (Int) :=
 (if (fcmp .f64 a0 a0 != some .eq) = true then (some (9221120237041090560 : Int)) else ((if (fcmp .f64 a0 (0 : Nat) == some .lt) = true then (some true) else ((if (fcmp .f64 a0 (0 : Nat) == some .eq) = true then (some (fcmp .f64 (far .quo (4607182418800017408 : Nat) a0) (0 : Nat) == some .lt)) else (some false)).bind fun y3 => (some y3))).bind fun y2 => ((if y2 = true then (some ((9223372036854775808 : Int), (fneg a0))) else (some ((0 : Int), a0))).bind fun y8 => (if (fcmp .f64 y8.2 (0 : Nat) == some .eq) = true then (some y8.1) else (if (fcmp .f64 y8.2 (9218868437227405311 : Nat) == some .gt) = true then (some (ior .u64 y8.1 (9218868437227405312 : Int))) else (iter (spec_FloatBits.b0 y8) (y8.2, (0 : Int))))))))
def spec_FloatBits.Q (w : World) (F : Nat → Prop) (r : Int) (v : Value) (w' : World) : Prop :=
 v = (.int .u64 r) ∧ Ky [] w w'
theorem spec_FloatBits.calls (a0 : Nat) (w : World) (F : Nat → Prop) (w0_0 : Value) (h0_0 : Kd.flt.rd w [w0_0] a0 F) (r : Int) (m : spec_FloatBits.f a0 = some r) :
  Calls prog 86 #[w0_0] w (RT (spec_FloatBits.Q w F) r) := by
 obtain ⟨s0, rfl, kp0, z⟩ := Xg w F
 have A0_0 := fl_of h0_0
 refine Xd (args := [w0_0]) func86 ntmps86 rfl rfl m ?_
 unfold spec_FloatBits.f
 refine sr (Xb rfl (dn (sq (sr (Xl w0_0 rfl (Xl w0_0 rfl (fq_' A0_0 A0_0 rfl (dn (cd rfl (fun h1 => ?_) (fun h1 => ?_))))))))))
 ·
  exact sr (Xb rfl (dn (re rfl func86 rfl (Xo rfl Xe) rfl ⟨_, rfl, rfl, z.ky kp0⟩)))
 refine sk (sr (Xb rfl (dn (sr (Xl w0_0 rfl (Xp w0_0 rfl (dn (sq (sr (Xl w0_0 rfl (fq_' A0_0 (Xw rfl) rfl (Xb rfl (ji [] (fun (y2 : Bool) e w => ∃ (s : St) (e0 : Env), w = s.w ∧ e = upd (upd (upd (upd e0 0 w0_0) 3 (.int .u64 (0 : Int))) 4 w0_0) 20 (.bool y2) ∧ Kp s0 s) (fun Gj2 Kj2 => ?_) ?_)))))))))))))
 ·
  rcases bft (fcmp .f64 a0 (0 : Nat) == some .lt) with hb2 | hb2
  ·
   refine Xu hb2 ?_
   rw [if_pos hb2]
   exact Xh rfl (Xh rfl (Xh rfl (Xh rfl (Xh rfl (Xh rfl (Xh rfl (Xb rfl (Kj2 _ _ _ ⟨s0, _, rfl, (ue (ue (ue (ue rfl rfl) rfl) rfl) rfl), kp0⟩))))))))
  refine Xu hb2 ?_
  rw [if_neg (by rw [hb2]; decide)]
  refine Xl w0_0 rfl (fq_' A0_0 (Xw rfl) rfl (Xb rfl (ji [10] (fun (y3 : Bool) e w => ∃ (s : St) (e0 : Env), w = s.w ∧ e = upd (upd (upd (upd (upd e0 0 w0_0) 3 (.int .u64 (0 : Int))) 4 w0_0) 12 (.bool false)) 19 (.bool y3) ∧ Kp s0 s) (fun Gj3 Kj3 => ?_) ?_)))
  ·
   rcases bft (fcmp .f64 a0 (0 : Nat) == some .eq) with hb3 | hb3
   ·
    refine Xu hb3 ?_
    rw [if_pos hb3]
    refine Xl w0_0 rfl (fa_ (Xw rfl) A0_0 (by simp) rfl rfl rfl rfl rfl rfl rfl (fun v4 s4 p4 A4 => ?_))
    refine fq_' A4 (Xw rfl) rfl (Xb rfl ?_)
    exact Kj3 _ _ _ ⟨s4, _, rfl, (ue (ue (ue (ue (ue rfl rfl) rfl) rfl) rfl) rfl), (kp0.st p4 rfl)⟩
   refine Xu hb3 ?_
   rw [if_neg (by rw [hb3]; decide)]
   exact Xh rfl (Xh rfl (Xh rfl (Xb rfl (Kj3 _ _ _ ⟨s0, _, rfl, (ue (ue (ue (ue (ue rfl rfl) rfl) rfl) rfl) rfl), kp0⟩))))
  rintro y3 _ _ ⟨s6, _, rfl, rfl, Ky3⟩
  exact Xb rfl (Kj2 _ _ _ ⟨s6, _, rfl, (ue (ue (ue (ue rfl rfl) rfl) rfl) rfl), Ky3⟩)
 rintro y2 _ _ ⟨s7, _, rfl, rfl, Ky2⟩
 refine dn (jc (fun (y8 : Int × Nat) e w => ∃ (s : St) (e0 : Env) (uy8_0 : Value), w = s.w ∧ e = upd (upd e0 3 (.int .u64 y8.1)) 4 uy8_0 ∧ Kp s0 s ∧ FL uy8_0 y8.2) (fun Gj8 Kj8 => ?_) ?_)
 ·
  refine cd rfl (fun h9 => ?_) (fun h9 => ?_)
  ·
   refine sr (Xb rfl (dn (rg (Xl w0_0 rfl (fng_ A0_0 rfl rfl rfl rfl rfl rfl (fun v10 A10 => ?_))))))
   exact Xp v10 rfl (dn (Kj8 _ _ _ ⟨s7, _, v10, rfl, (ue (ue rfl rfl) rfl), Ky2, A10⟩))
  exact sk (Kj8 _ _ _ ⟨s7, _, w0_0, rfl, (ue (ue rfl rfl) rfl), Ky2, A0_0⟩)
 rintro y8 _ _ ⟨s11, _, uy8_0, rfl, rfl, Ky8, Fy8_0⟩
 refine sq (sr (Xl uy8_0 rfl (fq_' Fy8_0 (Xw rfl) rfl (dn (cd rfl (fun h12 => ?_) (fun h12 => ?_))))))
 ·
  exact sr (Xb rfl (Xb rfl (dn (re rfl func86 rfl (Xo rfl Xe) rfl ⟨_, rfl, rfl, z.ky Ky8⟩))))
 refine sk (sq (sr (Xl uy8_0 rfl (fq_' Fy8_0 (Xw rfl) rfl (dn (cd rfl (fun h13 => ?_) (fun h13 => ?_)))))))
 ·
  exact sr (Xb rfl (Xb rfl (Xb rfl (dn (re rfl func86 rfl (Xo rfl Xe) rfl ⟨_, rfl, rfl, z.ky Ky8⟩)))))
 refine sk (sr (Xb rfl (dn (sq (bl (lpI (fun (x14 : Nat × Int) e w => ∃ (s : St) (e0 : Env) (ux14_0 : Value), w = s.w ∧ e = upd (upd (upd e0 3 (.int .u64 y8.1)) 4 ux14_0) 5 (iI x14.2) ∧ Kp s0 s ∧ FL ux14_0 x14.1) ⟨s11, _, uy8_0, rfl, (ue (ue (ue rfl rfl) rfl) rfl), Ky8, Fy8_0⟩ (fun g14 ih14 => ?_)))))))
 rintro x14 _ _ ⟨s15, _, ux14_0, rfl, rfl, Kx14, Fx14_0⟩
 unfold spec_FloatBits.b0
 refine sq (sr (Xl ux14_0 rfl (fq_' Fx14_0 (Xw rfl) rfl (dn (cd rfl (fun h16 => ?_) (fun h16 => ?_))))))
 ·
  refine sk (bl (sr (Xl ux14_0 rfl (fa_ Fx14_0 (Xw rfl) (by simp) rfl rfl rfl rfl rfl rfl rfl (fun v17 s17 p17 A17 => ?_)))))
  refine Xp v17 rfl (dn (rg (Xb rfl (Xb rfl (Xb rfl (dn (ib ?_)))))))
  exact lb ih14 ⟨s17, _, v17, rfl, (ue (ue (ue rfl rfl) rfl) rfl), (Kx14.st p17 rfl), A17⟩
 refine xt rfl (sgb (sq (bl (lpI (fun (x19 : Nat × Int) e w => ∃ (s : St) (e0 : Env) (ux19_0 : Value), w = s.w ∧ e = upd (upd (upd e0 3 (.int .u64 y8.1)) 4 ux19_0) 5 (iI x19.2) ∧ Kp s0 s ∧ FL ux19_0 x19.1) ⟨s15, _, ux14_0, rfl, (ue (ue (ue rfl rfl) rfl) rfl), Kx14, Fx14_0⟩ (fun g19 ih19 => ?_)))))
 rintro x19 _ _ ⟨s20, _, ux19_0, rfl, rfl, Kx19, Fx19_0⟩
 unfold spec_FloatBits.b1
 refine sq (sr (Xl ux19_0 rfl (fq_' Fx19_0 (Xw rfl) rfl (Xb rfl (jy [38, 39, 40, 41] [] 41 (.bool ((fcmp .f64 x19.1 (4607182418800017408 : Nat) == some .lt) && (decide (x19.2 > (-1022 : Int))))) rfl (fun Kg21 => ?_) (fun j21 => ?_))))))
 ·
  rcases bft (fcmp .f64 x19.1 (4607182418800017408 : Nat) == some .lt) with hb21 | hb21
  ·
   exact Xu hb21 (Xb rfl (Xb rfl (Xb rfl (Kg21 _ (Ag.put ((Ag.put ((Ag.put (Ag.base rfl) rfl)) rfl)) rfl) (by rw [hb21]; rfl)))))
  exact Xu hb21 (Xh rfl (Xh rfl (Xb rfl (Kg21 _ (Ag.put ((Ag.put ((Ag.put (Ag.base rfl) rfl)) rfl)) rfl) (by rw [hb21]; rfl)))))
 refine dn (cd rfl (fun h22 => ?_) (fun h22 => ?_))
 ·
  refine sk (bl (sr (Xl ux19_0 rfl (fa_ Fx19_0 (Xw rfl) (by simp) rfl rfl rfl rfl rfl rfl rfl (fun v23 s23 p23 A23 => ?_)))))
  refine Xp v23 rfl (dn (rg (Xb rfl (Xb rfl (Xb rfl (dn (ib ?_)))))))
  exact lb ih19 ⟨s23, _, v23, rfl, (ue (ue (ue rfl rfl) rfl) rfl), (Kx19.st p23 rfl), A23⟩
 refine xt rfl (sgb (sq (sr (Xl ux19_0 rfl (fq_' Fx19_0 (Xw rfl) rfl (dn (cd rfl (fun h25 => ?_) (fun h25 => ?_))))))))
 ·
  refine sr (Xb rfl (Xl ux19_0 rfl (fa_ Fx19_0 (Xw rfl) (by simp) rfl rfl rfl rfl rfl rfl rfl (fun v26 s26 p26 A26 => ?_))))
  refine f2i A26 u103 u44 rfl rfl rfl rfl rfl rfl (fun r27 m27 => ?_)
  refine Xb rfl (Xb rfl (dn ?_))
  exact re rfl func86 rfl (Xo rfl Xe) rfl ⟨_, rfl, rfl, z.ky (Kx19.st p26 rfl)⟩
 refine sk (sr (Xb rfl (Xb rfl (Xb rfl (cv' u103 u3 rfl (shlK rfl rfl rfl rfl rfl rfl rfl rfl (Xb rfl (Xl ux19_0 rfl (fa_ Fx19_0 (Xw rfl) (by simp) rfl rfl rfl rfl rfl rfl rfl (fun v29 s29 p29 A29 => ?_))))))))))
 refine fa_ A29 (Xw rfl) (by simp) rfl rfl rfl rfl rfl rfl rfl (fun v30 s30 p30 A30 => ?_)
 refine f2i A30 u103 u44 rfl rfl rfl rfl rfl rfl (fun r31 m31 => ?_)
 refine Xb rfl (Xb rfl (dn ?_))
 exact re rfl func86 rfl (Xo rfl Xe) rfl ⟨_, rfl, rfl, z.ky (Kx19.st (Xs p29 p30) rfl)⟩
def spec_FloatRank.f (a0 : Nat) : Option (Int) :=
 ((spec_FloatBits.f a0).bind fun r1 => (if (r1 == (9221120237041090560 : Int)) = true then (some (18446744073709551615 : Int)) else (if (fcmp .f64 a0 (0 : Nat) == some .eq) = true then (some (9223372036854775808 : Int)) else (if ((ishr .u64 r1 (63 : Int)) == (1 : Int)) = true then (some (ixor .u64 (IntKind.max .u64) r1)) else (some (ior .u64 r1 (9223372036854775808 : Int)))))))
def spec_FloatRank.Q (w : World) (F : Nat → Prop) (r : Int) (v : Value) (w' : World) : Prop :=
 v = (.int .u64 r) ∧ Ky [] w w'
theorem spec_FloatRank.calls (a0 : Nat) (w : World) (F : Nat → Prop) (w0_0 : Value) (h0_0 : Kd.flt.rd w [w0_0] a0 F) (r : Int) (m : spec_FloatRank.f a0 = some r) :
  Calls prog 87 #[w0_0] w (RT (spec_FloatRank.Q w F) r) := by
 obtain ⟨s0, rfl, kp0, z⟩ := Xg w F
 have A0_0 := fl_of h0_0
 refine Xd (args := [w0_0]) func87 ntmps87 rfl rfl m ?_
 unfold spec_FloatRank.f
 refine sr (Xb rfl (dn (sr (Xl w0_0 rfl (clV 40 rfl func86 rfl (spec_FloatBits.calls a0 s0.w (mm [] s0) w0_0 (Xn (s := s0) A0_0)) (fun r1 s2 p2 n2 => ?_))))))
 refine Xb rfl (dn (sq (sr (Xb rfl (Xb rfl (dn (cd rfl (fun h3 => ?_) (fun h3 => ?_))))))))
 ·
  refine sr (Xb rfl (dn ?_))
  exact re rfl func87 rfl (Xo rfl Xe) rfl ⟨_, rfl, rfl, z.ky (kp0.st p2 rfl)⟩
 refine sk (sq (sr (Xl w0_0 rfl (fq_' A0_0 (Xw rfl) rfl (dn (cd rfl (fun h5 => ?_) (fun h5 => ?_)))))))
 ·
  refine sr (Xb rfl (dn ?_))
  exact re rfl func87 rfl (Xo rfl Xe) rfl ⟨_, rfl, rfl, z.ky (kp0.st p2 rfl)⟩
 refine sk (sq (sr (Xb rfl (shrK rfl rfl rfl rfl rfl rfl rfl rfl (Xb rfl (dn (cd rfl (fun h7 => ?_) (fun h7 => ?_))))))))
 ·
  refine sr (Xb rfl (Xb rfl (Xb rfl (dn ?_))))
  exact re rfl func87 rfl (Xo rfl Xe) rfl ⟨_, rfl, rfl, z.ky (kp0.st p2 rfl)⟩
 refine sk (sr (Xb rfl (Xb rfl (Xb rfl (dn ?_)))))
 exact re rfl func87 rfl (Xo rfl Xe) rfl ⟨_, rfl, rfl, z.ky (kp0.st p2 rfl)⟩
def spec_FloatUnrank.f (a0 : Int) : Option (Nat × Bool) :=
 ((if (a0 == (18446744073709551615 : Int)) = true then (some (9221120237041090560 : Int)) else ((if ((ishr .u64 a0 (63 : Int)) == (1 : Int)) = true then (some (iand .u64 a0 (9223372036854775807 : Int))) else (some (ixor .u64 (IntKind.max .u64) a0))).bind fun y3 => (some y3))).bind fun y1 => ((spec_FloatOf.f y1).bind fun r7 => ((spec_FloatRank.f r7).bind fun r9 => (if (r9 != a0) = true then (some ((0 : Nat), false)) else (some (r7, true))))))
def spec_FloatUnrank.Q (w : World) (F : Nat → Prop) (r : Nat × Bool) (v : Value) (w' : World) : Prop :=
 ∃ (v0 : Value), v = .tuple #[v0, (.bool r.2)] ∧ FL v0 r.1 ∧ Ky [] w w'
theorem spec_FloatUnrank.calls (a0 : Int) (w : World) (F : Nat → Prop)   (r : Nat × Bool) (m : spec_FloatUnrank.f a0 = some r) :
  Calls prog 80 #[(.int .u64 a0)] w (RT (spec_FloatUnrank.Q w F) r) := by
 obtain ⟨s0, rfl, kp0, z⟩ := Xg w F
 refine Xd (args := [(.int .u64 a0)]) func80 ntmps80 rfl rfl m ?_
 unfold spec_FloatUnrank.f
 refine sr (Xp (.float .f64 0) rfl (Xb rfl (dn (sr (Xb rfl (dn (sq (sr (Xb rfl (Xb rfl (dn (jc (fun (y1 : Int) e w => ∃ (s : St) (e0 : Env), w = s.w ∧ e = upd (upd e0 0 (.int .u64 a0)) 4 (.int .u64 y1) ∧ Kp s0 s) (fun Gj1 Kj1 => ?_) ?_))))))))))))
 ·
  refine cd rfl (fun h2 => ?_) (fun h2 => ?_)
  ·
   exact rg (Xb rfl (dn (Kj1 _ _ _ ⟨s0, _, rfl, (ue (ue rfl rfl) rfl), kp0⟩)))
  refine sr (Xb rfl (shrK rfl rfl rfl rfl rfl rfl rfl rfl (Xb rfl (dn (jc (fun (y3 : Int) e w => ∃ (s : St) (e0 : Env), w = s.w ∧ e = upd (upd e0 0 (.int .u64 a0)) 4 (.int .u64 y3) ∧ Kp s0 s) (fun Gj3 Kj3 => ?_) ?_)))))
  ·
   refine cd rfl (fun h4 => ?_) (fun h4 => ?_)
   ·
    exact rg (Xb rfl (Xb rfl (Xb rfl (dn (Kj3 _ _ _ ⟨s0, _, rfl, (ue (ue rfl rfl) rfl), kp0⟩)))))
   exact rg (Xb rfl (Xb rfl (Xb rfl (dn (Kj3 _ _ _ ⟨s0, _, rfl, (ue (ue rfl rfl) rfl), kp0⟩)))))
  rintro y3 _ _ ⟨s5, _, rfl, rfl, Ky3⟩
  exact Kj1 _ _ _ ⟨s5, _, rfl, (ue (ue rfl rfl) rfl), Ky3⟩
 rintro y1 _ _ ⟨s6, _, rfl, rfl, Ky1⟩
 refine sr (Xb rfl (cl' rfl func82 rfl (spec_FloatOf.calls y1 s6.w (mm [] s6)) ?_))
 rintro r7 v7_0 w7 m7 ⟨f7_0, ky7⟩
 obtain ⟨s8, rfl, p8, n8⟩ := nwx s6 w7 40 ky7
 refine Xp v7_0 rfl (dn (sq (sr (Xl v7_0 rfl (clV 41 rfl func87 rfl (spec_FloatRank.calls r7 s8.w (mm [] s8) v7_0 (Xn (s := s8) f7_0)) (fun r9 s10 p10 n10 => ?_))))))
 refine Xb rfl (Xb rfl (dn (cd rfl (fun h11 => ?_) (fun h11 => ?_))))
 ·
  refine sr (Xp (.float .f64 0) rfl (Xb rfl (dn ?_)))
  exact re rfl func80 rfl (Xo rfl (Xo rfl Xe)) rfl ⟨_, rfl, (.float .f64 0), rfl, (Xw rfl), z.ky (Ky1.st (Xs p8 p10) rfl)⟩
 refine sk (sr (Xl v7_0 rfl (Xp v7_0 rfl (Xb rfl (dn ?_)))))
 exact re rfl func80 rfl (Xo rfl (Xo rfl Xe)) rfl ⟨_, rfl, v7_0, rfl, f7_0, z.ky (Ky1.st (Xs p8 p10) rfl)⟩
def spec_ItemOk.f (a0 : Item) : Option (Bool) :=
 (if (((decide (a0.Kind < (0 : Int))) || (decide (a0.Kind > (3 : Int)))) || (decide ((a0.T.length : Int) > (40 : Int)))) = true then (some false) else (if ((a0.Kind != (1 : Int)) && (a0.N != (0 : Int))) = true then (some false) else ((if (a0.Kind != (2 : Int)) = true then ((spec_FloatBits.f a0.F).bind fun r14 => (some (r14 != (0 : Int)))) else (some false)).bind fun y13 => (if y13 = true then (some false) else (some ((a0.Kind == (3 : Int)) || ((a0.T.length : Int) == (0 : Int))))))))
def spec_ItemOk.Q (w : World) (F : Nat → Prop) (r : Bool) (v : Value) (w' : World) : Prop :=
 v = (.bool r) ∧ Ky [] w w'
theorem spec_ItemOk.calls (a0 : Item) (w : World) (F : Nat → Prop) (w0_0 : Value) (w0_1 : Value) (h0_0 : Kd.flt.rd w [w0_0] a0.F F) (h0_1 : Ye.rd w [w0_1] a0.T F) (r : Bool) (m : spec_ItemOk.f a0 = some r) :
  Calls prog 58 #[(.agg #[(iI a0.Kind), (iI a0.N), w0_0, w0_1])] w (RT (spec_ItemOk.Q w F) r) := by
 obtain ⟨s0, rfl, kp0, z⟩ := Xg w F
 have A0_1 := z.rd h0_1
 refine Xd (args := [(.agg #[(iI a0.Kind), (iI a0.N), w0_0, w0_1])]) func58 ntmps58 rfl rfl m ?_
 unfold spec_ItemOk.f
 refine sr (bx' (cs := [(iI a0.Kind), (iI a0.N), w0_0, w0_1]) 40 rfl rfl (fun b2 s2 p2 B2 => ?_))
 refine Xb rfl (dn (sq (sr (Xr fa47_0 rfl (ld' B2 u3 rfl (Xb rfl (Xb rfl (jy [6, 7, 8, 9, 10] [8, 9, 10, 11, 12, 13] 10 (.bool ((decide (a0.Kind < (0 : Int))) || (decide (a0.Kind > (3 : Int))))) rfl (fun Kg4 => ?_) (fun j4 => ?_)))))))))
 ·
  rcases bft (decide (a0.Kind < (0 : Int))) with hb4 | hb4
  ·
   exact Xu hb4 (Xh rfl (Xh rfl (Xh rfl (Xb rfl (Kg4 _ (Ag.put ((Ag.put ((Ag.put ((Ag.put (Ag.base rfl) rfl)) rfl)) rfl)) rfl) (by rw [hb4]; rfl))))))
  exact Xu hb4 (Xr fa47_0 rfl (ld' B2 u3 rfl (Xb rfl (Xb rfl (Kg4 _ (Ag.put ((Ag.put ((Ag.put ((Ag.put (Ag.base rfl) rfl)) rfl)) rfl)) rfl) (by rw [hb4]; rfl))))))
 refine Xb rfl (jy [11, 12, 13, 14, 15, 16] [] 16 (.bool (((decide (a0.Kind < (0 : Int))) || (decide (a0.Kind > (3 : Int)))) || (decide ((a0.T.length : Int) > (40 : Int))))) rfl (fun Kg5 => ?_) (fun j5 => ?_))
 ·
  rcases bft ((decide (a0.Kind < (0 : Int))) || (decide (a0.Kind > (3 : Int)))) with hb5 | hb5
  ·
   exact Xu hb5 (Xh rfl (Xh rfl (Xh rfl (Xh rfl (Xb rfl (Kg5 _ (Ag.put ((Ag.put ((Ag.put ((Ag.put ((Ag.put (Ag.base rfl) rfl)) rfl)) rfl)) rfl)) rfl) (by rw [hb5]; rfl)))))))
  refine Xu hb5 (Xr fa47_3 rfl (ld' B2 u45 rfl ?_))
  exact ln' (A0_1.kp (kp0.st p2 rfl)) u45 rfl (Xb rfl (Xb rfl (Kg5 _ (Ag.put ((Ag.put ((Ag.put ((Ag.put ((Ag.put (Ag.base rfl) rfl)) rfl)) rfl)) rfl)) rfl) (by rw [hb5]; rfl))))
 refine dn (cd rfl (fun h8 => ?_) (fun h8 => ?_))
 ·
  refine sr (Xb rfl (dn ?_))
  exact re rfl func58 rfl (Xo rfl Xe) rfl ⟨_, rfl, rfl, z.ky (kp0.st p2 rfl)⟩
 refine sk (sq (sr (Xr fa47_0 rfl (ld' B2 u3 rfl (Xb rfl (Xb rfl (jy [20, 21, 22, 23, 24] [] 24 (.bool ((a0.Kind != (1 : Int)) && (a0.N != (0 : Int)))) rfl (fun Kg10 => ?_) (fun j10 => ?_))))))))
 ·
  rcases bft (a0.Kind != (1 : Int)) with hb10 | hb10
  ·
   exact Xu hb10 (Xr fa47_1 rfl (ld' B2 u3 rfl (Xb rfl (Xb rfl (Kg10 _ (Ag.put ((Ag.put ((Ag.put ((Ag.put (Ag.base rfl) rfl)) rfl)) rfl)) rfl) (by rw [hb10]; rfl))))))
  exact Xu hb10 (Xh rfl (Xh rfl (Xh rfl (Xb rfl (Kg10 _ (Ag.put ((Ag.put ((Ag.put ((Ag.put (Ag.base rfl) rfl)) rfl)) rfl)) rfl) (by rw [hb10]; rfl))))))
 refine dn (cd rfl (fun h11 => ?_) (fun h11 => ?_))
 ·
  refine sr (Xb rfl (dn ?_))
  exact re rfl func58 rfl (Xo rfl Xe) rfl ⟨_, rfl, rfl, z.ky (kp0.st p2 rfl)⟩
 refine sk (sq (sr (Xr fa47_0 rfl (ld' B2 u3 rfl (Xb rfl (Xb rfl (ji [] (fun (y13 : Bool) e w => ∃ (s : St) (e0 : Env), w = s.w ∧ e = upd (upd e0 1 (pB b2)) 33 (.bool y13) ∧ Kp s0 s ∧ BlF s b2 47 [(iI a0.Kind), (iI a0.N), w0_0, w0_1] 40) (fun Gj13 Kj13 => ?_) ?_)))))))
 ·
  rcases bft (a0.Kind != (2 : Int)) with hb13 | hb13
  ·
   refine Xu hb13 ?_
   rw [if_pos hb13]
   refine Xr fa47_2 rfl (ld' B2 u44 rfl (clV 41 rfl func86 rfl (spec_FloatBits.calls a0.F s2.w (mm [] s2) w0_0 (Xn (s := s2) (fl_of h0_0))) (fun r14 s15 p15 n15 => ?_)))
   refine Xb rfl (Xb rfl ?_)
   exact Kj13 _ _ _ ⟨s15, _, rfl, (ue (ue rfl rfl) rfl), (kp0.st (Xs p2 p15) rfl), (B2.st p15 rfl)⟩
  refine Xu hb13 ?_
  rw [if_neg (by rw [hb13]; decide)]
  refine Xh rfl (Xh rfl (Xh rfl (Xh rfl (Xb rfl ?_))))
  exact Kj13 _ _ _ ⟨s2, _, rfl, (ue (ue rfl rfl) rfl), (kp0.st p2 rfl), B2⟩
 rintro y13 _ _ ⟨s19, _, rfl, rfl, Ky13, By13_b2⟩
 refine dn (cd rfl (fun h21 => ?_) (fun h21 => ?_))
 ·
  exact sr (Xb rfl (dn (re rfl func58 rfl (Xo rfl Xe) rfl ⟨_, rfl, rfl, z.ky Ky13⟩)))
 refine sk (sr (Xr fa47_0 rfl (ld' By13_b2 u3 rfl (Xb rfl (Xb rfl (jy [37, 38, 39, 40, 41, 42] [9] 42 (.bool ((a0.Kind == (3 : Int)) || ((a0.T.length : Int) == (0 : Int)))) rfl (fun Kg22 => ?_) (fun j22 => ?_)))))))
 ·
  rcases bft (a0.Kind == (3 : Int)) with hb22 | hb22
  ·
   exact Xu hb22 (Xh rfl (Xh rfl (Xh rfl (Xh rfl (Xb rfl (Kg22 _ (Ag.put ((Ag.put ((Ag.put ((Ag.put ((Ag.put (Ag.base rfl) rfl)) rfl)) rfl)) rfl)) rfl) (by rw [hb22]; rfl)))))))
  refine Xu hb22 (Xr fa47_3 rfl (ld' By13_b2 u45 rfl ?_))
  exact ln' (A0_1.kp Ky13) u45 rfl (Xb rfl (Xb rfl (Kg22 _ (Ag.put ((Ag.put ((Ag.put ((Ag.put ((Ag.put (Ag.base rfl) rfl)) rfl)) rfl)) rfl)) rfl) (by rw [hb22]; rfl))))
 exact Xb rfl (dn (re rfl func58 rfl (Xo rfl Xe) rfl ⟨_, rfl, rfl, z.ky Ky13⟩))
def spec_KeyOk.f (a0 : Item) : Option (Bool) :=
 ((spec_ItemOk.f a0).bind fun r6 => ((if (r6 && (a0.Kind != (0 : Int))) = true then ((if (fcmp .f64 a0.F (0 : Nat) == some .eq) = true then ((spec_FloatBits.f a0.F).bind fun r13 => (some (r13 != (0 : Int)))) else (some false)).bind fun y12 => (some (!y12))) else (some false)).bind fun y10 => (some y10)))
def spec_KeyOk.Q (w : World) (F : Nat → Prop) (r : Bool) (v : Value) (w' : World) : Prop :=
 v = (.bool r) ∧ Ky [] w w'
theorem spec_KeyOk.calls (a0 : Item) (w : World) (F : Nat → Prop) (w0_0 : Value) (w0_1 : Value) (h0_0 : Kd.flt.rd w [w0_0] a0.F F) (h0_1 : Ye.rd w [w0_1] a0.T F) (r : Bool) (m : spec_KeyOk.f a0 = some r) :
  Calls prog 102 #[(.agg #[(iI a0.Kind), (iI a0.N), w0_0, w0_1])] w (RT (spec_KeyOk.Q w F) r) := by
 obtain ⟨s0, rfl, kp0, z⟩ := Xg w F
 have A0_0 := fl_of h0_0
 refine Xd (args := [(.agg #[(iI a0.Kind), (iI a0.N), w0_0, w0_1])]) func102 ntmps102 rfl rfl m ?_
 unfold spec_KeyOk.f
 refine sr (bx' (cs := [(iI a0.Kind), (iI a0.N), w0_0, w0_1]) 40 rfl rfl (fun b2 s2 p2 B2 => ?_))
 refine Xb rfl (dn (sr (Yc (es := [(iI a0.Kind), (iI a0.N), w0_0, w0_1]) B2 u47 z47 rfl ?_)))
 have K4 := kp0.st p2 rfl
 refine clV 41 rfl func58 rfl (spec_ItemOk.calls a0 s2.w (mm [0] s2) w0_0 w0_1 ((Xn (s := s2) A0_0).sub (D := [0]) rfl) ((z.rd h0_1).kp K4)) (fun r6 s7 p7 n7 => ?_)
 refine Xb rfl (jy [5, 6, 7, 8, 9] [7, 8, 9, 10, 11, 12, 13, 14, 15, 16, 17, 18, 19] 9 (.bool (r6 && (a0.Kind != (0 : Int)))) rfl (fun Kg8 => ?_) (fun j8 => ?_))
 ·
  rcases bft r6 with hb8 | hb8
  ·
   refine Xu hb8 (Xr fa47_0 rfl ?_)
   exact ld' (B2.st p7 rfl) u3 rfl (Xb rfl (Xb rfl (Kg8 _ (Ag.put ((Ag.put ((Ag.put ((Ag.put (Ag.base rfl) rfl)) rfl)) rfl)) rfl) (by rw [hb8]; rfl))))
  exact Xu hb8 (Xh rfl (Xh rfl (Xh rfl (Xb rfl (Kg8 _ (Ag.put ((Ag.put ((Ag.put ((Ag.put (Ag.base rfl) rfl)) rfl)) rfl)) rfl) (by rw [hb8]; rfl))))))
 refine Xb rfl (ji [19] (fun (y10 : Bool) e w => ∃ (s : St) (e0 : Env), w = s.w ∧ e = upd e0 21 (.bool y10) ∧ Kp s0 s) (fun Gj10 Kj10 => ?_) ?_)
 ·
  rcases bft (r6 && (a0.Kind != (0 : Int))) with hb10 | hb10
  ·
   refine Xu hb10 ?_
   rw [if_pos hb10]
   refine Xr fa47_2 rfl ?_
   have A11 := B2.st p7 rfl
   refine ld' A11 u44 rfl (fq_' A0_0 (Xw rfl) rfl (Xb rfl (ji [17, 18, 19] (fun (y12 : Bool) e w => ∃ (s : St) (e0 : Env), w = s.w ∧ e = upd (upd e0 10 (.bool true)) 19 (.bool y12) ∧ Kp s0 s) (fun Gj12 Kj12 => ?_) ?_)))
   ·
    rcases bft (fcmp .f64 a0.F (0 : Nat) == some .eq) with hb12 | hb12
    ·
     refine Xu hb12 ?_
     rw [if_pos hb12]
     refine Xr fa47_2 rfl (ld' A11 u44 rfl (clV 42 rfl func86 rfl (spec_FloatBits.calls a0.F s7.w (mm [] s7) w0_0 (Xn (s := s7) A0_0)) (fun r13 s14 p14 n14 => ?_)))
     refine Xb rfl (Xb rfl ?_)
     exact Kj12 _ _ _ ⟨s14, _, rfl, (ue (ue rfl rfl) rfl), (K4.st (Xs p7 p14) rfl)⟩
    refine Xu hb12 ?_
    rw [if_neg (by rw [hb12]; decide)]
    refine Xh rfl (Xh rfl (Xh rfl (Xh rfl (Xb rfl ?_))))
    exact Kj12 _ _ _ ⟨s7, _, rfl, (ue (ue rfl rfl) rfl), (K4.st p7 rfl)⟩
   rintro y12 _ _ ⟨s17, _, rfl, rfl, Ky12⟩
   exact Xb rfl (Xb rfl (Kj10 _ _ _ ⟨s17, _, rfl, (ue rfl rfl), Ky12⟩))
  refine Xu hb10 ?_
  rw [if_neg (by rw [hb10]; decide)]
  refine Xh rfl (Xh rfl (Xh rfl (Xh rfl (Xh rfl (Xh rfl (Xh rfl (Xh rfl (Xh rfl (Xh rfl (Xb rfl ?_))))))))))
  exact Kj10 _ _ _ ⟨s7, _, rfl, (ue rfl rfl), (K4.st p7 rfl)⟩
 rintro y10 _ _ ⟨s19, _, rfl, rfl, Ky10⟩
 exact Xb rfl (dn (re rfl func102 rfl (Xo rfl Xe) rfl ⟨_, rfl, rfl, z.ky Ky10⟩))
def spec_l3high.b0 (a0 : Int) (x1 : (List Int) × Int) : Option (((List Int) × Int) ⊕ (List Int)) :=
 (if (decide (x1.2 ≥ (0 : Int))) = true then (if 0 ≤ (IntKind.wrap .u64 (IntKind.wrap .i64 ((8 : Int) * x1.2))) then (if x1.1.length + ([(IntKind.wrap .u8 (iand .u64 (ishr .u64 a0 (IntKind.wrap .u64 (IntKind.wrap .i64 ((8 : Int) * x1.2)))) (255 : Int)))]).length ≤ Lim then (some (Sum.inl ((x1.1 ++ [(IntKind.wrap .u8 (iand .u64 (ishr .u64 a0 (IntKind.wrap .u64 (IntKind.wrap .i64 ((8 : Int) * x1.2)))) (255 : Int)))]), (IntKind.wrap .i64 (x1.2 - (1 : Int)))))) else none) else none) else ((some x1.1).bind fun o => some (Sum.inr o)))
def spec_l3high.f (a0 : Int) : Option ((List Int)) :=
 (iter (spec_l3high.b0 a0) (([] : (List Int)), (7 : Int)))
def spec_l3high.Q (w : World) (F : Nat → Prop) (r : (List Int)) (v : Value) (w' : World) : Prop :=
 FO Ye w w' [v] r ∧ Ky [] w w'
theorem spec_l3high.calls (a0 : Int) (w : World) (F : Nat → Prop)   (r : (List Int)) (m : spec_l3high.f a0 = some r) :
  Calls prog 118 #[(.int .u64 a0)] w (RT (spec_l3high.Q w F) r) := by
 obtain ⟨s0, rfl, kp0, z⟩ := Xg w F
 refine Xd (args := [(.int .u64 a0)]) func118 ntmps118 rfl rfl m ?_
 unfold spec_l3high.f
 refine sr (Xb rfl (dn (sr (Xb rfl (dn (sq (sr (Xb rfl (dn (bl (lpI (fun (x1 : (List Int) × Int) e w => ∃ (s : St) (e0 : Env) (vx1_0 : Value), w = s.w ∧ e = upd (upd (upd e0 0 (.int .u64 a0)) 3 vx1_0) 4 (iI x1.2) ∧ Kp s0 s ∧ OwF Ye s [vx1_0] x1.1 40) ⟨s0, _, (.slice none 0 0), rfl, (ue (ue (ue rfl rfl) rfl) rfl), kp0, (ow_nil 5 (Kd.int .u8) _ 40)⟩ (fun g1 ih1 => ?_))))))))))))
 rintro x1 _ _ ⟨s2, _, vx1_0, rfl, rfl, Kx1, Ax1_0⟩
 unfold spec_l3high.b0
 refine sq (sr (Xb rfl (Xb rfl (dn (cd rfl (fun h4 => ?_) (fun h4 => ?_))))))
 ·
  refine sk (sq (bl (rg (Xl vx1_0 rfl (Xb rfl (Xb rfl (Xb rfl (cv' u115 u3 rfl (shr_ rfl rfl rfl rfl rfl rfl rfl (Xb rfl (cv' u5 u103 rfl (ltF' (K := (Kd.int .u8)) (cells := [(.int .u8 (IntKind.wrap .u8 (iand .u64 (ishr .u64 a0 (IntKind.wrap .u64 (IntKind.wrap .i64 ((8 : Int) * x1.2)))) (255 : Int))))]) [(IntKind.wrap .u8 (iand .u64 (ishr .u64 a0 (IntKind.wrap .u64 (IntKind.wrap .i64 ((8 : Int) * x1.2)))) (255 : Int)))] 41 Xq u45 z5 o5 (fun w => (Xv _ _ _)) rfl (fun v5 s5 p5 A5 => ?_)))))))))))))
  refine apF Xq sl45 (Ax1_0.st p5 rfl) A5.rd rfl rfl rfl rfl rfl rfl rfl (fun v8 s8 p8 A8 => ?_)
  refine Xp v8 rfl (dn (ib (rg (Xb rfl (Xb rfl (Xb rfl (dn ?_)))))))
  exact lb ih1 ⟨s8, _, v8, rfl, (ue (ue (ue rfl rfl) rfl) rfl), (Kx1.st (Xs p5 p8) rfl), A8⟩
 exact xt rfl (sgb (sr (Xl vx1_0 rfl (Xp vx1_0 rfl (dn (re rfl func118 rfl (Xo rfl Xe) rfl ⟨_, rfl, Ax1_0.fo Kx1 rfl z.l, z.ky Kx1⟩))))))
def spec_l3bytes.f (a0 : Item) (a1 : Int) : Option ((List Int)) :=
 (if (a0.Kind == (1 : Int)) = true then ((spec_l3high.f (ixor .u64 (IntKind.wrap .u64 a0.N) (9223372036854775808 : Int))).bind fun r8 => (if ([(IntKind.wrap .u8 a0.Kind)]).length + r8.length ≤ Lim then (some ([(IntKind.wrap .u8 a0.Kind)] ++ r8)) else none)) else (if (a0.Kind == (2 : Int)) = true then ((spec_l3high.f a1).bind fun r16 => (if ([(IntKind.wrap .u8 a0.Kind)]).length + r16.length ≤ Lim then (some ([(IntKind.wrap .u8 a0.Kind)] ++ r16)) else none)) else (if ([(IntKind.wrap .u8 a0.Kind)]).length + a0.T.length ≤ Lim then (some ([(IntKind.wrap .u8 a0.Kind)] ++ a0.T)) else none)))
def spec_l3bytes.Q (w : World) (F : Nat → Prop) (r : (List Int)) (v : Value) (w' : World) : Prop :=
 FO Ye w w' [v] r ∧ Ky [] w w'
theorem spec_l3bytes.calls (a0 : Item) (a1 : Int) (w : World) (F : Nat → Prop) (w0_0 : Value) (w0_1 : Value) (h0_0 : Kd.flt.rd w [w0_0] a0.F F) (h0_1 : Ye.rd w [w0_1] a0.T F) (r : (List Int)) (m : spec_l3bytes.f a0 a1 = some r) :
  Calls prog 103 #[(.agg #[(iI a0.Kind), (iI a0.N), w0_0, w0_1]), (.int .u64 a1)] w (RT (spec_l3bytes.Q w F) r) := by
 obtain ⟨s0, rfl, kp0, z⟩ := Xg w F
 refine Xd (args := [(.agg #[(iI a0.Kind), (iI a0.N), w0_0, w0_1]), (.int .u64 a1)]) func103 ntmps103 rfl rfl m ?_
 unfold spec_l3bytes.f
 refine sr (bx' (cs := [(iI a0.Kind), (iI a0.N), w0_0, w0_1]) 40 rfl rfl (fun b2 s2 p2 B2 => ?_))
 refine Xb rfl (dn (sr (Xr fa47_0 rfl (ld' B2 u3 rfl (cv' u5 u3 rfl (ltF' (K := (Kd.int .u8)) (cells := [(.int .u8 (IntKind.wrap .u8 a0.Kind))]) [(IntKind.wrap .u8 a0.Kind)] 41 Xq u45 z5 o5 (fun w => (Xv _ _ _)) rfl (fun v4 s4 p4 A4 => ?_)))))))
 refine Xp v4 rfl (dn (sq (sr (Xr fa47_0 rfl ?_))))
 have A6 := B2.st p4 rfl
 refine ld' A6 u3 rfl (dn (bl (sr (Xb rfl (Xb rfl (dn (cd rfl (fun h7 => ?_) (fun h7 => ?_))))))))
 ·
  refine sr (Xl v4 rfl (Xr fa47_1 rfl (ld' A6 u3 rfl (cv' u103 u3 rfl (Xb rfl (clO 42 rfl func118 rfl (spec_l3high.calls (ixor .u64 (IntKind.wrap .u64 a0.N) (9223372036854775808 : Int)) s4.w (mm [] s4)) (fun r8 v8_0 s9 p9 A8_0 => ?_)))))))
  refine apF Xq sl45 (A4.st p9 rfl) A8_0.rd rfl rfl rfl rfl rfl rfl rfl (fun v12 s12 p12 A12 => ?_)
  refine Xp v12 rfl (dn ?_)
  have K14 := kp0.st (tr4 p2 p4 p9 p12) rfl
  exact re rfl func103 rfl (Xo rfl Xe) rfl ⟨_, rfl, A12.fo K14 rfl z.l, z.ky K14⟩
 refine sr (Xb rfl (Xb rfl (dn (cd rfl (fun h15 => ?_) (fun h15 => ?_)))))
 ·
  refine sr (Xl v4 rfl (Xb rfl (clO 43 rfl func118 rfl (spec_l3high.calls a1 s4.w (mm [] s4)) (fun r16 v16_0 s17 p17 A16_0 => ?_))))
  refine apF Xq sl45 (A4.st p17 rfl) A16_0.rd rfl rfl rfl rfl rfl rfl rfl (fun v20 s20 p20 A20 => ?_)
  refine Xp v20 rfl (dn ?_)
  have K22 := kp0.st (tr4 p2 p4 p17 p20) rfl
  exact re rfl func103 rfl (Xo rfl Xe) rfl ⟨_, rfl, A20.fo K22 rfl z.l, z.ky K22⟩
 refine sk (ib (sr (Xl v4 rfl (Xr fa47_3 rfl (ld' A6 u45 rfl ?_)))))
 have K23 := kp0.st (Xs p2 p4) rfl
 refine apF Xq sl45 A4 ((z.rd h0_1).kp K23) rfl rfl rfl rfl rfl rfl rfl (fun v25 s25 p25 A25 => ?_)
 refine Xp v25 rfl (dn ?_)
 have K27 := K23.st p25 rfl
 exact re rfl func103 rfl (Xo rfl Xe) rfl ⟨_, rfl, A25.fo K27 rfl z.l, z.ky K27⟩
def spec_KeyBytes.f (a0 : Item) : Option ((List Int)) :=
 ((spec_KeyOk.f a0).bind fun r6 => (if (!r6) = true then (some ([] : (List Int))) else ((spec_FloatRank.f a0.F).bind fun r19 => ((spec_l3bytes.f a0 r19).bind fun r25 => (some r25)))))
def spec_KeyBytes.Q (w : World) (F : Nat → Prop) (r : (List Int)) (v : Value) (w' : World) : Prop :=
 FO Ye w w' [v] r ∧ Ky [] w w'
theorem spec_KeyBytes.calls (a0 : Item) (w : World) (F : Nat → Prop) (w0_0 : Value) (w0_1 : Value) (h0_0 : Kd.flt.rd w [w0_0] a0.F F) (h0_1 : Ye.rd w [w0_1] a0.T F) (r : (List Int)) (m : spec_KeyBytes.f a0 = some r) :
  Calls prog 81 #[(.agg #[(iI a0.Kind), (iI a0.N), w0_0, w0_1])] w (RT (spec_KeyBytes.Q w F) r) := by
 obtain ⟨s0, rfl, kp0, z⟩ := Xg w F
 have A0_0 := fl_of h0_0
 have A0_1 := z.rd h0_1
 refine Xd (args := [(.agg #[(iI a0.Kind), (iI a0.N), w0_0, w0_1])]) func81 ntmps81 rfl rfl m ?_
 unfold spec_KeyBytes.f
 refine sr (bx' (cs := [(iI a0.Kind), (iI a0.N), w0_0, w0_1]) 40 rfl rfl (fun b2 s2 p2 B2 => ?_))
 refine Xb rfl (dn (sq (sr (Yc (es := [(iI a0.Kind), (iI a0.N), w0_0, w0_1]) B2 u47 z47 rfl ?_))))
 have K4 := kp0.st p2 rfl
 refine clV 41 rfl func102 rfl (spec_KeyOk.calls a0 s2.w (mm [0] s2) w0_0 w0_1 ((Xn (s := s2) A0_0).sub (D := [0]) rfl) (A0_1.kp K4)) (fun r6 s7 p7 n7 => ?_)
 refine Xb rfl (dn (cd rfl (fun h8 => ?_) (fun h8 => ?_)))
 ·
  refine sr (Xb rfl (dn ?_))
  have K9 := K4.st p7 rfl
  exact re rfl func81 rfl (Xo rfl Xe) rfl ⟨_, rfl, (ow_nil 5 (Kd.int .u8) s7 40).fo K9 rfl z.l, z.ky K9⟩
 refine sk (sq (zdraw [[], [], [1], [2], [0, 3, 3], [4, 4, 0, 1, 2, 3, 4]] [some 6, some 7, some 8, some 9, some 10, some 2] [[1], [1], [7], [8], [6, 9], [10]] [0, 1, 2, 3, 4, 5] ⟨by kernel_rfl, by kernel_rfl, by kernel_rfl⟩ (by kernel_rfl) (fun s10 p10 l10 tb10 zd10 => ?_)))
 refine zstep 3 [some 6] tb10 (((zd10.add 0 6 (.agg #[(iI a0.Kind), (iI a0.N), w0_0, w0_1]) rfl).add 1 7 (pO b2 2) rfl).add 2 8 w0_0 rfl) (Xa (Xz (B2.st (Xs p7 p10) rfl) u44 rfl) rfl (Xa (Xx fa47_2 rfl) rfl (Xa (lda_q (es := [(iI a0.Kind), (iI a0.N), w0_0, w0_1]) (B2.st (Xs p7 p10) rfl) u47 z47 rfl rfl rfl rfl rfl rfl rfl rfl) rfl Xk))) (by kernel_rfl) rfl (fun l16 e16 zd16 => ?_)
 refine clV 42 rfl func87 rfl (spec_FloatRank.calls a0.F s10.w (mm [] s10) w0_0 (Xn (s := s10) A0_0)) (fun r19 s20 p20 n20 => ?_)
 refine Xy (L' := [0]) (D' := [1, 2, 3]) zd16 rfl rfl rfl (fun zd21 => ?_)
 refine zfin [4, 5] tb10 zd21 (Xa (lda_q (es := [(iI a0.Kind), (iI a0.N), w0_0, w0_1]) (B2.st (tr3 p7 p10 p20) rfl) u47 z47 rfl rfl rfl rfl rfl rfl rfl rfl) rfl Xk) (by kernel_rfl) (by decide) ?_
 have K23 := K4.st (tr3 p7 p10 p20) rfl
 refine clO 43 rfl func103 rfl (spec_l3bytes.calls a0 r19 s20.w (mm [0] s20) w0_0 w0_1 ((Xn (s := s20) A0_0).sub (D := [0]) rfl) (A0_1.kp K23)) (fun r25 v25_0 s26 p26 A25_0 => ?_)
 refine Xp v25_0 rfl (dn ?_)
 have K28 := K23.st p26 rfl
 exact re rfl func81 rfl (Xo rfl Xe) rfl ⟨_, rfl, A25_0.fo K28 rfl z.l, z.ky K28⟩
def spec_KeyRead.f (a0 : (List Int)) : Option (Item × Bool) :=
 (if ((decide ((a0.length : Int) < (1 : Int))) || (decide ((a0.length : Int) > (41 : Int)))) = true then (some ((Item.mk (0 : Int) (0 : Int) (0 : Nat) ([] : (List Int))), false)) else (if 0 ≤ (0 : Int) ∧ (0 : Int) < (a0.length : Int) then ((if ((IntKind.wrap .i64 (at_ a0 (0 : Int))) == (1 : Int)) = true then (if 0 ≤ (1 : Int) ∧ (1 : Int) ≤ (a0.length : Int) then ((spec_l3low.f (a0.drop ((1 : Int)).toNat)).bind fun r26 => (some ((IntKind.wrap .i64 (ixor .u64 r26 (9223372036854775808 : Int))), (0 : Nat), ([] : (List Int))))) else none) else ((if ((IntKind.wrap .i64 (at_ a0 (0 : Int))) == (2 : Int)) = true then (if 0 ≤ (1 : Int) ∧ (1 : Int) ≤ (a0.length : Int) then ((spec_l3low.f (a0.drop ((1 : Int)).toNat)).bind fun r39 => ((spec_FloatUnrank.f r39).bind fun r41 => (some (r41.1, ([] : (List Int)))))) else none) else ((if ((IntKind.wrap .i64 (at_ a0 (0 : Int))) == (3 : Int)) = true then (if 0 ≤ (1 : Int) ∧ (1 : Int) ≤ (a0.length : Int) then (if ([] : (List Int)).length + (a0.drop ((1 : Int)).toNat).length ≤ Lim then (some (([] : (List Int)) ++ (a0.drop ((1 : Int)).toNat))) else none) else none) else (some ([] : (List Int)))).bind fun y48 => (some ((0 : Nat), y48)))).bind fun y33 => (some ((0 : Int), y33.1, y33.2)))).bind fun y20 => ((spec_KeyBytes.f (Item.mk (IntKind.wrap .i64 (at_ a0 (0 : Int))) y20.1 y20.2.1 y20.2.2)).bind fun r90 => (if (!((str r90).toList == (str a0).toList)) = true then (some ((Item.mk (0 : Int) (0 : Int) (0 : Nat) ([] : (List Int))), false)) else (some ((Item.mk (IntKind.wrap .i64 (at_ a0 (0 : Int))) y20.1 y20.2.1 y20.2.2), true))))) else none))
def spec_KeyRead.Q (w : World) (F : Nat → Prop) (r : Item × Bool) (v : Value) (w' : World) : Prop :=
 ∃ (v0 : Value) (v1 : Value), v = .tuple #[(.agg #[(iI r.1.Kind), (iI r.1.N), v0, v1]), (.bool r.2)] ∧ FO kd47 w w' [(iI r.1.Kind), (iI r.1.N), v0, v1] r.1 ∧ Ky [] w w'
theorem spec_KeyRead.calls (a0 : (List Int)) (w : World) (F : Nat → Prop) (w0_0 : Value) (h0_0 : Ye.rd w [w0_0] a0 F) (r : Item × Bool) (m : spec_KeyRead.f a0 = some r) :
  Calls prog 55 #[w0_0] w (RT (spec_KeyRead.Q w F) r) := by
 obtain ⟨s0, rfl, kp0, z⟩ := Xg w F
 have A0_0 := z.rd h0_0
 refine Xd (args := [w0_0]) func55 ntmps55 rfl rfl m ?_
 unfold spec_KeyRead.f
 refine sr (al' (cs := [(iI 0), (iI 0), (.float .f64 0), (.slice none 0 0)]) 40 rfl o47 rfl (fun b2 s2 p2 B2 => ?_))
 refine Xb rfl (dn (sr (al' (cs := [(iI 0), (iI 0), (.float .f64 0), (.slice none 0 0)]) 41 rfl o47 rfl (fun b4 s4 p4 B4 => ?_))))
 refine dn (sq (sr (Xl w0_0 rfl ?_)))
 have K6 := kp0.st (Xs p2 p4) rfl
 have A7 := A0_0.kp K6
 refine ln' A7 u45 rfl (Xb rfl (Xb rfl (jy [8, 9, 10, 11, 12] [] 12 (.bool ((decide ((a0.length : Int) < (1 : Int))) || (decide ((a0.length : Int) > (41 : Int))))) rfl (fun Kg8 => ?_) (fun j8 => ?_))))
 ·
  rcases bft (decide ((a0.length : Int) < (1 : Int))) with hb8 | hb8
  ·
   exact Xu hb8 (Xh rfl (Xh rfl (Xh rfl (Xb rfl (Kg8 _ (Ag.put ((Ag.put ((Ag.put ((Ag.put (Ag.base rfl) rfl)) rfl)) rfl)) rfl) (by rw [hb8]; rfl))))))
  exact Xu hb8 (Xl w0_0 rfl (ln' A7 u45 rfl (Xb rfl (Xb rfl (Kg8 _ (Ag.put ((Ag.put ((Ag.put ((Ag.put (Ag.base rfl) rfl)) rfl)) rfl)) rfl) (by rw [hb8]; rfl))))))
 refine dn (cd rfl (fun h9 => ?_) (fun h9 => ?_))
 ·
  refine sr (Yc (es := [(iI 0), (iI 0), (.float .f64 0), (.slice none 0 0)]) B4 u47 z47 rfl ?_)
  refine sva' (vs := [(iI 0), (iI 0), (.float .f64 0), (.slice none 0 0)]) (B2.st p4 rfl) z47 rfl (Xc rfl (Xc rfl (Xc (FL.one (Xw rfl)) (Xc rfl Xt)))) rfl (fun s11 p11 B11 => ?_)
  refine Xb rfl (dn ?_)
  have A13 : OwF kd47 s11 [(iI 0), (iI 0), (.float .f64 0), (.slice none 0 0)] (Item.mk (0 : Int) (0 : Int) (0 : Nat) ([] : (List Int))) 42 := ow_z _ _ (fz_iso (fun x : Item => (x.Kind, x.N, x.F, x.T)) (Item.mk (0 : Int) (0 : Int) (0 : Nat) ([] : (List Int))) (Xj (Xi .i64 (0 : Int)) (Xj (Xi .i64 (0 : Int)) (Xj (Ya (Xw rfl)) (fz_nil 5 (Kd.int .u8))))))
  have K15 := K6.st p11 rfl
  exact re rfl func55 rfl (r_b B11 u47 rfl z47 rfl (Xo rfl Xe)) rfl ⟨_, rfl, (.float .f64 0), (.slice none 0 0), rfl, A13.fo K15 rfl z.l, z.ky K15⟩
 refine sk (sr (Xl w0_0 rfl (ix' A7 u45 z5 rfl (fun ad16 es16 h0_16 h1_16 he16 ce16 ia16 => ?_))))
 obtain rfl := he16
 refine lc0' ce16 u5 rfl (cv' u3 u5 rfl (Xr fa47_0 rfl (sv B4 z3 rfl rfl rfl rfl rfl rfl rfl rfl (fun s18 p18 B18 => ?_))))
 refine dn (sq (sr (Xr fa47_0 rfl (ld' B18 u3 rfl (dn (bl (sr (Xb rfl (Xb rfl (dn (jc (fun (y20 : Int × Nat × (List Int)) e w => ∃ (s : St) (e0 : Env) (vy20_0 uy20_0 : Value), w = s.w ∧ e = upd (upd (upd e0 0 w0_0) 2 (pB b2)) 4 (pB b4) ∧ Kp s0 s ∧ OwF Ye s [vy20_0] y20.2.2 46 ∧ FL uy20_0 y20.2.1 ∧ BlF s b4 47 [(iI (IntKind.wrap .i64 (at_ a0 (0 : Int)))), (iI y20.1), uy20_0, vy20_0] 41 ∧ BlF s b2 47 [(iI 0), (iI 0), (.float .f64 0), (.slice none 0 0)] 40) (fun Gj20 Kj20 => ?_) ?_)))))))))))
 ·
  refine cd rfl (fun h21 => ?_) (fun h21 => ?_)
  ·
   refine rg (Xl w0_0 rfl ?_)
   have K22 := K6.st p18 rfl
   refine sla (A0_0.kp K22) u45 z5 rfl rfl rfl rfl rfl rfl rfl (fun v24 A24 => ?_)
   refine clV 43 rfl func79 rfl (spec_l3low.calls (a0.drop ((1 : Int)).toNat) s18.w (mm [0] s18) v24 A24) (fun r26 s27 p27 n27 => ?_)
   refine Xb rfl (cv' u3 u103 rfl (Xr fa47_1 rfl ?_))
   refine sv (B18.st p27 rfl) z3 rfl rfl rfl rfl rfl rfl rfl rfl (fun s29 p29 B29 => ?_)
   exact dn (Kj20 _ _ _ ⟨s29, _, (.slice none 0 0), (.float .f64 0), rfl, (ue (ue (ue rfl rfl) rfl) rfl), (K22.st (Xs p27 p29) rfl), (ow_nil 5 (Kd.int .u8) _ 46), (Xw rfl), B29, (B2.st (tr4 p4 p18 p27 p29) rfl)⟩)
  refine sr (Xb rfl (Xb rfl (dn (jc (fun (y33 : Nat × (List Int)) e w => ∃ (s : St) (e0 : Env) (vy33_0 uy33_0 : Value), w = s.w ∧ e = upd (upd (upd e0 0 w0_0) 2 (pB b2)) 4 (pB b4) ∧ Kp s0 s ∧ OwF Ye s [vy33_0] y33.2 46 ∧ FL uy33_0 y33.1 ∧ BlF s b4 47 [(iI (IntKind.wrap .i64 (at_ a0 (0 : Int)))), (iI 0), uy33_0, vy33_0] 41 ∧ BlF s b2 47 [(iI 0), (iI 0), (.float .f64 0), (.slice none 0 0)] 40) (fun Gj33 Kj33 => ?_) ?_))))
  ·
   refine cd rfl (fun h34 => ?_) (fun h34 => ?_)
   ·
    refine rg (Xl w0_0 rfl ?_)
    have K35 := K6.st p18 rfl
    refine sla (A0_0.kp K35) u45 z5 rfl rfl rfl rfl rfl rfl rfl (fun v37 A37 => ?_)
    refine clV 44 rfl func79 rfl (spec_l3low.calls (a0.drop ((1 : Int)).toNat) s18.w (mm [0] s18) v37 A37) (fun r39 s40 p40 n40 => ?_)
    refine cl' rfl func80 rfl (spec_FloatUnrank.calls r39 s40.w (mm [] s40)) ?_
    rintro r41 _ w41 m41 ⟨v41_0, rfl, f41_0, ky41⟩
    obtain ⟨s42, rfl, p42, n42⟩ := nwx s40 w41 45 ky41
    refine Xb rfl (Xb (v := v41_0) rfl (Xb (v := (.bool r41.2)) rfl (Xr fa47_2 rfl ?_)))
    refine sv (B18.st (Xs p40 p42) rfl) z44 rfl rfl rfl rfl rfl rfl (FL.one f41_0) rfl (fun s44 p44 B44 => ?_)
    exact dn (Kj33 _ _ _ ⟨s44, _, (.slice none 0 0), v41_0, rfl, (ue (ue (ue rfl rfl) rfl) rfl), (K35.st (tr3 p40 p42 p44) rfl), (ow_nil 5 (Kd.int .u8) _ 46), f41_0, B44, (B2.st (tr5 p4 p18 p40 p42 p44) rfl)⟩)
   refine sr (Xb rfl (Xb rfl (dn (jc (fun (y48 : (List Int)) e w => ∃ (s : St) (e0 : Env) (vy48_0 : Value), w = s.w ∧ e = upd (upd (upd e0 0 w0_0) 2 (pB b2)) 4 (pB b4) ∧ Kp s0 s ∧ OwF Ye s [vy48_0] y48 46 ∧ BlF s b4 47 [(iI (IntKind.wrap .i64 (at_ a0 (0 : Int)))), (iI 0), (.float .f64 0), vy48_0] 41 ∧ BlF s b2 47 [(iI 0), (iI 0), (.float .f64 0), (.slice none 0 0)] 40) (fun Gj48 Kj48 => ?_) ?_))))
   ·
    refine cd rfl (fun h49 => ?_) (fun h49 => ?_)
    ·
     refine rg (lt0 (K := (Kd.int .u8)) 46 u45 z5 rfl rfl rfl rfl rfl (fun v50 s50 p50 A50 => ?_))
     refine Xl w0_0 rfl ?_
     have K52 := K6.st (Xs p18 p50) rfl
     refine sla (A0_0.kp K52) u45 z5 rfl rfl rfl rfl rfl rfl rfl (fun v54 A54 => ?_)
     refine apF Xq sl45 A50 A54 rfl rfl rfl rfl rfl rfl rfl (fun v56 s56 p56 A56 => ?_)
     refine Xr fa47_3 rfl (sv (B18.st (Xs p50 p56) rfl) z45 rfl rfl rfl rfl rfl rfl A56.rd.one rfl (fun s59 p59 B59 => ?_))
     exact dn (Kj48 _ _ _ ⟨s59, _, v56, rfl, (ue (ue (ue rfl rfl) rfl) rfl), (K52.st (Xs p56 p59) rfl), (A56.st p59 rfl), B59, (B2.st (tr5 p4 p18 p50 p56 p59) rfl)⟩)
    exact sk (Kj48 _ _ _ ⟨s18, _, (.slice none 0 0), rfl, (ue (ue (ue rfl rfl) rfl) rfl), (K6.st p18 rfl), (ow_nil 5 (Kd.int .u8) _ 46), B18, (B2.st (Xs p4 p18) rfl)⟩)
   rintro y48 _ _ ⟨s66, _, vy48_0, rfl, rfl, Ky48, Ay48_0, By48_b4, By48_b2⟩
   exact Kj33 _ _ _ ⟨s66, _, vy48_0, (.float .f64 0), rfl, (ue (ue (ue rfl rfl) rfl) rfl), Ky48, Ay48_0, (Xw rfl), By48_b4, By48_b2⟩
  rintro y33 _ _ ⟨s70, _, vy33_0, uy33_0, rfl, rfl, Ky33, Ay33_0, Fy33_0, By33_b4, By33_b2⟩
  exact Kj20 _ _ _ ⟨s70, _, vy33_0, uy33_0, rfl, (ue (ue (ue rfl rfl) rfl) rfl), Ky33, Ay33_0, Fy33_0, By33_b4, By33_b2⟩
 rintro y20 _ _ ⟨s74, _, vy20_0, uy20_0, rfl, rfl, Ky20, Ay20_0, Fy20_0, By20_b4, By20_b2⟩
 refine ib (sq (sq (zdraw [[], [0], [1], [], [3], [2, 4]] [some 46, some 47, some 48, some 49, some 50, some 51] [[4], [46], [47], [0], [49], [48, 50]] [0, 1, 2, 3, 4, 5] ⟨by kernel_rfl, by kernel_rfl, by kernel_rfl⟩ (by kernel_rfl) (fun s78 p78 l78 tb78 zd78 => ?_))))
 refine zstep 1 [some 50, some 49] tb78 (((zd78.add 0 46 (.agg #[(iI (IntKind.wrap .i64 (at_ a0 (0 : Int)))), (iI y20.1), uy20_0, vy20_0]) rfl).add 3 49 w0_0 rfl).add 4 50 (.string (str a0)) rfl) (Xa (b2s_q (A0_0.kp (Ky20.st p78 rfl)) u45 u9 u5 rfl rfl rfl rfl rfl rfl) rfl (Xa (Xf w0_0 rfl) rfl (Xa (lda_q (es := [(iI (IntKind.wrap .i64 (at_ a0 (0 : Int)))), (iI y20.1), uy20_0, vy20_0]) (By20_b4.st p78 rfl) u47 z47 rfl rfl rfl rfl rfl rfl rfl rfl) rfl Xk))) (by kernel_rfl) rfl (fun l85 e85 zd85 => ?_)
 have A89 := Ay20_0.st p78 rfl
 refine clO 47 rfl func81 rfl (spec_KeyBytes.calls (Item.mk (IntKind.wrap .i64 (at_ a0 (0 : Int))) y20.1 y20.2.1 y20.2.2) s78.w (mm [46] s78) uy20_0 vy20_0 ((Xn (s := s78) Fy20_0).sub (D := [46]) rfl) A89.rd) (fun r90 v90_0 s91 p91 A90_0 => ?_)
 refine Xy (L' := [4, 3]) (D' := [0, 1]) zd85 rfl rfl rfl (fun zd93 => ?_)
 refine zfin [5] tb78 (zd93.add 2 48 (.string (str r90)) rfl) (Xa (b2s_q A90_0.rd u45 u9 u5 rfl rfl rfl rfl rfl rfl) rfl (Xa (b2s_q (A0_0.kp (Ky20.st (Xs p78 p91) rfl)) u45 u9 u5 rfl rfl rfl rfl rfl rfl) rfl (Xa (Xf w0_0 rfl) rfl Xk))) (by kernel_rfl) (by decide) (Xb rfl (dn (cd rfl (fun h97 => ?_) (fun h97 => ?_))))
 ·
  refine sr (bd (cells := [(iI 0), (iI 0), (.float .f64 0), (.slice none 0 0)]) pl47 o47 rfl rfl rfl rfl rfl rfl ?_)
  refine sva' (vs := [(iI 0), (iI 0), (.float .f64 0), (.slice none 0 0)]) (By20_b2.st (Xs p78 p91) rfl) z47 rfl (Xc rfl (Xc rfl (Xc (FL.one (Xw rfl)) (Xc rfl Xt)))) rfl (fun s99 p99 B99 => ?_)
  refine Xb rfl (dn ?_)
  have A101 : OwF kd47 s99 [(iI 0), (iI 0), (.float .f64 0), (.slice none 0 0)] (Item.mk (0 : Int) (0 : Int) (0 : Nat) ([] : (List Int))) 48 := ow_z _ _ (fz_iso (fun x : Item => (x.Kind, x.N, x.F, x.T)) (Item.mk (0 : Int) (0 : Int) (0 : Nat) ([] : (List Int))) (Xj (Xi .i64 (0 : Int)) (Xj (Xi .i64 (0 : Int)) (Xj (Ya (Xw rfl)) (fz_nil 5 (Kd.int .u8))))))
  have K103 := Ky20.st (tr3 p78 p91 p99) rfl
  exact re rfl func55 rfl (r_b B99 u47 rfl z47 rfl (Xo rfl Xe)) rfl ⟨_, rfl, (.float .f64 0), (.slice none 0 0), rfl, A101.fo K103 rfl z.l, z.ky K103⟩
 refine sk (sr ?_)
 refine Yc (es := [(iI (IntKind.wrap .i64 (at_ a0 (0 : Int)))), (iI y20.1), uy20_0, vy20_0]) (By20_b4.st (Xs p78 p91) rfl) u47 z47 rfl ?_
 have A106 := A89.st p91 rfl
 refine sva' (vs := [(iI (IntKind.wrap .i64 (at_ a0 (0 : Int)))), (iI y20.1), uy20_0, vy20_0]) (By20_b2.st (Xs p78 p91) rfl) z47 rfl (Xc rfl (Xc rfl (Xc (FL.one Fy20_0) (Xc A106.rd.one Xt)))) rfl (fun s107 p107 B107 => ?_)
 refine Xb rfl (dn ?_)
 have A109 : OwF kd47 s107 [(iI (IntKind.wrap .i64 (at_ a0 (0 : Int)))), (iI y20.1), uy20_0, vy20_0] (Item.mk (IntKind.wrap .i64 (at_ a0 (0 : Int))) y20.1 y20.2.1 y20.2.2) 46 := (Yd (fun x : Item => (x.Kind, x.N, x.F, x.T)) (Item.mk (IntKind.wrap .i64 (at_ a0 (0 : Int))) y20.1 y20.2.1 y20.2.2) (ow_l (Xi .i64 (IntKind.wrap .i64 (at_ a0 (0 : Int)))) (ow_l (Xi .i64 y20.1) (ow_l (Ya Fy20_0) (A106.st p107 rfl)))))
 have K112 := Ky20.st (tr3 p78 p91 p107) rfl
 exact re rfl func55 rfl (r_b B107 u47 rfl z47 rfl (Xo rfl Xe)) rfl ⟨_, rfl, uy20_0, vy20_0, rfl, A109.fo K112 rfl z.l, z.ky K112⟩
def spec_ValueBytes.f (a0 : Item) : Option ((List Int)) :=
 ((spec_ItemOk.f a0).bind fun r6 => (if ((!r6) || (a0.Kind == (0 : Int))) = true then (some ([] : (List Int))) else ((spec_FloatBits.f a0.F).bind fun r21 => ((spec_l3bytes.f a0 r21).bind fun r27 => (some r27)))))
def spec_ValueBytes.Q (w : World) (F : Nat → Prop) (r : (List Int)) (v : Value) (w' : World) : Prop :=
 FO Ye w w' [v] r ∧ Ky [] w w'
theorem spec_ValueBytes.calls (a0 : Item) (w : World) (F : Nat → Prop) (w0_0 : Value) (w0_1 : Value) (h0_0 : Kd.flt.rd w [w0_0] a0.F F) (h0_1 : Ye.rd w [w0_1] a0.T F) (r : (List Int)) (m : spec_ValueBytes.f a0 = some r) :
  Calls prog 83 #[(.agg #[(iI a0.Kind), (iI a0.N), w0_0, w0_1])] w (RT (spec_ValueBytes.Q w F) r) := by
 obtain ⟨s0, rfl, kp0, z⟩ := Xg w F
 have A0_0 := fl_of h0_0
 have A0_1 := z.rd h0_1
 refine Xd (args := [(.agg #[(iI a0.Kind), (iI a0.N), w0_0, w0_1])]) func83 ntmps83 rfl rfl m ?_
 unfold spec_ValueBytes.f
 refine sr (bx' (cs := [(iI a0.Kind), (iI a0.N), w0_0, w0_1]) 40 rfl rfl (fun b2 s2 p2 B2 => ?_))
 refine Xb rfl (dn (sq (sr (Yc (es := [(iI a0.Kind), (iI a0.N), w0_0, w0_1]) B2 u47 z47 rfl ?_))))
 have K4 := kp0.st p2 rfl
 refine clV 41 rfl func58 rfl (spec_ItemOk.calls a0 s2.w (mm [0] s2) w0_0 w0_1 ((Xn (s := s2) A0_0).sub (D := [0]) rfl) (A0_1.kp K4)) (fun r6 s7 p7 n7 => ?_)
 refine Xb rfl (Xb rfl (jy [6, 7, 8, 9, 10] [] 10 (.bool ((!r6) || (a0.Kind == (0 : Int)))) rfl (fun Kg8 => ?_) (fun j8 => ?_)))
 ·
  rcases bft (!r6) with hb8 | hb8
  ·
   exact Xu hb8 (Xh rfl (Xh rfl (Xh rfl (Xb rfl (Kg8 _ (Ag.put ((Ag.put ((Ag.put ((Ag.put (Ag.base rfl) rfl)) rfl)) rfl)) rfl) (by rw [hb8]; rfl))))))
  refine Xu hb8 (Xr fa47_0 rfl ?_)
  exact ld' (B2.st p7 rfl) u3 rfl (Xb rfl (Xb rfl (Kg8 _ (Ag.put ((Ag.put ((Ag.put ((Ag.put (Ag.base rfl) rfl)) rfl)) rfl)) rfl) (by rw [hb8]; rfl))))
 refine dn (cd rfl (fun h10 => ?_) (fun h10 => ?_))
 ·
  refine sr (Xb rfl (dn ?_))
  have K11 := K4.st p7 rfl
  exact re rfl func83 rfl (Xo rfl Xe) rfl ⟨_, rfl, (ow_nil 5 (Kd.int .u8) s7 40).fo K11 rfl z.l, z.ky K11⟩
 refine sk (sq (zdraw [[], [], [1], [2], [0, 3, 3], [4, 4, 0, 1, 2, 3, 4]] [some 11, some 12, some 13, some 14, some 15, some 2] [[1], [1], [12], [13], [11, 14], [15]] [0, 1, 2, 3, 4, 5] ⟨by kernel_rfl, by kernel_rfl, by kernel_rfl⟩ (by kernel_rfl) (fun s12 p12 l12 tb12 zd12 => ?_)))
 refine zstep 3 [some 11] tb12 (((zd12.add 0 11 (.agg #[(iI a0.Kind), (iI a0.N), w0_0, w0_1]) rfl).add 1 12 (pO b2 2) rfl).add 2 13 w0_0 rfl) (Xa (Xz (B2.st (Xs p7 p12) rfl) u44 rfl) rfl (Xa (Xx fa47_2 rfl) rfl (Xa (lda_q (es := [(iI a0.Kind), (iI a0.N), w0_0, w0_1]) (B2.st (Xs p7 p12) rfl) u47 z47 rfl rfl rfl rfl rfl rfl rfl rfl) rfl Xk))) (by kernel_rfl) rfl (fun l18 e18 zd18 => ?_)
 refine clV 42 rfl func86 rfl (spec_FloatBits.calls a0.F s12.w (mm [] s12) w0_0 (Xn (s := s12) A0_0)) (fun r21 s22 p22 n22 => ?_)
 refine Xy (L' := [0]) (D' := [1, 2, 3]) zd18 rfl rfl rfl (fun zd23 => ?_)
 refine zfin [4, 5] tb12 zd23 (Xa (lda_q (es := [(iI a0.Kind), (iI a0.N), w0_0, w0_1]) (B2.st (tr3 p7 p12 p22) rfl) u47 z47 rfl rfl rfl rfl rfl rfl rfl rfl) rfl Xk) (by kernel_rfl) (by decide) ?_
 have K25 := K4.st (tr3 p7 p12 p22) rfl
 refine clO 43 rfl func103 rfl (spec_l3bytes.calls a0 r21 s22.w (mm [0] s22) w0_0 w0_1 ((Xn (s := s22) A0_0).sub (D := [0]) rfl) (A0_1.kp K25)) (fun r27 v27_0 s28 p28 A27_0 => ?_)
 refine Xp v27_0 rfl (dn ?_)
 have K30 := K25.st p28 rfl
 exact re rfl func83 rfl (Xo rfl Xe) rfl ⟨_, rfl, A27_0.fo K30 rfl z.l, z.ky K30⟩
def spec_ValueRead.f (a0 : (List Int)) : Option (Item × Bool) :=
 (if ((decide ((a0.length : Int) < (1 : Int))) || (decide ((a0.length : Int) > (41 : Int)))) = true then (some ((Item.mk (0 : Int) (0 : Int) (0 : Nat) ([] : (List Int))), false)) else (if 0 ≤ (0 : Int) ∧ (0 : Int) < (a0.length : Int) then ((if ((IntKind.wrap .i64 (at_ a0 (0 : Int))) == (1 : Int)) = true then (if 0 ≤ (1 : Int) ∧ (1 : Int) ≤ (a0.length : Int) then ((spec_l3low.f (a0.drop ((1 : Int)).toNat)).bind fun r26 => (some ((IntKind.wrap .i64 (ixor .u64 r26 (9223372036854775808 : Int))), (0 : Nat), ([] : (List Int))))) else none) else ((if ((IntKind.wrap .i64 (at_ a0 (0 : Int))) == (2 : Int)) = true then (if 0 ≤ (1 : Int) ∧ (1 : Int) ≤ (a0.length : Int) then ((spec_l3low.f (a0.drop ((1 : Int)).toNat)).bind fun r39 => ((spec_FloatOf.f r39).bind fun r41 => (some (r41, ([] : (List Int)))))) else none) else ((if ((IntKind.wrap .i64 (at_ a0 (0 : Int))) == (3 : Int)) = true then (if 0 ≤ (1 : Int) ∧ (1 : Int) ≤ (a0.length : Int) then (if ([] : (List Int)).length + (a0.drop ((1 : Int)).toNat).length ≤ Lim then (some (([] : (List Int)) ++ (a0.drop ((1 : Int)).toNat))) else none) else none) else (some ([] : (List Int)))).bind fun y48 => (some ((0 : Nat), y48)))).bind fun y33 => (some ((0 : Int), y33.1, y33.2)))).bind fun y20 => ((spec_ValueBytes.f (Item.mk (IntKind.wrap .i64 (at_ a0 (0 : Int))) y20.1 y20.2.1 y20.2.2)).bind fun r90 => (if (!((str r90).toList == (str a0).toList)) = true then (some ((Item.mk (0 : Int) (0 : Int) (0 : Nat) ([] : (List Int))), false)) else (some ((Item.mk (IntKind.wrap .i64 (at_ a0 (0 : Int))) y20.1 y20.2.1 y20.2.2), true))))) else none))
def spec_ValueRead.Q (w : World) (F : Nat → Prop) (r : Item × Bool) (v : Value) (w' : World) : Prop :=
 ∃ (v0 : Value) (v1 : Value), v = .tuple #[(.agg #[(iI r.1.Kind), (iI r.1.N), v0, v1]), (.bool r.2)] ∧ FO kd47 w w' [(iI r.1.Kind), (iI r.1.N), v0, v1] r.1 ∧ Ky [] w w'
theorem spec_ValueRead.calls (a0 : (List Int)) (w : World) (F : Nat → Prop) (w0_0 : Value) (h0_0 : Ye.rd w [w0_0] a0 F) (r : Item × Bool) (m : spec_ValueRead.f a0 = some r) :
  Calls prog 56 #[w0_0] w (RT (spec_ValueRead.Q w F) r) := by
 obtain ⟨s0, rfl, kp0, z⟩ := Xg w F
 have A0_0 := z.rd h0_0
 refine Xd (args := [w0_0]) func56 ntmps56 rfl rfl m ?_
 unfold spec_ValueRead.f
 refine sr (al' (cs := [(iI 0), (iI 0), (.float .f64 0), (.slice none 0 0)]) 40 rfl o47 rfl (fun b2 s2 p2 B2 => ?_))
 refine Xb rfl (dn (sr (al' (cs := [(iI 0), (iI 0), (.float .f64 0), (.slice none 0 0)]) 41 rfl o47 rfl (fun b4 s4 p4 B4 => ?_))))
 refine dn (sq (sr (Xl w0_0 rfl ?_)))
 have K6 := kp0.st (Xs p2 p4) rfl
 have A7 := A0_0.kp K6
 refine ln' A7 u45 rfl (Xb rfl (Xb rfl (jy [8, 9, 10, 11, 12] [] 12 (.bool ((decide ((a0.length : Int) < (1 : Int))) || (decide ((a0.length : Int) > (41 : Int))))) rfl (fun Kg8 => ?_) (fun j8 => ?_))))
 ·
  rcases bft (decide ((a0.length : Int) < (1 : Int))) with hb8 | hb8
  ·
   exact Xu hb8 (Xh rfl (Xh rfl (Xh rfl (Xb rfl (Kg8 _ (Ag.put ((Ag.put ((Ag.put ((Ag.put (Ag.base rfl) rfl)) rfl)) rfl)) rfl) (by rw [hb8]; rfl))))))
  exact Xu hb8 (Xl w0_0 rfl (ln' A7 u45 rfl (Xb rfl (Xb rfl (Kg8 _ (Ag.put ((Ag.put ((Ag.put ((Ag.put (Ag.base rfl) rfl)) rfl)) rfl)) rfl) (by rw [hb8]; rfl))))))
 refine dn (cd rfl (fun h9 => ?_) (fun h9 => ?_))
 ·
  refine sr (Yc (es := [(iI 0), (iI 0), (.float .f64 0), (.slice none 0 0)]) B4 u47 z47 rfl ?_)
  refine sva' (vs := [(iI 0), (iI 0), (.float .f64 0), (.slice none 0 0)]) (B2.st p4 rfl) z47 rfl (Xc rfl (Xc rfl (Xc (FL.one (Xw rfl)) (Xc rfl Xt)))) rfl (fun s11 p11 B11 => ?_)
  refine Xb rfl (dn ?_)
  have A13 : OwF kd47 s11 [(iI 0), (iI 0), (.float .f64 0), (.slice none 0 0)] (Item.mk (0 : Int) (0 : Int) (0 : Nat) ([] : (List Int))) 42 := ow_z _ _ (fz_iso (fun x : Item => (x.Kind, x.N, x.F, x.T)) (Item.mk (0 : Int) (0 : Int) (0 : Nat) ([] : (List Int))) (Xj (Xi .i64 (0 : Int)) (Xj (Xi .i64 (0 : Int)) (Xj (Ya (Xw rfl)) (fz_nil 5 (Kd.int .u8))))))
  have K15 := K6.st p11 rfl
  exact re rfl func56 rfl (r_b B11 u47 rfl z47 rfl (Xo rfl Xe)) rfl ⟨_, rfl, (.float .f64 0), (.slice none 0 0), rfl, A13.fo K15 rfl z.l, z.ky K15⟩
 refine sk (sr (Xl w0_0 rfl (ix' A7 u45 z5 rfl (fun ad16 es16 h0_16 h1_16 he16 ce16 ia16 => ?_))))
 obtain rfl := he16
 refine lc0' ce16 u5 rfl (cv' u3 u5 rfl (Xr fa47_0 rfl (sv B4 z3 rfl rfl rfl rfl rfl rfl rfl rfl (fun s18 p18 B18 => ?_))))
 refine dn (sq (sr (Xr fa47_0 rfl (ld' B18 u3 rfl (dn (bl (sr (Xb rfl (Xb rfl (dn (jc (fun (y20 : Int × Nat × (List Int)) e w => ∃ (s : St) (e0 : Env) (vy20_0 uy20_0 : Value), w = s.w ∧ e = upd (upd (upd e0 0 w0_0) 2 (pB b2)) 4 (pB b4) ∧ Kp s0 s ∧ OwF Ye s [vy20_0] y20.2.2 46 ∧ FL uy20_0 y20.2.1 ∧ BlF s b4 47 [(iI (IntKind.wrap .i64 (at_ a0 (0 : Int)))), (iI y20.1), uy20_0, vy20_0] 41 ∧ BlF s b2 47 [(iI 0), (iI 0), (.float .f64 0), (.slice none 0 0)] 40) (fun Gj20 Kj20 => ?_) ?_)))))))))))
 ·
  refine cd rfl (fun h21 => ?_) (fun h21 => ?_)
  ·
   refine rg (Xl w0_0 rfl ?_)
   have K22 := K6.st p18 rfl
   refine sla (A0_0.kp K22) u45 z5 rfl rfl rfl rfl rfl rfl rfl (fun v24 A24 => ?_)
   refine clV 43 rfl func79 rfl (spec_l3low.calls (a0.drop ((1 : Int)).toNat) s18.w (mm [0] s18) v24 A24) (fun r26 s27 p27 n27 => ?_)
   refine Xb rfl (cv' u3 u103 rfl (Xr fa47_1 rfl ?_))
   refine sv (B18.st p27 rfl) z3 rfl rfl rfl rfl rfl rfl rfl rfl (fun s29 p29 B29 => ?_)
   exact dn (Kj20 _ _ _ ⟨s29, _, (.slice none 0 0), (.float .f64 0), rfl, (ue (ue (ue rfl rfl) rfl) rfl), (K22.st (Xs p27 p29) rfl), (ow_nil 5 (Kd.int .u8) _ 46), (Xw rfl), B29, (B2.st (tr4 p4 p18 p27 p29) rfl)⟩)
  refine sr (Xb rfl (Xb rfl (dn (jc (fun (y33 : Nat × (List Int)) e w => ∃ (s : St) (e0 : Env) (vy33_0 uy33_0 : Value), w = s.w ∧ e = upd (upd (upd e0 0 w0_0) 2 (pB b2)) 4 (pB b4) ∧ Kp s0 s ∧ OwF Ye s [vy33_0] y33.2 46 ∧ FL uy33_0 y33.1 ∧ BlF s b4 47 [(iI (IntKind.wrap .i64 (at_ a0 (0 : Int)))), (iI 0), uy33_0, vy33_0] 41 ∧ BlF s b2 47 [(iI 0), (iI 0), (.float .f64 0), (.slice none 0 0)] 40) (fun Gj33 Kj33 => ?_) ?_))))
  ·
   refine cd rfl (fun h34 => ?_) (fun h34 => ?_)
   ·
    refine rg (Xl w0_0 rfl ?_)
    have K35 := K6.st p18 rfl
    refine sla (A0_0.kp K35) u45 z5 rfl rfl rfl rfl rfl rfl rfl (fun v37 A37 => ?_)
    refine clV 44 rfl func79 rfl (spec_l3low.calls (a0.drop ((1 : Int)).toNat) s18.w (mm [0] s18) v37 A37) (fun r39 s40 p40 n40 => ?_)
    refine cl' rfl func82 rfl (spec_FloatOf.calls r39 s40.w (mm [] s40)) ?_
    rintro r41 v41_0 w41 m41 ⟨f41_0, ky41⟩
    obtain ⟨s42, rfl, p42, n42⟩ := nwx s40 w41 45 ky41
    refine Xr fa47_2 rfl (sv (B18.st (Xs p40 p42) rfl) z44 rfl rfl rfl rfl rfl rfl (FL.one f41_0) rfl (fun s44 p44 B44 => ?_))
    exact dn (Kj33 _ _ _ ⟨s44, _, (.slice none 0 0), v41_0, rfl, (ue (ue (ue rfl rfl) rfl) rfl), (K35.st (tr3 p40 p42 p44) rfl), (ow_nil 5 (Kd.int .u8) _ 46), f41_0, B44, (B2.st (tr5 p4 p18 p40 p42 p44) rfl)⟩)
   refine sr (Xb rfl (Xb rfl (dn (jc (fun (y48 : (List Int)) e w => ∃ (s : St) (e0 : Env) (vy48_0 : Value), w = s.w ∧ e = upd (upd (upd e0 0 w0_0) 2 (pB b2)) 4 (pB b4) ∧ Kp s0 s ∧ OwF Ye s [vy48_0] y48 46 ∧ BlF s b4 47 [(iI (IntKind.wrap .i64 (at_ a0 (0 : Int)))), (iI 0), (.float .f64 0), vy48_0] 41 ∧ BlF s b2 47 [(iI 0), (iI 0), (.float .f64 0), (.slice none 0 0)] 40) (fun Gj48 Kj48 => ?_) ?_))))
   ·
    refine cd rfl (fun h49 => ?_) (fun h49 => ?_)
    ·
     refine rg (lt0 (K := (Kd.int .u8)) 46 u45 z5 rfl rfl rfl rfl rfl (fun v50 s50 p50 A50 => ?_))
     refine Xl w0_0 rfl ?_
     have K52 := K6.st (Xs p18 p50) rfl
     refine sla (A0_0.kp K52) u45 z5 rfl rfl rfl rfl rfl rfl rfl (fun v54 A54 => ?_)
     refine apF Xq sl45 A50 A54 rfl rfl rfl rfl rfl rfl rfl (fun v56 s56 p56 A56 => ?_)
     refine Xr fa47_3 rfl (sv (B18.st (Xs p50 p56) rfl) z45 rfl rfl rfl rfl rfl rfl A56.rd.one rfl (fun s59 p59 B59 => ?_))
     exact dn (Kj48 _ _ _ ⟨s59, _, v56, rfl, (ue (ue (ue rfl rfl) rfl) rfl), (K52.st (Xs p56 p59) rfl), (A56.st p59 rfl), B59, (B2.st (tr5 p4 p18 p50 p56 p59) rfl)⟩)
    exact sk (Kj48 _ _ _ ⟨s18, _, (.slice none 0 0), rfl, (ue (ue (ue rfl rfl) rfl) rfl), (K6.st p18 rfl), (ow_nil 5 (Kd.int .u8) _ 46), B18, (B2.st (Xs p4 p18) rfl)⟩)
   rintro y48 _ _ ⟨s66, _, vy48_0, rfl, rfl, Ky48, Ay48_0, By48_b4, By48_b2⟩
   exact Kj33 _ _ _ ⟨s66, _, vy48_0, (.float .f64 0), rfl, (ue (ue (ue rfl rfl) rfl) rfl), Ky48, Ay48_0, (Xw rfl), By48_b4, By48_b2⟩
  rintro y33 _ _ ⟨s70, _, vy33_0, uy33_0, rfl, rfl, Ky33, Ay33_0, Fy33_0, By33_b4, By33_b2⟩
  exact Kj20 _ _ _ ⟨s70, _, vy33_0, uy33_0, rfl, (ue (ue (ue rfl rfl) rfl) rfl), Ky33, Ay33_0, Fy33_0, By33_b4, By33_b2⟩
 rintro y20 _ _ ⟨s74, _, vy20_0, uy20_0, rfl, rfl, Ky20, Ay20_0, Fy20_0, By20_b4, By20_b2⟩
 refine ib (sq (sq (zdraw [[], [0], [1], [], [3], [2, 4]] [some 43, some 44, some 45, some 46, some 47, some 48] [[4], [43], [44], [0], [46], [45, 47]] [0, 1, 2, 3, 4, 5] ⟨by kernel_rfl, by kernel_rfl, by kernel_rfl⟩ (by kernel_rfl) (fun s78 p78 l78 tb78 zd78 => ?_))))
 refine zstep 1 [some 47, some 46] tb78 (((zd78.add 0 43 (.agg #[(iI (IntKind.wrap .i64 (at_ a0 (0 : Int)))), (iI y20.1), uy20_0, vy20_0]) rfl).add 3 46 w0_0 rfl).add 4 47 (.string (str a0)) rfl) (Xa (b2s_q (A0_0.kp (Ky20.st p78 rfl)) u45 u9 u5 rfl rfl rfl rfl rfl rfl) rfl (Xa (Xf w0_0 rfl) rfl (Xa (lda_q (es := [(iI (IntKind.wrap .i64 (at_ a0 (0 : Int)))), (iI y20.1), uy20_0, vy20_0]) (By20_b4.st p78 rfl) u47 z47 rfl rfl rfl rfl rfl rfl rfl rfl) rfl Xk))) (by kernel_rfl) rfl (fun l85 e85 zd85 => ?_)
 have A89 := Ay20_0.st p78 rfl
 refine clO 47 rfl func83 rfl (spec_ValueBytes.calls (Item.mk (IntKind.wrap .i64 (at_ a0 (0 : Int))) y20.1 y20.2.1 y20.2.2) s78.w (mm [46] s78) uy20_0 vy20_0 ((Xn (s := s78) Fy20_0).sub (D := [46]) rfl) A89.rd) (fun r90 v90_0 s91 p91 A90_0 => ?_)
 refine Xy (L' := [4, 3]) (D' := [0, 1]) zd85 rfl rfl rfl (fun zd93 => ?_)
 refine zfin [5] tb78 (zd93.add 2 45 (.string (str r90)) rfl) (Xa (b2s_q A90_0.rd u45 u9 u5 rfl rfl rfl rfl rfl rfl) rfl (Xa (b2s_q (A0_0.kp (Ky20.st (Xs p78 p91) rfl)) u45 u9 u5 rfl rfl rfl rfl rfl rfl) rfl (Xa (Xf w0_0 rfl) rfl Xk))) (by kernel_rfl) (by decide) (Xb rfl (dn (cd rfl (fun h97 => ?_) (fun h97 => ?_))))
 ·
  refine sr (bd (cells := [(iI 0), (iI 0), (.float .f64 0), (.slice none 0 0)]) pl47 o47 rfl rfl rfl rfl rfl rfl ?_)
  refine sva' (vs := [(iI 0), (iI 0), (.float .f64 0), (.slice none 0 0)]) (By20_b2.st (Xs p78 p91) rfl) z47 rfl (Xc rfl (Xc rfl (Xc (FL.one (Xw rfl)) (Xc rfl Xt)))) rfl (fun s99 p99 B99 => ?_)
  refine Xb rfl (dn ?_)
  have A101 : OwF kd47 s99 [(iI 0), (iI 0), (.float .f64 0), (.slice none 0 0)] (Item.mk (0 : Int) (0 : Int) (0 : Nat) ([] : (List Int))) 48 := ow_z _ _ (fz_iso (fun x : Item => (x.Kind, x.N, x.F, x.T)) (Item.mk (0 : Int) (0 : Int) (0 : Nat) ([] : (List Int))) (Xj (Xi .i64 (0 : Int)) (Xj (Xi .i64 (0 : Int)) (Xj (Ya (Xw rfl)) (fz_nil 5 (Kd.int .u8))))))
  have K103 := Ky20.st (tr3 p78 p91 p99) rfl
  exact re rfl func56 rfl (r_b B99 u47 rfl z47 rfl (Xo rfl Xe)) rfl ⟨_, rfl, (.float .f64 0), (.slice none 0 0), rfl, A101.fo K103 rfl z.l, z.ky K103⟩
 refine sk (sr ?_)
 refine Yc (es := [(iI (IntKind.wrap .i64 (at_ a0 (0 : Int)))), (iI y20.1), uy20_0, vy20_0]) (By20_b4.st (Xs p78 p91) rfl) u47 z47 rfl ?_
 have A106 := A89.st p91 rfl
 refine sva' (vs := [(iI (IntKind.wrap .i64 (at_ a0 (0 : Int)))), (iI y20.1), uy20_0, vy20_0]) (By20_b2.st (Xs p78 p91) rfl) z47 rfl (Xc rfl (Xc rfl (Xc (FL.one Fy20_0) (Xc A106.rd.one Xt)))) rfl (fun s107 p107 B107 => ?_)
 refine Xb rfl (dn ?_)
 have A109 : OwF kd47 s107 [(iI (IntKind.wrap .i64 (at_ a0 (0 : Int)))), (iI y20.1), uy20_0, vy20_0] (Item.mk (IntKind.wrap .i64 (at_ a0 (0 : Int))) y20.1 y20.2.1 y20.2.2) 46 := (Yd (fun x : Item => (x.Kind, x.N, x.F, x.T)) (Item.mk (IntKind.wrap .i64 (at_ a0 (0 : Int))) y20.1 y20.2.1 y20.2.2) (ow_l (Xi .i64 (IntKind.wrap .i64 (at_ a0 (0 : Int)))) (ow_l (Xi .i64 y20.1) (ow_l (Ya Fy20_0) (A106.st p107 rfl)))))
 have K112 := Ky20.st (tr3 p78 p91 p107) rfl
 exact re rfl func56 rfl (r_b B107 u47 rfl z47 rfl (Xo rfl Xe)) rfl ⟨_, rfl, uy20_0, vy20_0, rfl, A109.fo K112 rfl z.l, z.ky K112⟩
def spec_TupleOk.f (a0 : Tuple) : Option (Bool) :=
 ((spec_l5in.f a0.Xmin (1 : Int) (400 : Int)).bind fun r5 => ((if r5 = true then ((spec_l5in.f a0.Xmax (0 : Int) (400 : Int)).bind fun r9 => (some r9)) else (some false)).bind fun y7 => ((if y7 = true then ((spec_KeyOk.f a0.Key).bind fun r19 => (some r19)) else (some false)).bind fun y17 => ((if y17 = true then ((spec_ItemOk.f a0.Value).bind fun r27 => (some r27)) else (some false)).bind fun y25 => (some (y25 && (a0.Value.Kind != (0 : Int))))))))
def spec_TupleOk.Q (w : World) (F : Nat → Prop) (r : Bool) (v : Value) (w' : World) : Prop :=
 v = (.bool r) ∧ Ky [] w w'
theorem spec_TupleOk.calls (a0 : Tuple) (w : World) (F : Nat → Prop) (w0_0 : Value) (w0_1 : Value) (w0_2 : Value) (w0_3 : Value) (h0_0 : Kd.flt.rd w [w0_0] a0.Key.F F) (h0_1 : Ye.rd w [w0_1] a0.Key.T F) (h0_2 : Kd.flt.rd w [w0_2] a0.Value.F F) (h0_3 : Ye.rd w [w0_3] a0.Value.T F) (r : Bool) (m : spec_TupleOk.f a0 = some r) :
  Calls prog 84 #[(.agg #[(iI a0.Xmin), (iI a0.Xmax), (iI a0.Key.Kind), (iI a0.Key.N), w0_0, w0_1, (iI a0.Value.Kind), (iI a0.Value.N), w0_2, w0_3])] w (RT (spec_TupleOk.Q w F) r) := by
 obtain ⟨s0, rfl, kp0, z⟩ := Xg w F
 refine Xd (args := [(.agg #[(iI a0.Xmin), (iI a0.Xmax), (iI a0.Key.Kind), (iI a0.Key.N), w0_0, w0_1, (iI a0.Value.Kind), (iI a0.Value.N), w0_2, w0_3])]) func84 ntmps84 rfl rfl m ?_
 unfold spec_TupleOk.f
 refine sr (bx' (cs := [(iI a0.Xmin), (iI a0.Xmax), (iI a0.Key.Kind), (iI a0.Key.N), w0_0, w0_1, (iI a0.Value.Kind), (iI a0.Value.N), w0_2, w0_3]) 40 rfl rfl (fun b3 s3 p3 B3 => ?_))
 refine Xb rfl (dn (sr (Xr fa49_0 rfl (ld' B3 u3 rfl (clV 41 rfl func35 rfl (spec_l5in.calls a0.Xmin (1 : Int) (400 : Int) s3.w (mm [] s3)) (fun r5 s6 p6 n6 => ?_))))))
 refine Xb rfl (ji [8, 9, 10, 11, 12, 13, 14, 15, 16, 17, 18, 19, 20, 21, 22, 23, 24] (fun (y7 : Bool) e w => ∃ (s : St) (e0 : Env), w = s.w ∧ e = upd (upd e0 1 (pB b3)) 10 (.bool y7) ∧ Kp s0 s ∧ BlF s b3 49 [(iI a0.Xmin), (iI a0.Xmax), (iI a0.Key.Kind), (iI a0.Key.N), w0_0, w0_1, (iI a0.Value.Kind), (iI a0.Value.N), w0_2, w0_3] 40) (fun Gj7 Kj7 => ?_) ?_)
 ·
  rcases bft r5 with hb7 | hb7
  ·
   refine Xu hb7 ?_
   rw [if_pos hb7]
   refine Xr fa49_1 rfl ?_
   have A8 := B3.st p6 rfl
   refine ld' A8 u3 rfl (clV 42 rfl func35 rfl (spec_l5in.calls a0.Xmax (0 : Int) (400 : Int) s6.w (mm [] s6)) (fun r9 s10 p10 n10 => ?_))
   exact Xb rfl (Kj7 _ _ _ ⟨s10, _, rfl, (ue (ue rfl rfl) rfl), (kp0.st (tr3 p3 p6 p10) rfl), (A8.st p10 rfl)⟩)
  refine Xu hb7 ?_
  rw [if_neg (by rw [hb7]; decide)]
  refine Xh rfl (Xh rfl (Xh rfl (Xb rfl ?_)))
  exact Kj7 _ _ _ ⟨s6, _, rfl, (ue (ue rfl rfl) rfl), (kp0.st (Xs p3 p6) rfl), (B3.st p6 rfl)⟩
 rintro y7 _ _ ⟨s15, _, rfl, rfl, Ky7, By7_b3⟩
 refine Xb rfl (ji [13, 14, 15, 16, 17, 18, 19, 20, 21, 22, 23, 24] (fun (y17 : Bool) e w => ∃ (s : St) (e0 : Env), w = s.w ∧ e = upd (upd e0 1 (pB b3)) 15 (.bool y17) ∧ Kp s0 s ∧ BlF s b3 49 [(iI a0.Xmin), (iI a0.Xmax), (iI a0.Key.Kind), (iI a0.Key.N), w0_0, w0_1, (iI a0.Value.Kind), (iI a0.Value.N), w0_2, w0_3] 40) (fun Gj17 Kj17 => ?_) ?_)
 ·
  rcases bft y7 with hb17 | hb17
  ·
   refine Xu hb17 ?_
   rw [if_pos hb17]
   refine Xr fa49_2 rfl (Yc (es := [(iI a0.Key.Kind), (iI a0.Key.N), w0_0, w0_1]) By7_b3 u47 z47 rfl ?_)
   refine clV 43 rfl func102 rfl (spec_KeyOk.calls a0.Key s15.w (mm [0] s15) w0_0 w0_1 ((Xn (s := s15) (fl_of h0_0)).sub (D := [0]) rfl) ((z.rd h0_1).kp Ky7)) (fun r19 s20 p20 n20 => ?_)
   exact Xb rfl (Kj17 _ _ _ ⟨s20, _, rfl, (ue (ue rfl rfl) rfl), (Ky7.st p20 rfl), (By7_b3.st p20 rfl)⟩)
  refine Xu hb17 ?_
  rw [if_neg (by rw [hb17]; decide)]
  exact Xh rfl (Xh rfl (Xh rfl (Xb rfl (Kj17 _ _ _ ⟨s15, _, rfl, (ue (ue rfl rfl) rfl), Ky7, By7_b3⟩))))
 rintro y17 _ _ ⟨s23, _, rfl, rfl, Ky17, By17_b3⟩
 refine Xb rfl (ji [18, 19, 20, 21, 22, 23, 24] (fun (y25 : Bool) e w => ∃ (s : St) (e0 : Env), w = s.w ∧ e = upd (upd e0 1 (pB b3)) 20 (.bool y25) ∧ Kp s0 s ∧ BlF s b3 49 [(iI a0.Xmin), (iI a0.Xmax), (iI a0.Key.Kind), (iI a0.Key.N), w0_0, w0_1, (iI a0.Value.Kind), (iI a0.Value.N), w0_2, w0_3] 40) (fun Gj25 Kj25 => ?_) ?_)
 ·
  rcases bft y17 with hb25 | hb25
  ·
   refine Xu hb25 ?_
   rw [if_pos hb25]
   refine Xr fa49_3 rfl (Yc (es := [(iI a0.Value.Kind), (iI a0.Value.N), w0_2, w0_3]) By17_b3 u47 z47 rfl ?_)
   refine clV 44 rfl func58 rfl (spec_ItemOk.calls a0.Value s23.w (mm [0] s23) w0_2 w0_3 ((Xn (s := s23) (fl_of h0_2)).sub (D := [0]) rfl) ((z.rd h0_3).kp Ky17)) (fun r27 s28 p28 n28 => ?_)
   exact Xb rfl (Kj25 _ _ _ ⟨s28, _, rfl, (ue (ue rfl rfl) rfl), (Ky17.st p28 rfl), (By17_b3.st p28 rfl)⟩)
  refine Xu hb25 ?_
  rw [if_neg (by rw [hb25]; decide)]
  exact Xh rfl (Xh rfl (Xh rfl (Xb rfl (Kj25 _ _ _ ⟨s23, _, rfl, (ue (ue rfl rfl) rfl), Ky17, By17_b3⟩))))
 rintro y25 _ _ ⟨s31, _, rfl, rfl, Ky25, By25_b3⟩
 refine Xb rfl (jy [21, 22, 23, 24, 25, 26] [24] 26 (.bool (y25 && (a0.Value.Kind != (0 : Int)))) rfl (fun Kg33 => ?_) (fun j33 => ?_))
 ·
  rcases bft y25 with hb33 | hb33
  ·
   exact Xu hb33 (Xr fa49_3 rfl (Xr fa47_0 rfl (ld' By25_b3 u3 rfl (Xb rfl (Xb rfl (Kg33 _ (Ag.put ((Ag.put ((Ag.put ((Ag.put ((Ag.put (Ag.base rfl) rfl)) rfl)) rfl)) rfl)) rfl) (by rw [hb33]; rfl)))))))
  exact Xu hb33 (Xh rfl (Xh rfl (Xh rfl (Xh rfl (Xb rfl (Kg33 _ (Ag.put ((Ag.put ((Ag.put ((Ag.put ((Ag.put (Ag.base rfl) rfl)) rfl)) rfl)) rfl)) rfl) (by rw [hb33]; rfl)))))))
 exact Xb rfl (dn (re rfl func84 rfl (Xo rfl Xe) rfl ⟨_, rfl, rfl, z.ky Ky25⟩))
def spec_PutNum.b0 (a1 : Int) (x4 : Int × (List Int) × Int) : Option ((Int × (List Int) × Int) ⊕ (List Int)) :=
 (if (decide (x4.2.2 < a1)) = true then (if x4.2.1.length + ([(IntKind.wrap .u8 (x4.1.tmod (256 : Int)))]).length ≤ Lim then (some (Sum.inl ((IntKind.wrap .i64 (x4.1.tdiv (256 : Int))), (x4.2.1 ++ [(IntKind.wrap .u8 (x4.1.tmod (256 : Int)))]), (IntKind.wrap .i64 (x4.2.2 + (1 : Int)))))) else none) else ((if (decide (x4.1 > (0 : Int))) = true then (some ([] : (List Int))) else (some x4.2.1)).bind fun o => some (Sum.inr o)))
def spec_PutNum.f (a0 : Int) (a1 : Int) : Option ((List Int)) :=
 (if (((decide (a1 < (1 : Int))) || (decide (a1 > (8 : Int)))) || (decide (a0 < (0 : Int)))) = true then (some ([] : (List Int))) else (iter (spec_PutNum.b0 a1) (a0, ([] : (List Int)), (0 : Int))))
def spec_PutNum.Q (w : World) (F : Nat → Prop) (r : (List Int)) (v : Value) (w' : World) : Prop :=
 FO Ye w w' [v] r ∧ Ky [] w w'
theorem spec_PutNum.calls (a0 : Int) (a1 : Int) (w : World) (F : Nat → Prop)   (r : (List Int)) (m : spec_PutNum.f a0 a1 = some r) :
  Calls prog 85 #[(iI a0), (iI a1)] w (RT (spec_PutNum.Q w F) r) := by
 obtain ⟨s0, rfl, kp0, z⟩ := Xg w F
 refine Xd (args := [(iI a0), (iI a1)]) func85 ntmps85 rfl rfl m ?_
 unfold spec_PutNum.f
 refine sr (Xb rfl (dn (sr (Xb rfl (dn (sq (sr (Xb rfl (Xb rfl (Xb rfl (jy [9, 10, 11, 12] [6, 7, 8, 9] 12 (.bool ((decide (a1 < (1 : Int))) || (decide (a1 > (8 : Int))))) rfl (fun Kg1 => ?_) (fun j1 => ?_))))))))))))
 ·
  rcases bft (decide (a1 < (1 : Int))) with hb1 | hb1
  ·
   exact Xu hb1 (Xh rfl (Xh rfl (Xb rfl (Kg1 _ (Ag.put ((Ag.put ((Ag.put (Ag.base rfl) rfl)) rfl)) rfl) (by rw [hb1]; rfl)))))
  exact Xu hb1 (Xb rfl (Xb rfl (Xb rfl (Kg1 _ (Ag.put ((Ag.put ((Ag.put (Ag.base rfl) rfl)) rfl)) rfl) (by rw [hb1]; rfl)))))
 refine Xb rfl (jy [13, 14, 15, 16] [] 16 (.bool (((decide (a1 < (1 : Int))) || (decide (a1 > (8 : Int)))) || (decide (a0 < (0 : Int))))) rfl (fun Kg2 => ?_) (fun j2 => ?_))
 ·
  rcases bft ((decide (a1 < (1 : Int))) || (decide (a1 > (8 : Int)))) with hb2 | hb2
  ·
   exact Xu hb2 (Xh rfl (Xh rfl (Xb rfl (Kg2 _ (Ag.put ((Ag.put ((Ag.put (Ag.base rfl) rfl)) rfl)) rfl) (by rw [hb2]; rfl)))))
  exact Xu hb2 (Xb rfl (Xb rfl (Xb rfl (Kg2 _ (Ag.put ((Ag.put ((Ag.put (Ag.base rfl) rfl)) rfl)) rfl) (by rw [hb2]; rfl)))))
 refine dn (cd rfl (fun h3 => ?_) (fun h3 => ?_))
 ·
  exact sr (Xb rfl (Xb rfl (dn (re rfl func85 rfl (Xo rfl Xe) rfl ⟨_, rfl, (ow_nil 5 (Kd.int .u8) s0 40).fo kp0 rfl z.l, z.ky kp0⟩))))
 refine sk (sq (sr (Xb rfl (dn (bl (lpI (fun (x4 : Int × (List Int) × Int) e w => ∃ (s : St) (e0 : Env) (vx4_0 : Value), w = s.w ∧ e = upd (upd (upd (upd e0 0 (iI x4.1)) 1 (iI a1)) 5 vx4_0) 6 (iI x4.2.2) ∧ Kp s0 s ∧ OwF Ye s [vx4_0] x4.2.1 40) ⟨s0, _, (.slice none 0 0), rfl, (ue (ue (ue (ue rfl rfl) rfl) rfl) rfl), kp0, (ow_nil 5 (Kd.int .u8) _ 40)⟩ (fun g4 ih4 => ?_)))))))
 rintro x4 _ _ ⟨s5, _, vx4_0, rfl, rfl, Kx4, Ax4_0⟩
 unfold spec_PutNum.b0
 refine sq (sr (Xb rfl (Xb rfl (Xb rfl (dn (cd rfl (fun h7 => ?_) (fun h7 => ?_)))))))
 ·
  refine sk (sq (bl (sr (Xl vx4_0 rfl (Xb rfl (remK rfl rfl rfl rfl rfl rfl rfl rfl (cv' u5 u3 rfl (ltF' (K := (Kd.int .u8)) (cells := [(.int .u8 (IntKind.wrap .u8 (x4.1.tmod (256 : Int))))]) [(IntKind.wrap .u8 (x4.1.tmod (256 : Int)))] 41 Xq u45 z5 o5 (fun w => (Xv _ _ _)) rfl (fun v8 s8 p8 A8 => ?_)))))))))
  refine apF Xq sl45 (Ax4_0.st p8 rfl) A8.rd rfl rfl rfl rfl rfl rfl rfl (fun v11 s11 p11 A11 => ?_)
  refine Xp v11 rfl (dn (rg (Xb rfl (quoK rfl rfl rfl rfl rfl rfl rfl rfl (Xb rfl (dn (ib (rg (Xb rfl (Xb rfl (Xb rfl (dn ?_))))))))))))
  exact lb ih4 ⟨s11, _, v11, rfl, (ue (ue (ue (ue rfl rfl) rfl) rfl) rfl), (Kx4.st (Xs p8 p11) rfl), A11⟩
 refine xt rfl (sgb (sq (sr (Xb rfl (Xb rfl (dn (cd rfl (fun h14 => ?_) (fun h14 => ?_))))))))
 ·
  exact sr (Xb rfl (dn (re rfl func85 rfl (Xo rfl Xe) rfl ⟨_, rfl, (ow_nil 5 (Kd.int .u8) s5 40).fo Kx4 rfl z.l, z.ky Kx4⟩)))
 exact sk (sr (Xl vx4_0 rfl (Xp vx4_0 rfl (dn (re rfl func85 rfl (Xo rfl Xe) rfl ⟨_, rfl, Ax4_0.fo Kx4 rfl z.l, z.ky Kx4⟩)))))
def spec_TupleBytes.f (a0 : Tuple) : Option ((List Int)) :=
 ((spec_TupleOk.f a0).bind fun r8 => (if (!r8) = true then (some ([] : (List Int))) else ((spec_KeyBytes.f a0.Key).bind fun r15 => ((spec_ValueBytes.f a0.Value).bind fun r21 => ((spec_PutNum.f a0.Xmin (4 : Int)).bind fun r25 => ((spec_PutNum.f a0.Xmax (4 : Int)).bind fun r29 => (if r25.length + r29.length ≤ Lim then (if (r25 ++ r29).length + ([(IntKind.wrap .u8 (r15.length : Int))]).length ≤ Lim then (if ((r25 ++ r29) ++ [(IntKind.wrap .u8 (r15.length : Int))]).length + r15.length ≤ Lim then (if (((r25 ++ r29) ++ [(IntKind.wrap .u8 (r15.length : Int))]) ++ r15).length + ([(IntKind.wrap .u8 (r21.length : Int))]).length ≤ Lim then (if ((((r25 ++ r29) ++ [(IntKind.wrap .u8 (r15.length : Int))]) ++ r15) ++ [(IntKind.wrap .u8 (r21.length : Int))]).length + r21.length ≤ Lim then (some (((((r25 ++ r29) ++ [(IntKind.wrap .u8 (r15.length : Int))]) ++ r15) ++ [(IntKind.wrap .u8 (r21.length : Int))]) ++ r21)) else none) else none) else none) else none) else none)))))))
def spec_TupleBytes.Q (w : World) (F : Nat → Prop) (r : (List Int)) (v : Value) (w' : World) : Prop :=
 FO Ye w w' [v] r ∧ Ky [] w w'
theorem spec_TupleBytes.calls (a0 : Tuple) (w : World) (F : Nat → Prop) (w0_0 : Value) (w0_1 : Value) (w0_2 : Value) (w0_3 : Value) (h0_0 : Kd.flt.rd w [w0_0] a0.Key.F F) (h0_1 : Ye.rd w [w0_1] a0.Key.T F) (h0_2 : Kd.flt.rd w [w0_2] a0.Value.F F) (h0_3 : Ye.rd w [w0_3] a0.Value.T F) (r : (List Int)) (m : spec_TupleBytes.f a0 = some r) :
  Calls prog 57 #[(.agg #[(iI a0.Xmin), (iI a0.Xmax), (iI a0.Key.Kind), (iI a0.Key.N), w0_0, w0_1, (iI a0.Value.Kind), (iI a0.Value.N), w0_2, w0_3])] w (RT (spec_TupleBytes.Q w F) r) := by
 obtain ⟨s0, rfl, kp0, z⟩ := Xg w F
 have A0_0 := fl_of h0_0
 have A0_1 := z.rd h0_1
 have A0_2 := fl_of h0_2
 have A0_3 := z.rd h0_3
 refine Xd (args := [(.agg #[(iI a0.Xmin), (iI a0.Xmax), (iI a0.Key.Kind), (iI a0.Key.N), w0_0, w0_1, (iI a0.Value.Kind), (iI a0.Value.N), w0_2, w0_3])]) func57 ntmps57 rfl rfl m ?_
 unfold spec_TupleBytes.f
 refine sr (bx' (cs := [(iI a0.Xmin), (iI a0.Xmax), (iI a0.Key.Kind), (iI a0.Key.N), w0_0, w0_1, (iI a0.Value.Kind), (iI a0.Value.N), w0_2, w0_3]) 40 rfl rfl (fun b3 s3 p3 B3 => ?_))
 refine Xb rfl (dn (sq (sr (Yc (es := [(iI a0.Xmin), (iI a0.Xmax), (iI a0.Key.Kind), (iI a0.Key.N), w0_0, w0_1, (iI a0.Value.Kind), (iI a0.Value.N), w0_2, w0_3]) B3 u49 z49 rfl ?_))))
 have K5 := kp0.st p3 rfl
 refine clV 41 rfl func84 rfl (spec_TupleOk.calls a0 s3.w (mm [0] s3) w0_0 w0_1 w0_2 w0_3 ((Xn (s := s3) A0_0).sub (D := [0]) rfl) (A0_1.kp K5) ((Xn (s := s3) A0_2).sub (D := [0]) rfl) (A0_3.kp K5)) (fun r8 s9 p9 n9 => ?_)
 refine Xb rfl (dn (cd rfl (fun h10 => ?_) (fun h10 => ?_)))
 ·
  refine sr (Xb rfl (dn ?_))
  have K11 := K5.st p9 rfl
  exact re rfl func57 rfl (Xo rfl Xe) rfl ⟨_, rfl, (ow_nil 5 (Kd.int .u8) s9 40).fo K11 rfl z.l, z.ky K11⟩
 refine sk (sr (Xr fa49_2 rfl ?_))
 have A12 := B3.st p9 rfl
 refine Yc (es := [(iI a0.Key.Kind), (iI a0.Key.N), w0_0, w0_1]) A12 u47 z47 rfl ?_
 have K13 := K5.st p9 rfl
 refine clO 42 rfl func81 rfl (spec_KeyBytes.calls a0.Key s9.w (mm [0] s9) w0_0 w0_1 ((Xn (s := s9) A0_0).sub (D := [0]) rfl) (A0_1.kp K13)) (fun r15 v15_0 s16 p16 A15_0 => ?_)
 refine Xp v15_0 rfl (dn (sr (Xr fa49_3 rfl ?_)))
 have A18 := A12.st p16 rfl
 refine Yc (es := [(iI a0.Value.Kind), (iI a0.Value.N), w0_2, w0_3]) A18 u47 z47 rfl ?_
 have K19 := K13.st p16 rfl
 refine clO 43 rfl func83 rfl (spec_ValueBytes.calls a0.Value s16.w (mm [0] s16) w0_2 w0_3 ((Xn (s := s16) A0_2).sub (D := [0]) rfl) (A0_3.kp K19)) (fun r21 v21_0 s22 p22 A21_0 => ?_)
 refine Xp v21_0 rfl (dn (sr (Xr fa49_0 rfl ?_)))
 have A24 := A18.st p22 rfl
 refine ld' A24 u3 rfl (clO 44 rfl func85 rfl (spec_PutNum.calls a0.Xmin (4 : Int) s22.w (mm [] s22)) (fun r25 v25_0 s26 p26 A25_0 => ?_))
 refine Xp v25_0 rfl (dn (sr (Xl v25_0 rfl (Xr fa49_1 rfl ?_))))
 refine ld' (A24.st p26 rfl) u3 rfl (clO 45 rfl func85 rfl (spec_PutNum.calls a0.Xmax (4 : Int) s26.w (mm [] s26)) (fun r29 v29_0 s30 p30 A29_0 => ?_))
 refine apF Xq sl45 (A25_0.st p30 rfl) A29_0.rd rfl rfl rfl rfl rfl rfl rfl (fun v33 s33 p33 A33 => ?_)
 refine Xp v33 rfl (dn (sr (Xl v33 rfl (Xl v15_0 rfl ?_))))
 have A35 := A15_0.st (tr4 p22 p26 p30 p33) rfl
 refine ln' A35.rd u45 rfl (cv' u5 u3 rfl (ltF' (K := (Kd.int .u8)) (cells := [(.int .u8 (IntKind.wrap .u8 (r15.length : Int)))]) [(IntKind.wrap .u8 (r15.length : Int))] 46 Xq u45 z5 o5 (fun w => (Xv _ _ _)) rfl (fun v36 s36 p36 A36 => ?_)))
 refine apF Xq sl45 (A33.st p36 rfl) A36.rd rfl rfl rfl rfl rfl rfl rfl (fun v39 s39 p39 A39 => ?_)
 refine Xp v39 rfl (dn (sr (Xl v39 rfl (Xl v15_0 rfl ?_))))
 refine apF Xq sl45 A39 (A35.st (Xs p36 p39) rfl).rd rfl rfl rfl rfl rfl rfl rfl (fun v42 s42 p42 A42 => ?_)
 refine Xp v42 rfl (dn (sr (Xl v42 rfl (Xl v21_0 rfl ?_))))
 have A44 := A21_0.st (tr6 p26 p30 p33 p36 p39 p42) rfl
 refine ln' A44.rd u45 rfl (cv' u5 u3 rfl (ltF' (K := (Kd.int .u8)) (cells := [(.int .u8 (IntKind.wrap .u8 (r21.length : Int)))]) [(IntKind.wrap .u8 (r21.length : Int))] 47 Xq u45 z5 o5 (fun w => (Xv _ _ _)) rfl (fun v45 s45 p45 A45 => ?_)))
 refine apF Xq sl45 (A42.st p45 rfl) A45.rd rfl rfl rfl rfl rfl rfl rfl (fun v48 s48 p48 A48 => ?_)
 refine Xp v48 rfl (dn (sr (Xl v48 rfl (Xl v21_0 rfl ?_))))
 refine apF Xq sl45 A48 (A44.st (Xs p45 p48) rfl).rd rfl rfl rfl rfl rfl rfl rfl (fun v51 s51 p51 A51 => ?_)
 refine Xp v51 rfl (dn ?_)
 have K53 := K19.st (tr10 p22 p26 p30 p33 p36 p39 p42 p45 p48 p51) rfl
 exact re rfl func57 rfl (Xo rfl Xe) rfl ⟨_, rfl, A51.fo K53 rfl z.l, z.ky K53⟩
def spec_TupleRead.f (a0 : (List Int)) : Option (Tuple × Bool) :=
 (if ((decide ((a0.length : Int) < (10 : Int))) || (decide ((a0.length : Int) > (92 : Int)))) = true then (some ((Tuple.mk (0 : Int) (0 : Int) (Item.mk (0 : Int) (0 : Int) (0 : Nat) ([] : (List Int))) (Item.mk (0 : Int) (0 : Int) (0 : Nat) ([] : (List Int)))), false)) else ((spec_GetNum.f a0 (0 : Int) (4 : Int)).bind fun r16 => ((spec_GetNum.f a0 (4 : Int) (4 : Int)).bind fun r23 => (if 0 ≤ (8 : Int) ∧ (8 : Int) < (a0.length : Int) then (if (decide ((IntKind.wrap .i64 (at_ a0 (8 : Int))) > (IntKind.wrap .i64 ((a0.length : Int) - (10 : Int))))) = true then (some ((Tuple.mk (0 : Int) (0 : Int) (Item.mk (0 : Int) (0 : Int) (0 : Nat) ([] : (List Int))) (Item.mk (0 : Int) (0 : Int) (0 : Nat) ([] : (List Int)))), false)) else (if 0 ≤ (9 : Int) ∧ (9 : Int) ≤ (IntKind.wrap .i64 ((9 : Int) + (IntKind.wrap .i64 (at_ a0 (8 : Int))))) ∧ (IntKind.wrap .i64 ((9 : Int) + (IntKind.wrap .i64 (at_ a0 (8 : Int))))) ≤ (a0.length : Int) then ((spec_KeyRead.f ((a0.take ((IntKind.wrap .i64 ((9 : Int) + (IntKind.wrap .i64 (at_ a0 (8 : Int)))))).toNat).drop ((9 : Int)).toNat)).bind fun r41 => (if 0 ≤ (IntKind.wrap .i64 ((10 : Int) + (IntKind.wrap .i64 (at_ a0 (8 : Int))))) ∧ (IntKind.wrap .i64 ((10 : Int) + (IntKind.wrap .i64 (at_ a0 (8 : Int))))) ≤ (a0.length : Int) then ((spec_ValueRead.f (a0.drop ((IntKind.wrap .i64 ((10 : Int) + (IntKind.wrap .i64 (at_ a0 (8 : Int)))))).toNat)).bind fun r53 => ((if (!r41.2) = true then (some true) else ((if (!r53.2) = true then (some true) else ((spec_TupleBytes.f (Tuple.mk r16.1 r23.1 r41.1 r53.1)).bind fun r116 => (some (!((str r116).toList == (str a0).toList))))).bind fun y93 => (some y93))).bind fun y74 => (if y74 = true then (some ((Tuple.mk (0 : Int) (0 : Int) (Item.mk (0 : Int) (0 : Int) (0 : Nat) ([] : (List Int))) (Item.mk (0 : Int) (0 : Int) (0 : Nat) ([] : (List Int)))), false)) else (some ((Tuple.mk r16.1 r23.1 r41.1 r53.1), true))))) else none)) else none)) else none))))
def spec_TupleRead.Q (w : World) (F : Nat → Prop) (r : Tuple × Bool) (v : Value) (w' : World) : Prop :=
 ∃ (v0 : Value) (v1 : Value) (v2 : Value) (v3 : Value), v = .tuple #[(.agg #[(iI r.1.Xmin), (iI r.1.Xmax), (iI r.1.Key.Kind), (iI r.1.Key.N), v0, v1, (iI r.1.Value.Kind), (iI r.1.Value.N), v2, v3]), (.bool r.2)] ∧ FO kd49 w w' [(iI r.1.Xmin), (iI r.1.Xmax), (iI r.1.Key.Kind), (iI r.1.Key.N), v0, v1, (iI r.1.Value.Kind), (iI r.1.Value.N), v2, v3] r.1 ∧ Ky [] w w'
theorem spec_TupleRead.calls (a0 : (List Int)) (w : World) (F : Nat → Prop) (w0_0 : Value) (h0_0 : Ye.rd w [w0_0] a0 F) (r : Tuple × Bool) (m : spec_TupleRead.f a0 = some r) :
  Calls prog 34 #[w0_0] w (RT (spec_TupleRead.Q w F) r) := by
 obtain ⟨s0, rfl, kp0, z⟩ := Xg w F
 have A0_0 := z.rd h0_0
 refine Xd (args := [w0_0]) func34 ntmps34 rfl rfl m ?_
 unfold spec_TupleRead.f
 refine sr (al' (cs := [(iI 0), (iI 0), (iI 0), (iI 0), (.float .f64 0), (.slice none 0 0), (iI 0), (iI 0), (.float .f64 0), (.slice none 0 0)]) 40 rfl o49 rfl (fun b2 s2 p2 B2 => ?_))
 refine Xb rfl (dn (sr (al' (cs := [(iI 0), (iI 0), (iI 0), (iI 0), (.float .f64 0), (.slice none 0 0), (iI 0), (iI 0), (.float .f64 0), (.slice none 0 0)]) 41 rfl o49 rfl (fun b4 s4 p4 B4 => ?_))))
 refine dn (sq (sr (Xl w0_0 rfl ?_)))
 have K6 := kp0.st (Xs p2 p4) rfl
 have A7 := A0_0.kp K6
 refine ln' A7 u45 rfl (Xb rfl (Xb rfl (jy [13, 14, 15, 16, 17] [] 17 (.bool ((decide ((a0.length : Int) < (10 : Int))) || (decide ((a0.length : Int) > (92 : Int))))) rfl (fun Kg8 => ?_) (fun j8 => ?_))))
 ·
  rcases bft (decide ((a0.length : Int) < (10 : Int))) with hb8 | hb8
  ·
   exact Xu hb8 (Xh rfl (Xh rfl (Xh rfl (Xb rfl (Kg8 _ (Ag.put ((Ag.put ((Ag.put ((Ag.put (Ag.base rfl) rfl)) rfl)) rfl)) rfl) (by rw [hb8]; rfl))))))
  exact Xu hb8 (Xl w0_0 rfl (ln' A7 u45 rfl (Xb rfl (Xb rfl (Kg8 _ (Ag.put ((Ag.put ((Ag.put ((Ag.put (Ag.base rfl) rfl)) rfl)) rfl)) rfl) (by rw [hb8]; rfl))))))
 refine dn (cd rfl (fun h9 => ?_) (fun h9 => ?_))
 ·
  refine sr (Yc (es := [(iI 0), (iI 0), (iI 0), (iI 0), (.float .f64 0), (.slice none 0 0), (iI 0), (iI 0), (.float .f64 0), (.slice none 0 0)]) B4 u49 z49 rfl ?_)
  refine sva' (vs := [(iI 0), (iI 0), (iI 0), (iI 0), (.float .f64 0), (.slice none 0 0), (iI 0), (iI 0), (.float .f64 0), (.slice none 0 0)]) (B2.st p4 rfl) z49 rfl (Xc rfl (Xc rfl (Xc rfl (Xc rfl (Xc (FL.one (Xw rfl)) (Xc rfl (Xc rfl (Xc rfl (Xc (FL.one (Xw rfl)) (Xc rfl Xt)))))))))) rfl (fun s11 p11 B11 => ?_)
  refine Xb rfl (dn ?_)
  have A13 : OwF kd49 s11 [(iI 0), (iI 0), (iI 0), (iI 0), (.float .f64 0), (.slice none 0 0), (iI 0), (iI 0), (.float .f64 0), (.slice none 0 0)] (Tuple.mk (0 : Int) (0 : Int) (Item.mk (0 : Int) (0 : Int) (0 : Nat) ([] : (List Int))) (Item.mk (0 : Int) (0 : Int) (0 : Nat) ([] : (List Int)))) 42 := ow_z _ _ (fz_iso (fun x : Tuple => (x.Xmin, x.Xmax, x.Key, x.Value)) (Tuple.mk (0 : Int) (0 : Int) (Item.mk (0 : Int) (0 : Int) (0 : Nat) ([] : (List Int))) (Item.mk (0 : Int) (0 : Int) (0 : Nat) ([] : (List Int)))) (Xj (Xi .i64 (0 : Int)) (Xj (Xi .i64 (0 : Int)) (Xj (fz_iso (fun x : Item => (x.Kind, x.N, x.F, x.T)) (Item.mk (0 : Int) (0 : Int) (0 : Nat) ([] : (List Int))) (Xj (Xi .i64 (0 : Int)) (Xj (Xi .i64 (0 : Int)) (Xj (Ya (Xw rfl)) (fz_nil 5 (Kd.int .u8)))))) (fz_iso (fun x : Item => (x.Kind, x.N, x.F, x.T)) (Item.mk (0 : Int) (0 : Int) (0 : Nat) ([] : (List Int))) (Xj (Xi .i64 (0 : Int)) (Xj (Xi .i64 (0 : Int)) (Xj (Ya (Xw rfl)) (fz_nil 5 (Kd.int .u8))))))))))
  have K15 := K6.st p11 rfl
  exact re rfl func34 rfl (r_b B11 u49 rfl z49 rfl (Xo rfl Xe)) rfl ⟨_, rfl, (.float .f64 0), (.slice none 0 0), (.float .f64 0), (.slice none 0 0), rfl, A13.fo K15 rfl z.l, z.ky K15⟩
 refine sk (sr (Xl w0_0 rfl (clV 43 rfl func54 rfl (spec_GetNum.calls a0 (0 : Int) (4 : Int) s4.w (mm [0] s4) w0_0 A7) (fun r16 s17 p17 n17 => ?_))))
 refine Xb rfl (Xb (v := (iI r16.1)) rfl (Xb (v := (.bool r16.2)) rfl (Xr fa49_0 rfl ?_)))
 refine sv (B4.st p17 rfl) z3 rfl rfl rfl rfl rfl rfl rfl rfl (fun s19 p19 B19 => ?_)
 refine dn (sr (Xl w0_0 rfl ?_))
 have K21 := K6.st (Xs p17 p19) rfl
 refine clV 44 rfl func54 rfl (spec_GetNum.calls a0 (4 : Int) (4 : Int) s19.w (mm [0] s19) w0_0 (A0_0.kp K21)) (fun r23 s24 p24 n24 => ?_)
 refine Xb rfl (Xb (v := (iI r23.1)) rfl (Xb (v := (.bool r23.2)) rfl (Xr fa49_1 rfl ?_)))
 refine sv (B19.st p24 rfl) z3 rfl rfl rfl rfl rfl rfl rfl rfl (fun s26 p26 B26 => ?_)
 refine dn (sr (Xl w0_0 rfl ?_))
 have K28 := K21.st (Xs p24 p26) rfl
 have A29 := A0_0.kp K28
 refine ix' A29 u45 z5 rfl (fun ad30 es30 h0_30 h1_30 he30 ce30 ia30 => ?_)
 obtain rfl := he30
 refine lc0' ce30 u5 rfl (cv' u3 u5 rfl (Xb rfl (dn (sq (sr (Xb rfl (Xl w0_0 rfl (ln' A29 u45 rfl (Xb rfl (Xb rfl (dn (cd rfl (fun h32 => ?_) (fun h32 => ?_)))))))))))))
 ·
  refine sr (bd (cells := [(iI 0), (iI 0), (iI 0), (iI 0), (.float .f64 0), (.slice none 0 0), (iI 0), (iI 0), (.float .f64 0), (.slice none 0 0)]) pl49 o49 rfl rfl rfl rfl rfl rfl ?_)
  refine sva' (vs := [(iI 0), (iI 0), (iI 0), (iI 0), (.float .f64 0), (.slice none 0 0), (iI 0), (iI 0), (.float .f64 0), (.slice none 0 0)]) (B2.st (tr5 p4 p17 p19 p24 p26) rfl) z49 rfl (Xc rfl (Xc rfl (Xc rfl (Xc rfl (Xc (FL.one (Xw rfl)) (Xc rfl (Xc rfl (Xc rfl (Xc (FL.one (Xw rfl)) (Xc rfl Xt)))))))))) rfl (fun s34 p34 B34 => ?_)
  refine Xb rfl (dn ?_)
  have A36 : OwF kd49 s34 [(iI 0), (iI 0), (iI 0), (iI 0), (.float .f64 0), (.slice none 0 0), (iI 0), (iI 0), (.float .f64 0), (.slice none 0 0)] (Tuple.mk (0 : Int) (0 : Int) (Item.mk (0 : Int) (0 : Int) (0 : Nat) ([] : (List Int))) (Item.mk (0 : Int) (0 : Int) (0 : Nat) ([] : (List Int)))) 45 := ow_z _ _ (fz_iso (fun x : Tuple => (x.Xmin, x.Xmax, x.Key, x.Value)) (Tuple.mk (0 : Int) (0 : Int) (Item.mk (0 : Int) (0 : Int) (0 : Nat) ([] : (List Int))) (Item.mk (0 : Int) (0 : Int) (0 : Nat) ([] : (List Int)))) (Xj (Xi .i64 (0 : Int)) (Xj (Xi .i64 (0 : Int)) (Xj (fz_iso (fun x : Item => (x.Kind, x.N, x.F, x.T)) (Item.mk (0 : Int) (0 : Int) (0 : Nat) ([] : (List Int))) (Xj (Xi .i64 (0 : Int)) (Xj (Xi .i64 (0 : Int)) (Xj (Ya (Xw rfl)) (fz_nil 5 (Kd.int .u8)))))) (fz_iso (fun x : Item => (x.Kind, x.N, x.F, x.T)) (Item.mk (0 : Int) (0 : Int) (0 : Nat) ([] : (List Int))) (Xj (Xi .i64 (0 : Int)) (Xj (Xi .i64 (0 : Int)) (Xj (Ya (Xw rfl)) (fz_nil 5 (Kd.int .u8))))))))))
  have K38 := K28.st p34 rfl
  exact re rfl func34 rfl (r_b B34 u49 rfl z49 rfl (Xo rfl Xe)) rfl ⟨_, rfl, (.float .f64 0), (.slice none 0 0), (.float .f64 0), (.slice none 0 0), rfl, A36.fo K38 rfl z.l, z.ky K38⟩
 refine sk (sr (Xl w0_0 rfl (Xb rfl (Xb rfl (slb A29 u45 z5 rfl rfl rfl rfl rfl rfl rfl rfl (fun v39 A39 => ?_))))))
 refine cl' rfl func55 rfl (spec_KeyRead.calls ((a0.take ((IntKind.wrap .i64 ((9 : Int) + (IntKind.wrap .i64 (at_ a0 (8 : Int)))))).toNat).drop ((9 : Int)).toNat) s26.w (mm [0] s26) v39 A39) ?_
 rintro r41 _ w41 m41 ⟨v41_0, v41_1, rfl, f41_0, ky41⟩
 obtain ⟨s42, rfl, p42, n42⟩ := nwx s26 w41 46 ky41
 obtain ⟨hu41_0_0, Au41_0_1⟩ := ap47 (f41_0.c n42)
 refine Xb rfl (Xb (v := (.agg #[(iI r41.1.Kind), (iI r41.1.N), v41_0, v41_1])) rfl (Xb (v := (.bool r41.2)) rfl (al' (cs := [(iI 0), (iI 0), (.float .f64 0), (.slice none 0 0)]) 47 rfl o47 rfl (fun b44 s44 p44 B44 => ?_))))
 have A46 := Au41_0_1.st p44 rfl
 refine sva' (vs := [(iI r41.1.Kind), (iI r41.1.N), v41_0, v41_1]) B44 z47 rfl (Xc rfl (Xc rfl (Xc (FL.one hu41_0_0) (Xc A46.rd.one Xt)))) rfl (fun s47 p47 B47 => ?_)
 refine Xb rfl (dn (sr (Xl w0_0 rfl (Xb rfl (Xb rfl ?_)))))
 have K49 := K28.st (tr3 p42 p44 p47) rfl
 refine sla (A0_0.kp K49) u45 z5 rfl rfl rfl rfl rfl rfl rfl (fun v51 A51 => ?_)
 refine cl' rfl func56 rfl (spec_ValueRead.calls (a0.drop ((IntKind.wrap .i64 ((10 : Int) + (IntKind.wrap .i64 (at_ a0 (8 : Int)))))).toNat) s47.w (mm [0] s47) v51 A51) ?_
 rintro r53 _ w53 m53 ⟨v53_0, v53_1, rfl, f53_0, ky53⟩
 obtain ⟨s54, rfl, p54, n54⟩ := nwx s47 w53 48 ky53
 obtain ⟨hu53_0_0, Au53_0_1⟩ := ap47 (f53_0.c n54)
 refine Xb rfl (Xb (v := (.agg #[(iI r53.1.Kind), (iI r53.1.N), v53_0, v53_1])) rfl (Xb (v := (.bool r53.2)) rfl (al' (cs := [(iI 0), (iI 0), (.float .f64 0), (.slice none 0 0)]) 49 rfl o47 rfl (fun b56 s56 p56 B56 => ?_))))
 have A58 := Au53_0_1.st p56 rfl
 refine sva' (vs := [(iI r53.1.Kind), (iI r53.1.N), v53_0, v53_1]) B56 z47 rfl (Xc rfl (Xc rfl (Xc (FL.one hu53_0_0) (Xc A58.rd.one Xt)))) rfl (fun s59 p59 B59 => ?_)
 refine Xb rfl (dn (sr ?_))
 refine Yc (es := [(iI r41.1.Kind), (iI r41.1.N), v41_0, v41_1]) (B47.st (tr3 p54 p56 p59) rfl) u47 z47 rfl (Xr fa49_2 rfl ?_)
 have A63 := A46.st (tr4 p47 p54 p56 p59) rfl
 refine sva' (vs := [(iI r41.1.Kind), (iI r41.1.N), v41_0, v41_1]) (B26.st (tr6 p42 p44 p47 p54 p56 p59) rfl) z47 rfl (Xc rfl (Xc rfl (Xc (FL.one hu41_0_0) (Xc A63.rd.one Xt)))) rfl (fun s64 p64 B64 => ?_)
 refine dn (sr ?_)
 refine Yc (es := [(iI r53.1.Kind), (iI r53.1.N), v53_0, v53_1]) (B59.st p64 rfl) u47 z47 rfl (Xr fa49_3 rfl ?_)
 have A67 := A58.st (Xs p59 p64) rfl
 refine sva' (vs := [(iI r53.1.Kind), (iI r53.1.N), v53_0, v53_1]) B64 z47 rfl (Xc rfl (Xc rfl (Xc (FL.one hu53_0_0) (Xc A67.rd.one Xt)))) rfl (fun s68 p68 B68 => ?_)
 refine dn (sq (sq (zdraw [[], [0], [1], [2], [3, 2], [2, 4], [5, 2], [6], [7, 6, 6], [8, 6], [6], [10, 6], [9, 11, 6], [6, 12]] [some 61, some 62, some 63, some 64, some 65, some 66, some 67, some 68, some 69, some 70, some 71, some 72, some 73, some 74] [[7], [61], [62], [9, 63], [64, 63], [63, 65], [66], [4, 67], [68, 67], [69, 67], [0, 67], [71, 67], [70, 72, 67], [67, 73]] [0, 1, 2, 3, 4, 5, 6, 7, 8, 9, 10, 11, 12, 13] ⟨by kernel_rfl, by kernel_rfl, by kernel_rfl⟩ (by kernel_rfl) (fun s70 p70 l70 tb70 zd70 => ?_))))
 have zd73 := ((zd70.add 0 61 (.bool r41.2) rfl).add 1 62 (.bool (!r41.2)) rfl).add 2 63 (.bool (!r41.2)) rfl
 refine ji [] (fun (y74 : Bool) e w => ∃ (s : St) (e0 : Env), w = s.w ∧ e = upd (upd (upd e0 2 (pB b2)) 4 (pB b4)) 74 (.bool y74) ∧ Kp s0 s ∧ BlF s b4 49 [(iI r16.1), (iI r23.1), (iI r41.1.Kind), (iI r41.1.N), v41_0, v41_1, (iI r53.1.Kind), (iI r53.1.N), v53_0, v53_1] 41 ∧ BlF s b2 49 [(iI 0), (iI 0), (iI 0), (iI 0), (.float .f64 0), (.slice none 0 0), (iI 0), (iI 0), (.float .f64 0), (.slice none 0 0)] 40 ∧ OwF Ye s [v41_1] r41.1.T 46 ∧ OwF Ye s [v53_1] r53.1.T 48) (fun Gj74 Kj74 => ?_) ?_
 ·
  rcases bft (!r41.2) with hb74 | hb74
  ·
   rw [if_pos hb74]
   rw [hb74] at zd73
   try rw [hb74]
   refine zfin [12, 13] tb70 (((((((((zd73.add 3 64 undef rfl).add 4 65 undef rfl).add 5 66 (.bool true) rfl).add 6 67 (.bool true) rfl).add 7 68 undef rfl).add 8 69 undef rfl).add 9 70 undef rfl).add 10 71 undef rfl).add 11 72 undef rfl) (Xa (uw_q' rfl) rfl (Xa (uw_q' rfl) rfl (Xa (uw_q' rfl) rfl (Xa (uw_q' rfl) rfl (Xa (uw_q' rfl) rfl (Xa (Xm rfl) rfl (Xa (Xm rfl) rfl (Xa (uw_q' rfl) rfl (Xa (uw_q' rfl) rfl (Xa (Xm rfl) rfl (Xa (qv_b (Xm rfl) hb74) rfl (Xa (Xm rfl) rfl Xk)))))))))))) (by kernel_rfl) (by decide) (Xh rfl (Xb rfl ?_))
   exact Kj74 _ _ _ ⟨s70, _, rfl, (ue (ue (ue rfl rfl) rfl) rfl), (K49.st (tr6 p54 p56 p59 p64 p68 p70) rfl), (B68.st p70 rfl), (B2.st (tr3 (tr12 p4 p17 p19 p24 p26 p42 p44 p47 p54 p56 p59 p64) p68 p70) rfl), (A63.st (tr3 p64 p68 p70) rfl), (A67.st (Xs p68 p70) rfl)⟩
  rw [if_neg (by rw [hb74]; decide)]
  rw [hb74] at zd73
  try rw [hb74]
  have zd92 := (((zd73.add 3 64 (.bool r53.2) rfl).add 4 65 (.bool (!r53.2)) rfl).add 5 66 (.bool (!r53.2)) rfl).add 6 67 (.bool (!r53.2)) rfl
  refine ji [] (fun (y93 : Bool) e w => ∃ (s : St) (e0 : Env), w = s.w ∧ e = upd (upd (upd e0 2 (pB b2)) 4 (pB b4)) 74 (.bool y93) ∧ Kp s0 s ∧ BlF s b4 49 [(iI r16.1), (iI r23.1), (iI r41.1.Kind), (iI r41.1.N), v41_0, v41_1, (iI r53.1.Kind), (iI r53.1.N), v53_0, v53_1] 41 ∧ BlF s b2 49 [(iI 0), (iI 0), (iI 0), (iI 0), (.float .f64 0), (.slice none 0 0), (iI 0), (iI 0), (.float .f64 0), (.slice none 0 0)] 40 ∧ OwF Ye s [v41_1] r41.1.T 46 ∧ OwF Ye s [v53_1] r53.1.T 48) (fun Gj93 Kj93 => ?_) ?_
  ·
   rcases bft (!r53.2) with hb93 | hb93
   ·
    rw [if_pos hb93]
    rw [hb93] at zd92
    try rw [hb93]
    refine zfin [12, 13] tb70 (((((zd92.add 7 68 undef rfl).add 8 69 undef rfl).add 9 70 undef rfl).add 10 71 undef rfl).add 11 72 undef rfl) (Xa (uw_q' rfl) rfl (Xa (uw_q' rfl) rfl (Xa (uw_q' rfl) rfl (Xa (uw_q' rfl) rfl (Xa (uw_q' rfl) rfl (Xa (Xm rfl) rfl (Xa (Xm rfl) rfl (Xa (qv_b (Xm rfl) hb93) rfl (Xa (Xm rfl) rfl (Xa (Xm rfl) rfl (Xa (qv_b (Xm rfl) hb74) rfl (Xa (Xm rfl) rfl Xk)))))))))))) (by kernel_rfl) (by decide) (Xh rfl (Xb rfl ?_))
    exact Kj93 _ _ _ ⟨s70, _, rfl, (ue (ue (ue rfl rfl) rfl) rfl), (K49.st (tr6 p54 p56 p59 p64 p68 p70) rfl), (B68.st p70 rfl), (B2.st (tr3 (tr12 p4 p17 p19 p24 p26 p42 p44 p47 p54 p56 p59 p64) p68 p70) rfl), (A63.st (tr3 p64 p68 p70) rfl), (A67.st (Xs p68 p70) rfl)⟩
   rw [if_neg (by rw [hb93]; decide)]
   rw [hb93] at zd92
   try rw [hb93]
   refine zstep 8 [some 72, some 71] tb70 (((zd92.add 7 68 (.agg #[(iI r16.1), (iI r23.1), (iI r41.1.Kind), (iI r41.1.N), v41_0, v41_1, (iI r53.1.Kind), (iI r53.1.N), v53_0, v53_1]) rfl).add 10 71 w0_0 rfl).add 11 72 (.string (str a0)) rfl) (Xa (b2s_q (A0_0.kp (K49.st (tr6 p54 p56 p59 p64 p68 p70) rfl)) u45 u9 u5 rfl rfl rfl rfl rfl rfl) rfl (Xa (Xf w0_0 rfl) rfl (Xa (lda_q (es := [(iI r16.1), (iI r23.1), (iI r41.1.Kind), (iI r41.1.N), v41_0, v41_1, (iI r53.1.Kind), (iI r53.1.N), v53_0, v53_1]) (B68.st p70 rfl) u49 z49 rfl rfl rfl rfl rfl rfl rfl rfl) rfl (Xa (Xm rfl) rfl (Xa (Xm rfl) rfl (Xa (qv_b (Xm rfl) hb93) rfl (Xa (Xm rfl) rfl (Xa (Xm rfl) rfl (Xa (qv_b (Xm rfl) hb74) rfl (Xa (Xm rfl) rfl Xk)))))))))) (by kernel_rfl) rfl (fun l110 e110 zd110 => ?_)
   have A114 := A63.st (tr3 p64 p68 p70) rfl
   have A115 := A67.st (Xs p68 p70) rfl
   refine clO 50 rfl func57 rfl (spec_TupleBytes.calls (Tuple.mk r16.1 r23.1 r41.1 r53.1) s70.w (mm [46, 48] s70) v41_0 v41_1 v53_0 v53_1 ((Xn (s := s70) hu41_0_0).sub (D := [46, 48]) rfl) (A114.rd.sub (D := [46, 48]) rfl) ((Xn (s := s70) hu53_0_0).sub (D := [46, 48]) rfl) (A115.rd.sub (D := [46, 48]) rfl)) (fun r116 v116_0 s117 p117 A116_0 => ?_)
   refine Xy (L' := [11, 10]) (D' := [0, 1, 3, 4, 5, 2, 7, 6, 6, 8]) zd110 rfl rfl rfl (fun zd119 => ?_)
   refine zfin [12, 13] tb70 (zd119.add 9 70 (.string (str r116)) rfl) (Xa (b2s_q A116_0.rd u45 u9 u5 rfl rfl rfl rfl rfl rfl) rfl (Xa (b2s_q (A0_0.kp (K49.st (tr7 p54 p56 p59 p64 p68 p70 p117) rfl)) u45 u9 u5 rfl rfl rfl rfl rfl rfl) rfl (Xa (Xf w0_0 rfl) rfl Xk))) (by kernel_rfl) (by decide) (Xb rfl (Xb rfl ?_))
   exact Kj93 _ _ _ ⟨s117, _, rfl, (ue (ue (ue rfl rfl) rfl) rfl), (K49.st (tr7 p54 p56 p59 p64 p68 p70 p117) rfl), (B68.st (Xs p70 p117) rfl), (B2.st (tr4 (tr12 p4 p17 p19 p24 p26 p42 p44 p47 p54 p56 p59 p64) p68 p70 p117) rfl), (A114.st p117 rfl), (A115.st p117 rfl)⟩
  rintro y93 _ _ ⟨s128, _, rfl, rfl, Ky93, By93_b4, By93_b2, Cy93_43, Cy93_55⟩
  exact Kj74 _ _ _ ⟨s128, _, rfl, (ue (ue (ue rfl rfl) rfl) rfl), Ky93, By93_b4, By93_b2, Cy93_43, Cy93_55⟩
 rintro y74 _ _ ⟨s131, _, rfl, rfl, Ky74, By74_b4, By74_b2, Cy74_43, Cy74_55⟩
 refine dn (cd rfl (fun h134 => ?_) (fun h134 => ?_))
 ·
  refine sr (bd (cells := [(iI 0), (iI 0), (iI 0), (iI 0), (.float .f64 0), (.slice none 0 0), (iI 0), (iI 0), (.float .f64 0), (.slice none 0 0)]) pl49 o49 rfl rfl rfl rfl rfl rfl (sva' (vs := [(iI 0), (iI 0), (iI 0), (iI 0), (.float .f64 0), (.slice none 0 0), (iI 0), (iI 0), (.float .f64 0), (.slice none 0 0)]) By74_b2 z49 rfl (Xc rfl (Xc rfl (Xc rfl (Xc rfl (Xc (FL.one (Xw rfl)) (Xc rfl (Xc rfl (Xc rfl (Xc (FL.one (Xw rfl)) (Xc rfl Xt)))))))))) rfl (fun s135 p135 B135 => ?_)))
  refine Xb rfl (dn ?_)
  have A137 : OwF kd49 s135 [(iI 0), (iI 0), (iI 0), (iI 0), (.float .f64 0), (.slice none 0 0), (iI 0), (iI 0), (.float .f64 0), (.slice none 0 0)] (Tuple.mk (0 : Int) (0 : Int) (Item.mk (0 : Int) (0 : Int) (0 : Nat) ([] : (List Int))) (Item.mk (0 : Int) (0 : Int) (0 : Nat) ([] : (List Int)))) 51 := ow_z _ _ (fz_iso (fun x : Tuple => (x.Xmin, x.Xmax, x.Key, x.Value)) (Tuple.mk (0 : Int) (0 : Int) (Item.mk (0 : Int) (0 : Int) (0 : Nat) ([] : (List Int))) (Item.mk (0 : Int) (0 : Int) (0 : Nat) ([] : (List Int)))) (Xj (Xi .i64 (0 : Int)) (Xj (Xi .i64 (0 : Int)) (Xj (fz_iso (fun x : Item => (x.Kind, x.N, x.F, x.T)) (Item.mk (0 : Int) (0 : Int) (0 : Nat) ([] : (List Int))) (Xj (Xi .i64 (0 : Int)) (Xj (Xi .i64 (0 : Int)) (Xj (Ya (Xw rfl)) (fz_nil 5 (Kd.int .u8)))))) (fz_iso (fun x : Item => (x.Kind, x.N, x.F, x.T)) (Item.mk (0 : Int) (0 : Int) (0 : Nat) ([] : (List Int))) (Xj (Xi .i64 (0 : Int)) (Xj (Xi .i64 (0 : Int)) (Xj (Ya (Xw rfl)) (fz_nil 5 (Kd.int .u8))))))))))
  have K139 := Ky74.st p135 rfl
  exact re rfl func34 rfl (r_b B135 u49 rfl z49 rfl (Xo rfl Xe)) rfl ⟨_, rfl, (.float .f64 0), (.slice none 0 0), (.float .f64 0), (.slice none 0 0), rfl, A137.fo K139 rfl z.l, z.ky K139⟩
 refine sk (sr (Yc (es := [(iI r16.1), (iI r23.1), (iI r41.1.Kind), (iI r41.1.N), v41_0, v41_1, (iI r53.1.Kind), (iI r53.1.N), v53_0, v53_1]) By74_b4 u49 z49 rfl (sva' (vs := [(iI r16.1), (iI r23.1), (iI r41.1.Kind), (iI r41.1.N), v41_0, v41_1, (iI r53.1.Kind), (iI r53.1.N), v53_0, v53_1]) By74_b2 z49 rfl (Xc rfl (Xc rfl (Xc rfl (Xc rfl (Xc (FL.one hu41_0_0) (Xc Cy74_43.rd.one (Xc rfl (Xc rfl (Xc (FL.one hu53_0_0) (Xc Cy74_55.rd.one Xt)))))))))) rfl (fun s140 p140 B140 => ?_))))
 refine Xb rfl (dn ?_)
 obtain ⟨s144, hw144, p144, A144⟩ := ow_2 (Yd (fun x : Item => (x.Kind, x.N, x.F, x.T)) r41.1 (ow_l (Xi .i64 r41.1.Kind) (ow_l (Xi .i64 r41.1.N) (ow_l (Ya hu41_0_0) (Cy74_43.st p140 rfl))))) (Yd (fun x : Item => (x.Kind, x.N, x.F, x.T)) r53.1 (ow_l (Xi .i64 r53.1.Kind) (ow_l (Xi .i64 r53.1.N) (ow_l (Ya hu53_0_0) (Cy74_55.st p140 rfl))))) rfl rfl
 rw [hw144]
 have A146 : OwF kd49 s144 [(iI r16.1), (iI r23.1), (iI r41.1.Kind), (iI r41.1.N), v41_0, v41_1, (iI r53.1.Kind), (iI r53.1.N), v53_0, v53_1] (Tuple.mk r16.1 r23.1 r41.1 r53.1) 46 := (Yd (fun x : Tuple => (x.Xmin, x.Xmax, x.Key, x.Value)) (Tuple.mk r16.1 r23.1 r41.1 r53.1) (ow_l (Xi .i64 r16.1) (ow_l (Xi .i64 r23.1) A144)))
 have K149 := Ky74.st (Xs p140 p144) rfl
 exact re rfl func34 rfl (r_b (B140.st p144 rfl) u49 rfl z49 rfl (Xo rfl Xe)) rfl ⟨_, rfl, v41_0, v41_1, v53_0, v53_1, rfl, A146.fo K149 rfl z.l, z.ky K149⟩
def spec_HeapOk.b1 (a0 : Heap) (x7 : Int) (x25 : Int) : Option (Int ⊕ (Int ⊕ Bool)) :=
 (if (decide (x25 < (((at_ a0.Pages x7).Slots).length : Int))) = true then (if 0 ≤ x25 ∧ x25 < (((at_ a0.Pages x7).Slots).length : Int) then ((spec_TupleRead.f (at_ ((at_ a0.Pages x7).Slots) x25)).bind fun r37 => (if 0 ≤ x25 ∧ x25 < (((at_ a0.Pages x7).Slots).length : Int) then (if ((decide (((at_ ((at_ a0.Pages x7).Slots) x25).length : Int) > (0 : Int))) && (!r37.2)) = true then (some (Sum.inr (Sum.inr false))) else (some (Sum.inl (IntKind.wrap .i64 (x25 + (1 : Int)))))) else none)) else none) else ((some (Sum.inl (IntKind.wrap .i64 (x7 + (1 : Int))))).bind fun o => some (Sum.inr o)))
def spec_HeapOk.b0 (a0 : Heap) (x7 : Int) : Option (Int ⊕ Bool) :=
 (if (decide (x7 < (a0.Pages.length : Int))) = true then (if 0 ≤ x7 ∧ x7 < (a0.Pages.length : Int) then ((spec_PageUsed.f (at_ a0.Pages x7)).bind fun r21 => (if (decide (r21 < (0 : Int))) = true then (some (Sum.inr false)) else (iter (spec_HeapOk.b1 a0 x7) (0 : Int)))) else none) else ((some true).bind fun o => some (Sum.inr o)))
def spec_HeapOk.f (a0 : Heap) : Option (Bool) :=
 (if (decide ((a0.Pages.length : Int) > (16 : Int))) = true then (some false) else (iter (spec_HeapOk.b0 a0) (0 : Int)))
def spec_HeapOk.Q (w : World) (F : Nat → Prop) (r : Bool) (v : Value) (w' : World) : Prop :=
 v = (.bool r) ∧ Ky [] w w'
theorem spec_HeapOk.calls (a0 : Heap) (w : World) (F : Nat → Prop) (w0_0 : Value) (h0_0 : Yg.rd w [w0_0] a0.Pages F) (r : Bool) (m : spec_HeapOk.f a0 = some r) :
  Calls prog 33 #[(.agg #[w0_0])] w (RT (spec_HeapOk.Q w F) r) := by
 obtain ⟨s0, rfl, kp0, z⟩ := Xg w F
 have A0_0 := z.rd h0_0
 refine Xd (args := [(.agg #[w0_0])]) func33 ntmps33 rfl rfl m ?_
 unfold spec_HeapOk.f
 refine sr (bx' (cs := [w0_0]) 40 rfl rfl (fun b2 s2 p2 B2 => ?_))
 refine Xb rfl (dn (sq (sr (Xr fa31_0 rfl (ld' B2 u29 rfl ?_)))))
 have K4 := kp0.st p2 rfl
 refine ln' (A0_0.kp K4) u29 rfl (Xb rfl (dn (cd rfl (fun h6 => ?_) (fun h6 => ?_))))
 ·
  exact sr (Xb rfl (dn (re rfl func33 rfl (Xo rfl Xe) rfl ⟨_, rfl, rfl, z.ky K4⟩)))
 refine sk (sq (sr (Xb rfl (dn (bl (lpI (fun (x7 : Int) e w => ∃ (s : St) (e0 : Env), w = s.w ∧ e = upd (upd e0 1 (pB b2)) 3 (iI x7) ∧ Kp s0 s ∧ BlF s b2 31 [w0_0] 40) ⟨s2, _, rfl, (ue (ue rfl rfl) rfl), K4, B2⟩ (fun g7 ih7 => ?_)))))))
 rintro x7 _ _ ⟨s8, _, rfl, rfl, Kx7, Bx7_b2⟩
 unfold spec_HeapOk.b0
 refine sq (sr (Xb rfl (Xr fa31_0 rfl (ld' Bx7_b2 u29 rfl ?_))))
 have A10 := A0_0.kp Kx7
 refine ln' A10 u29 rfl (Xb rfl (dn (cd rfl (fun h11 => ?_) (fun h11 => ?_))))
 ·
  refine sk (sq (bl (sr (Xr fa31_0 rfl (ld' Bx7_b2 u29 rfl (Xb rfl (ix' A10 u29 z70 rfl (fun ad12 es12 h0_12 h1_12 he12 ce12 ia12 => ?_))))))))
  obtain ⟨v12_0, rfl, A12_0⟩ := op70 he12
  refine lca ce12 u70 z70 rfl rfl rfl rfl rfl rfl rfl (al' (cs := [(iI 0), (.slice none 0 0)]) 41 rfl o70 rfl (fun b15 s15 p15 B15 => ?_))
  have A17 := A12_0.st p15 rfl
  refine sva' (vs := [(iI ((at_ a0.Pages x7).Lsn)), v12_0]) B15 z70 rfl (Xc rfl (Xc A17.one Xt)) rfl (fun s18 p18 B18 => ?_)
  refine dn (sq (sr (Yc (es := [(iI ((at_ a0.Pages x7).Lsn)), v12_0]) B18 u70 z70 rfl ?_)))
  have A20 := A17.st p18 rfl
  refine clV 42 rfl func53 rfl (spec_PageUsed.calls (at_ a0.Pages x7) s18.w (mm [0] s18) v12_0 A20) (fun r21 s22 p22 n22 => ?_)
  refine Xb rfl (dn (cd rfl (fun h23 => ?_) (fun h23 => ?_)))
  ·
   refine sr (Xb rfl (dn (sgi ?_)))
   exact re rfl func33 rfl (Xo rfl Xe) rfl ⟨_, rfl, rfl, z.ky (Kx7.st (tr3 p15 p18 p22) rfl)⟩
  refine sk (sr (Xb rfl (dn (bl ?_))))
  refine lpI (fun (x25 : Int) e w => ∃ (s : St) (e0 : Env), w = s.w ∧ e = upd (upd (upd (upd e0 1 (pB b2)) 3 (iI x7)) 4 (pB b15)) 5 (iI x25) ∧ Kp s0 s ∧ BlF s b15 70 [(iI ((at_ a0.Pages x7).Lsn)), v12_0] 41 ∧ BlF s b2 31 [w0_0] 40 ∧ RdF (Kd.sl 45 Ye) s [v12_0] ((at_ a0.Pages x7).Slots) [0]) ⟨s22, _, rfl, (ue (ue (ue (ue rfl rfl) rfl) rfl) rfl), (Kx7.st (tr3 p15 p18 p22) rfl), (B18.st p22 rfl), (Bx7_b2.st (tr3 p15 p18 p22) rfl), (A20.st p22 rfl)⟩ (fun g25 ih25 => ?_)
  rintro x25 _ _ ⟨s30, _, rfl, rfl, Kx25, Bx25_b15, Bx25_b2, Cx25_13⟩
  unfold spec_HeapOk.b1
  refine sq (sr (Xb rfl (Xr fa70_1 rfl (ld' Bx25_b15 u66 rfl (ln' Cx25_13 u66 rfl (Xb rfl (dn (cd rfl (fun h33 => ?_) (fun h33 => ?_)))))))))
  ·
   refine sk (sq (bl (sr (Xr fa70_1 rfl (ld' Bx25_b15 u66 rfl (Xb rfl (ix' Cx25_13 u66 z45 rfl (fun ad34 es34 h0_34 h1_34 he34 ce34 ia34 => ?_))))))))
   obtain ⟨v34, rfl, he34'⟩ := he34
   have A34 : RdF Ye s30 [v34] (at_ ((at_ a0.Pages x7).Slots) x25) [0] := ⟨v34, rfl, he34'⟩
   refine lc0' ce34 u45 rfl (cl' rfl func34 rfl (spec_TupleRead.calls (at_ ((at_ a0.Pages x7).Slots) x25) s30.w (mm [0] s30) v34 A34) ?_)
   rintro r37 _ w37 m37 ⟨v37_0, v37_1, v37_2, v37_3, rfl, f37_0, ky37⟩
   obtain ⟨s38, rfl, p38, n38⟩ := nwx s30 w37 43 ky37
   obtain ⟨s39, hw39, p39, hu37_0_0, Au37_0_1, hu37_0_2, Au37_0_3⟩ := ap49 44 (f37_0.c n38) rfl
   rw [hw39]
   refine Xb rfl (Xb (v := (.agg #[(iI r37.1.Xmin), (iI r37.1.Xmax), (iI r37.1.Key.Kind), (iI r37.1.Key.N), v37_0, v37_1, (iI r37.1.Value.Kind), (iI r37.1.Value.N), v37_2, v37_3])) rfl (Xb (v := (.bool r37.2)) rfl (al' (cs := [(iI 0), (iI 0), (iI 0), (iI 0), (.float .f64 0), (.slice none 0 0), (iI 0), (iI 0), (.float .f64 0), (.slice none 0 0)]) 45 rfl o49 rfl (fun b42 s42 p42 B42 => ?_))))
   refine sva' (vs := [(iI r37.1.Xmin), (iI r37.1.Xmax), (iI r37.1.Key.Kind), (iI r37.1.Key.N), v37_0, v37_1, (iI r37.1.Value.Kind), (iI r37.1.Value.N), v37_2, v37_3]) B42 z49 rfl (Xc rfl (Xc rfl (Xc rfl (Xc rfl (Xc (FL.one hu37_0_0) (Xc (Au37_0_1.st p42 rfl).rd.one (Xc rfl (Xc rfl (Xc (FL.one hu37_0_2) (Xc (Au37_0_3.st p42 rfl).rd.one Xt)))))))))) rfl (fun s46 p46 B46 => ?_)
   refine Xb rfl (dn (sr (Xr fa70_1 rfl ?_)))
   have A48 := Bx25_b15.st (tr4 p38 p39 p42 p46) rfl
   refine ld' A48 u66 rfl (Xb rfl ?_)
   have A49 := Cx25_13.st (tr4 p38 p39 p42 p46) rfl
   refine ix' A49 u66 z45 rfl (fun ad50 es50 h0_50 h1_50 he50 ce50 ia50 => ?_)
   obtain ⟨v50, rfl, he50'⟩ := he50
   have A50 : RdF Ye s46 [v50] (at_ ((at_ a0.Pages x7).Slots) x25) [0] := ⟨v50, rfl, he50'⟩
   refine lc0' ce50 u45 rfl (ln' A50 u45 rfl (Xb rfl (Xb rfl (jy [50, 51, 52, 53] [] 53 (.bool ((decide (((at_ ((at_ a0.Pages x7).Slots) x25).length : Int) > (0 : Int))) && (!r37.2))) rfl (fun Kg53 => ?_) (fun j53 => ?_)))))
   ·
    rcases bft (decide (((at_ ((at_ a0.Pages x7).Slots) x25).length : Int) > (0 : Int))) with hb53 | hb53
    ·
     exact Xu hb53 (Xb rfl (Xb rfl (Xb rfl (Kg53 _ (Ag.put ((Ag.put ((Ag.put (Ag.base rfl) rfl)) rfl)) rfl) (by rw [hb53]; rfl)))))
    exact Xu hb53 (Xh rfl (Xh rfl (Xb rfl (Kg53 _ (Ag.put ((Ag.put ((Ag.put (Ag.base rfl) rfl)) rfl)) rfl) (by rw [hb53]; rfl)))))
   refine dn (cd rfl (fun h54 => ?_) (fun h54 => ?_))
   ·
    refine sr (Xb rfl (dn (sgi (sgi ?_))))
    exact re rfl func33 rfl (Xo rfl Xe) rfl ⟨_, rfl, rfl, z.ky (Kx25.st (tr4 p38 p39 p42 p46) rfl)⟩
   refine sk (ib (rg (Xb rfl (Xb rfl (Xb rfl (dn ?_))))))
   exact lb ih25 ⟨s46, _, rfl, (ue (ue (ue (ue rfl rfl) rfl) rfl) rfl), (Kx25.st (tr4 p38 p39 p42 p46) rfl), A48, (Bx25_b2.st (tr4 p38 p39 p42 p46) rfl), A49⟩
  exact xt rfl (sgb (ib (rg (Xb rfl (Xb rfl (Xb rfl (dn (lb ih7 ⟨s30, _, rfl, (ue (ue rfl rfl) rfl), Kx25, Bx25_b2⟩))))))))
 exact xt rfl (sgb (sr (Xb rfl (dn (re rfl func33 rfl (Xo rfl Xe) rfl ⟨_, rfl, rfl, z.ky Kx7⟩)))))
def spec_HeapRows.b1 (a0 : Heap) (x10 : (List Row) × Int) (x18 : (List Row) × Int) : Option (((List Row) × Int) ⊕ ((List Row) × Int ⊕ (List Row))) :=
 (if 0 ≤ x10.2 ∧ x10.2 < (a0.Pages.length : Int) then (if (decide (x18.2 < (((at_ a0.Pages x10.2).Slots).length : Int))) = true then (if 0 ≤ x10.2 ∧ x10.2 < (a0.Pages.length : Int) then (if 0 ≤ x18.2 ∧ x18.2 < (((at_ a0.Pages x10.2).Slots).length : Int) then ((spec_TupleRead.f (at_ ((at_ a0.Pages x10.2).Slots) x18.2)).bind fun r33 => ((if r33.2 = true then (if x18.1.length + ([(Row.mk x10.2 x18.2 r33.1)]).length ≤ Lim then (some (x18.1 ++ [(Row.mk x10.2 x18.2 r33.1)])) else none) else (some x18.1)).bind fun y44 => (some (Sum.inl (y44, (IntKind.wrap .i64 (x18.2 + (1 : Int)))))))) else none) else none) else ((some (Sum.inl (x18.1, (IntKind.wrap .i64 (x10.2 + (1 : Int)))))).bind fun o => some (Sum.inr o))) else none)
def spec_HeapRows.b0 (a0 : Heap) (x10 : (List Row) × Int) : Option (((List Row) × Int) ⊕ (List Row)) :=
 (if (decide (x10.2 < (a0.Pages.length : Int))) = true then (iter (spec_HeapRows.b1 a0 x10) (x10.1, (0 : Int))) else ((some x10.1).bind fun o => some (Sum.inr o)))
def spec_HeapRows.f (a0 : Heap) : Option ((List Row)) :=
 ((spec_HeapOk.f a0).bind fun r6 => (if (!r6) = true then (some ([] : (List Row))) else (iter (spec_HeapRows.b0 a0) (([] : (List Row)), (0 : Int)))))
def spec_HeapRows.Q (w : World) (F : Nat → Prop) (r : (List Row)) (v : Value) (w' : World) : Prop :=
 FO Yh w w' [v] r ∧ Ky [] w w'
theorem spec_HeapRows.calls (a0 : Heap) (w : World) (F : Nat → Prop) (w0_0 : Value) (h0_0 : Yg.rd w [w0_0] a0.Pages F) (r : (List Row)) (m : spec_HeapRows.f a0 = some r) :
  Calls prog 17 #[(.agg #[w0_0])] w (RT (spec_HeapRows.Q w F) r) := by
 obtain ⟨s0, rfl, kp0, z⟩ := Xg w F
 have A0_0 := z.rd h0_0
 refine Xd (args := [(.agg #[w0_0])]) func17 ntmps17 rfl rfl m ?_
 unfold spec_HeapRows.f
 refine sr (bx' (cs := [w0_0]) 40 rfl rfl (fun b2 s2 p2 B2 => ?_))
 refine Xb rfl (dn (sr (Xb rfl (dn (sq (sr (Yc (es := [w0_0]) B2 u31 z31 rfl ?_)))))))
 have K4 := kp0.st p2 rfl
 refine clV 41 rfl func33 rfl (spec_HeapOk.calls a0 s2.w (mm [0] s2) w0_0 (A0_0.kp K4)) (fun r6 s7 p7 n7 => ?_)
 refine Xb rfl (dn (cd rfl (fun h8 => ?_) (fun h8 => ?_)))
 ·
  refine sr (Xb rfl (Xb rfl (dn ?_)))
  have K9 := K4.st p7 rfl
  exact re rfl func17 rfl (Xo rfl Xe) rfl ⟨_, rfl, (ow_nil 51 kd51 s7 40).fo K9 rfl z.l, z.ky K9⟩
 refine sk (sq (sr (Xb rfl (dn (bl ?_)))))
 refine lpI (fun (x10 : (List Row) × Int) e w => ∃ (s : St) (e0 : Env) (vx10_0 : Value), w = s.w ∧ e = upd (upd (upd e0 1 (pB b2)) 3 vx10_0) 4 (iI x10.2) ∧ Kp s0 s ∧ OwF Yh s [vx10_0] x10.1 43 ∧ BlF s b2 31 [w0_0] 40) ⟨s7, _, (.slice none 0 0), rfl, (ue (ue (ue rfl rfl) rfl) rfl), (K4.st p7 rfl), (ow_nil 51 kd51 _ 43), (B2.st p7 rfl)⟩ (fun g10 ih10 => ?_)
 rintro x10 _ _ ⟨s13, _, vx10_0, rfl, rfl, Kx10, Ax10_0, Bx10_b2⟩
 unfold spec_HeapRows.b0
 refine sq (sr (Xb rfl (Xr fa31_0 rfl (ld' Bx10_b2 u29 rfl ?_))))
 refine ln' (A0_0.kp Kx10) u29 rfl (Xb rfl (dn (cd rfl (fun h17 => ?_) (fun h17 => ?_))))
 ·
  refine sk (sq (bl (sr (Xb rfl (dn (bl (lpI (fun (x18 : (List Row) × Int) e w => ∃ (s : St) (e0 : Env) (vx18_0 : Value), w = s.w ∧ e = upd (upd (upd (upd e0 1 (pB b2)) 3 vx18_0) 4 (iI x10.2)) 5 (iI x18.2) ∧ Kp s0 s ∧ OwF Yh s [vx18_0] x18.1 43 ∧ BlF s b2 31 [w0_0] 40) ⟨s13, _, vx10_0, rfl, (ue (ue (ue (ue rfl rfl) rfl) rfl) rfl), Kx10, Ax10_0, Bx10_b2⟩ (fun g18 ih18 => ?_))))))))
  rintro x18 _ _ ⟨s19, _, vx18_0, rfl, rfl, Kx18, Ax18_0, Bx18_b2⟩
  unfold spec_HeapRows.b1
  refine sq (sr (Xb rfl (Xr fa31_0 rfl (ld' Bx18_b2 u29 rfl (Xb rfl ?_)))))
  have A22 := A0_0.kp Kx18
  refine ix' A22 u29 z70 rfl (fun ad23 es23 h0_23 h1_23 he23 ce23 ia23 => ?_)
  obtain ⟨v23_0, rfl, A23_0⟩ := op70 he23
  refine Xr fa70_1 rfl (lc ce23 u66 rfl rfl rfl rfl rfl rfl rfl rfl (ln' A23_0 u66 rfl (Xb rfl (dn (cd rfl (fun h26 => ?_) (fun h26 => ?_))))))
  ·
   refine sk (sq (bl (sr (Xr fa31_0 rfl (ld' Bx18_b2 u29 rfl (Xb rfl (ix' A22 u29 z70 rfl (fun ad27 es27 h0_27 h1_27 he27 ce27 ia27 => ?_))))))))
   obtain ⟨v27_0, rfl, A27_0⟩ := op70 he27
   refine Xr fa70_1 rfl (lc ce27 u66 rfl rfl rfl rfl rfl rfl rfl rfl (Xb rfl (ix' A27_0 u66 z45 rfl (fun ad30 es30 h0_30 h1_30 he30 ce30 ia30 => ?_))))
   obtain ⟨v30, rfl, he30'⟩ := he30
   have A30 : RdF Ye s19 [v30] (at_ ((at_ a0.Pages x10.2).Slots) x18.2) [0] := ⟨v30, rfl, he30'⟩
   refine lc0' ce30 u45 rfl (cl' rfl func34 rfl (spec_TupleRead.calls (at_ ((at_ a0.Pages x10.2).Slots) x18.2) s19.w (mm [0] s19) v30 A30) ?_)
   rintro r33 _ w33 m33 ⟨v33_0, v33_1, v33_2, v33_3, rfl, f33_0, ky33⟩
   obtain ⟨s34, rfl, p34, n34⟩ := nwx s19 w33 44 ky33
   obtain ⟨s35, hw35, p35, hu33_0_0, Au33_0_1, hu33_0_2, Au33_0_3⟩ := ap49 45 (f33_0.c n34) rfl
   rw [hw35]
   refine Xb rfl (Xb (v := (.agg #[(iI r33.1.Xmin), (iI r33.1.Xmax), (iI r33.1.Key.Kind), (iI r33.1.Key.N), v33_0, v33_1, (iI r33.1.Value.Kind), (iI r33.1.Value.N), v33_2, v33_3])) rfl (Xb (v := (.bool r33.2)) rfl (al' (cs := [(iI 0), (iI 0), (iI 0), (iI 0), (.float .f64 0), (.slice none 0 0), (iI 0), (iI 0), (.float .f64 0), (.slice none 0 0)]) 46 rfl o49 rfl (fun b38 s38 p38 B38 => ?_))))
   have A40 := Au33_0_3.st p38 rfl
   have A41 := Au33_0_1.st p38 rfl
   refine sva' (vs := [(iI r33.1.Xmin), (iI r33.1.Xmax), (iI r33.1.Key.Kind), (iI r33.1.Key.N), v33_0, v33_1, (iI r33.1.Value.Kind), (iI r33.1.Value.N), v33_2, v33_3]) B38 z49 rfl (Xc rfl (Xc rfl (Xc rfl (Xc rfl (Xc (FL.one hu33_0_0) (Xc A41.rd.one (Xc rfl (Xc rfl (Xc (FL.one hu33_0_2) (Xc A40.rd.one Xt)))))))))) rfl (fun s42 p42 B42 => ?_)
   refine Xb rfl (dn (sr (Xb rfl (dn (jc (fun (y44 : (List Row)) e w => ∃ (s : St) (e0 : Env) (vy44_0 : Value), w = s.w ∧ e = upd (upd (upd (upd e0 1 (pB b2)) 3 vy44_0) 4 (iI x10.2)) 5 (iI x18.2) ∧ Kp s0 s ∧ OwF Yh s [vy44_0] y44 43 ∧ BlF s b2 31 [w0_0] 40) (fun Gj44 Kj44 => ?_) ?_)))))
   ·
    refine cd rfl (fun h45 => ?_) (fun h45 => ?_)
    ·
     refine rg (Xl vx18_0 rfl (Xb rfl (Xb rfl (Yc (es := [(iI r33.1.Xmin), (iI r33.1.Xmax), (iI r33.1.Key.Kind), (iI r33.1.Key.N), v33_0, v33_1, (iI r33.1.Value.Kind), (iI r33.1.Value.N), v33_2, v33_3]) B42 u49 z49 rfl (bd (cells := [(iI x10.2), (iI x18.2), (iI r33.1.Xmin), (iI r33.1.Xmax), (iI r33.1.Key.Kind), (iI r33.1.Key.N), v33_0, v33_1, (iI r33.1.Value.Kind), (iI r33.1.Value.N), v33_2, v33_3]) pl51 o51 rfl rfl rfl rfl rfl rfl ?_)))))
     obtain ⟨s48, hw48, p48, A48⟩ := ow_2 (Yd (fun x : Item => (x.Kind, x.N, x.F, x.T)) r33.1.Key (ow_l (Xi .i64 r33.1.Key.Kind) (ow_l (Xi .i64 r33.1.Key.N) (ow_l (Ya hu33_0_0) (A41.st p42 rfl))))) (Yd (fun x : Item => (x.Kind, x.N, x.F, x.T)) r33.1.Value (ow_l (Xi .i64 r33.1.Value.Kind) (ow_l (Xi .i64 r33.1.Value.N) (ow_l (Ya hu33_0_2) (A40.st p42 rfl))))) rfl rfl
     rw [hw48]
     have A50 : OwF kd51 s48 [(iI x10.2), (iI x18.2), (iI r33.1.Xmin), (iI r33.1.Xmax), (iI r33.1.Key.Kind), (iI r33.1.Key.N), v33_0, v33_1, (iI r33.1.Value.Kind), (iI r33.1.Value.N), v33_2, v33_3] (Row.mk x10.2 x18.2 r33.1) 44 := (Yd (fun x : Row => (x.Page, x.Slot, x.Tuple)) (Row.mk x10.2 x18.2 r33.1) (ow_l (Xi .i64 x10.2) (ow_l (Xi .i64 x18.2) (Yd (fun x : Tuple => (x.Xmin, x.Xmax, x.Key, x.Value)) r33.1 (ow_l (Xi .i64 r33.1.Xmin) (ow_l (Xi .i64 r33.1.Xmax) A48))))))
     refine ltO (K := kd51) (cells := [(iI x10.2), (iI x18.2), (iI r33.1.Xmin), (iI r33.1.Xmax), (iI r33.1.Key.Kind), (iI r33.1.Key.N), v33_0, v33_1, (iI r33.1.Value.Kind), (iI r33.1.Value.N), v33_2, v33_3]) [(Row.mk x10.2 x18.2 r33.1)] 44 u42 z51 o51 (lo_one A50) rfl rfl rfl rfl rfl rfl rfl rfl rfl rfl (fun v53 s53 p53 A53 => ?_)
     refine apO sl42 (Ax18_0.st (tr6 p34 p35 p38 p42 p48 p53) rfl) A53 rfl rfl rfl rfl rfl rfl rfl rfl rfl (fun v56 s56 p56 A56 => ?_)
     refine Xp v56 rfl (dn ?_)
     exact Kj44 _ _ _ ⟨s56, _, v56, rfl, (ue (ue (ue (ue rfl rfl) rfl) rfl) rfl), (Kx18.st (tr7 p34 p35 p38 p42 p48 p53 p56) rfl), A56, (Bx18_b2.st (tr7 p34 p35 p38 p42 p48 p53 p56) rfl)⟩
    exact sk (Kj44 _ _ _ ⟨s42, _, vx18_0, rfl, (ue (ue (ue (ue rfl rfl) rfl) rfl) rfl), (Kx18.st (tr4 p34 p35 p38 p42) rfl), (Ax18_0.st (tr4 p34 p35 p38 p42) rfl), (Bx18_b2.st (tr4 p34 p35 p38 p42) rfl)⟩)
   rintro y44 _ _ ⟨s63, _, vy44_0, rfl, rfl, Ky44, Ay44_0, By44_b2⟩
   exact ib (rg (Xb rfl (Xb rfl (Xb rfl (dn (lb ih18 ⟨s63, _, vy44_0, rfl, (ue (ue (ue (ue rfl rfl) rfl) rfl) rfl), Ky44, Ay44_0, By44_b2⟩))))))
  exact xt rfl (sgb (ib (rg (Xb rfl (Xb rfl (Xb rfl (dn (lb ih10 ⟨s19, _, vx18_0, rfl, (ue (ue (ue rfl rfl) rfl) rfl), Kx18, Ax18_0, Bx18_b2⟩))))))))
 exact xt rfl (sgb (sr (Xl vx10_0 rfl (Xp vx10_0 rfl (dn (re rfl func17 rfl (Xo rfl Xe) rfl ⟨_, rfl, Ax10_0.fo Kx10 rfl z.l, z.ky Kx10⟩))))))
def spec_StatusOf.f (a0 : (List Int)) (a1 : Int) : Option (Int) :=
 ((spec_l5in.f a1 (1 : Int) (400 : Int)).bind fun r2 => ((if ((!r2) || (decide (a1 ≥ (a0.length : Int)))) = true then (some true) else (if 0 ≤ a1 ∧ a1 < (a0.length : Int) then ((spec_l5in.f (at_ a0 a1) (1 : Int) (2 : Int)).bind fun r13 => (some (!r13))) else none)).bind fun y7 => (if y7 = true then (some (0 : Int)) else (if 0 ≤ a1 ∧ a1 < (a0.length : Int) then (some (at_ a0 a1)) else none))))
def spec_StatusOf.Q (w : World) (F : Nat → Prop) (r : Int) (v : Value) (w' : World) : Prop :=
 v = (iI r) ∧ Ky [] w w'
theorem spec_StatusOf.calls (a0 : (List Int)) (a1 : Int) (w : World) (F : Nat → Prop) (w0_0 : Value) (h0_0 : Yj.rd w [w0_0] a0 F) (r : Int) (m : spec_StatusOf.f a0 a1 = some r) :
  Calls prog 18 #[w0_0, (iI a1)] w (RT (spec_StatusOf.Q w F) r) := by
 obtain ⟨s0, rfl, kp0, z⟩ := Xg w F
 have A0_0 := z.rd h0_0
 refine Xd (args := [w0_0, (iI a1)]) func18 ntmps18 rfl rfl m ?_
 unfold spec_StatusOf.f
 refine sr (Xb rfl (dn (sq (sr (Xb rfl (clV 40 rfl func35 rfl (spec_l5in.calls a1 (1 : Int) (400 : Int) s0.w (mm [] s0)) (fun r2 s3 p3 n3 => ?_)))))))
 refine Xb rfl (Xb rfl (jy [8, 9, 10, 11, 12, 13] [9, 10, 11, 12, 13, 14, 15, 16] 13 (.bool ((!r2) || (decide (a1 ≥ (a0.length : Int))))) rfl (fun Kg4 => ?_) (fun j4 => ?_)))
 ·
  rcases bft (!r2) with hb4 | hb4
  ·
   exact Xu hb4 (Xh rfl (Xh rfl (Xh rfl (Xh rfl (Xb rfl (Kg4 _ (Ag.put ((Ag.put ((Ag.put ((Ag.put ((Ag.put (Ag.base rfl) rfl)) rfl)) rfl)) rfl)) rfl) (by rw [hb4]; rfl)))))))
  refine Xu hb4 (Xb rfl (Xl w0_0 rfl ?_))
  exact ln' (A0_0.kp (kp0.st p3 rfl)) u25 rfl (Xb rfl (Xb rfl (Kg4 _ (Ag.put ((Ag.put ((Ag.put ((Ag.put ((Ag.put (Ag.base rfl) rfl)) rfl)) rfl)) rfl)) rfl) (by rw [hb4]; rfl))))
 refine Xb rfl (ji [] (fun (y7 : Bool) e w => ∃ (s : St) (e0 : Env), w = s.w ∧ e = upd (upd (upd e0 0 w0_0) 1 (iI a1)) 21 (.bool y7) ∧ Kp s0 s) (fun Gj7 Kj7 => ?_) ?_)
 ·
  rcases bft ((!r2) || (decide (a1 ≥ (a0.length : Int)))) with hb7 | hb7
  ·
   refine Xu hb7 ?_
   rw [if_pos hb7]
   refine Xh rfl (Xh rfl (Xh rfl (Xh rfl (Xh rfl (Xh rfl (Xb rfl ?_))))))
   exact Kj7 _ _ _ ⟨s3, _, rfl, (ue (ue (ue rfl rfl) rfl) rfl), (kp0.st p3 rfl)⟩
  refine Xu hb7 ?_
  rw [if_neg (by rw [hb7]; decide)]
  refine Xl w0_0 rfl (Xb rfl ?_)
  have K9 := kp0.st p3 rfl
  refine ix' (A0_0.kp K9) u25 z3 rfl (fun ad11 es11 h0_11 h1_11 he11 ce11 ia11 => ?_)
  obtain rfl := he11
  refine lc0' ce11 u3 rfl (clV 41 rfl func35 rfl (spec_l5in.calls (at_ a0 a1) (1 : Int) (2 : Int) s3.w (mm [] s3)) (fun r13 s14 p14 n14 => ?_))
  refine Xb rfl (Xb rfl ?_)
  exact Kj7 _ _ _ ⟨s14, _, rfl, (ue (ue (ue rfl rfl) rfl) rfl), (K9.st p14 rfl)⟩
 rintro y7 _ _ ⟨s16, _, rfl, rfl, Ky7⟩
 refine dn (cd rfl (fun h17 => ?_) (fun h17 => ?_))
 ·
  exact sr (Xb rfl (dn (re rfl func18 rfl (Xo rfl Xe) rfl ⟨_, rfl, rfl, z.ky Ky7⟩)))
 refine sk (sr (Xl w0_0 rfl (Xb rfl ?_)))
 refine ix' (A0_0.kp Ky7) u25 z3 rfl (fun ad19 es19 h0_19 h1_19 he19 ce19 ia19 => ?_)
 obtain rfl := he19
 exact lc0' ce19 u3 rfl (Xb rfl (dn (re rfl func18 rfl (Xo rfl Xe) rfl ⟨_, rfl, rfl, z.ky Ky7⟩)))
def spec_FloatCompare.f (a0 : Nat) (a1 : Nat) : Option (Int) :=
 ((spec_FloatRank.f a0).bind fun r1 => ((spec_FloatRank.f a1).bind fun r3 => (if (decide (r1 < r3)) = true then (some (-1 : Int)) else (if (decide (r1 > r3)) = true then (some (1 : Int)) else (some (0 : Int))))))
def spec_FloatCompare.Q (w : World) (F : Nat → Prop) (r : Int) (v : Value) (w' : World) : Prop :=
 v = (iI r) ∧ Ky [] w w'
theorem spec_FloatCompare.calls (a0 : Nat) (a1 : Nat) (w : World) (F : Nat → Prop) (w0_0 : Value) (w1_0 : Value) (h0_0 : Kd.flt.rd w [w0_0] a0 F) (h1_0 : Kd.flt.rd w [w1_0] a1 F) (r : Int) (m : spec_FloatCompare.f a0 a1 = some r) :
  Calls prog 59 #[w0_0, w1_0] w (RT (spec_FloatCompare.Q w F) r) := by
 obtain ⟨s0, rfl, kp0, z⟩ := Xg w F
 refine Xd (args := [w0_0, w1_0]) func59 ntmps59 rfl rfl m ?_
 unfold spec_FloatCompare.f
 refine sr (Xb rfl (dn (sr (Xl w0_0 rfl (clV 40 rfl func87 rfl (spec_FloatRank.calls a0 s0.w (mm [] s0) w0_0 (Xn (s := s0) (fl_of h0_0))) (fun r1 s2 p2 n2 => ?_))))))
 refine Xb rfl (dn (sr (Xl w1_0 rfl (clV 41 rfl func87 rfl (spec_FloatRank.calls a1 s2.w (mm [] s2) w1_0 (Xn (s := s2) (fl_of h1_0))) (fun r3 s4 p4 n4 => ?_)))))
 refine Xb rfl (dn (sq (sr (Xb rfl (Xb rfl (Xb rfl (dn (cd rfl (fun h5 => ?_) (fun h5 => ?_)))))))))
 ·
  refine sr (Xb rfl (dn ?_))
  exact re rfl func59 rfl (Xo rfl Xe) rfl ⟨_, rfl, rfl, z.ky (kp0.st (Xs p2 p4) rfl)⟩
 refine sk (sq (sr (Xb rfl (Xb rfl (Xb rfl (dn (cd rfl (fun h7 => ?_) (fun h7 => ?_))))))))
 ·
  refine sr (Xb rfl (dn ?_))
  exact re rfl func59 rfl (Xo rfl Xe) rfl ⟨_, rfl, rfl, z.ky (kp0.st (Xs p2 p4) rfl)⟩
 refine sk (sr (Xb rfl (dn ?_)))
 exact re rfl func59 rfl (Xo rfl Xe) rfl ⟨_, rfl, rfl, z.ky (kp0.st (Xs p2 p4) rfl)⟩
def spec_l3texts.b0 (a0 : (List Int)) (a1 : (List Int)) (x3 : Int) : Option (Int ⊕ Int) :=
 (if ((decide (x3 < (a0.length : Int))) && (decide (x3 < (a1.length : Int)))) = true then (if 0 ≤ x3 ∧ x3 < (a0.length : Int) then (if 0 ≤ x3 ∧ x3 < (a1.length : Int) then (if (decide ((at_ a0 x3) < (at_ a1 x3))) = true then (some (Sum.inr (-1 : Int))) else (if 0 ≤ x3 ∧ x3 < (a0.length : Int) then (if 0 ≤ x3 ∧ x3 < (a1.length : Int) then (if (decide ((at_ a0 x3) > (at_ a1 x3))) = true then (some (Sum.inr (1 : Int))) else (some (Sum.inl (IntKind.wrap .i64 (x3 + (1 : Int)))))) else none) else none)) else none) else none) else ((if (decide ((a0.length : Int) < (a1.length : Int))) = true then (some (-1 : Int)) else (if (decide ((a0.length : Int) > (a1.length : Int))) = true then (some (1 : Int)) else (some (0 : Int)))).bind fun o => some (Sum.inr o)))
def spec_l3texts.f (a0 : (List Int)) (a1 : (List Int)) : Option (Int) :=
 (iter (spec_l3texts.b0 a0 a1) (0 : Int))
def spec_l3texts.Q (w : World) (F : Nat → Prop) (r : Int) (v : Value) (w' : World) : Prop :=
 v = (iI r) ∧ Ky [] w w'
theorem spec_l3texts.calls (a0 : (List Int)) (a1 : (List Int)) (w : World) (F : Nat → Prop) (w0_0 : Value) (w1_0 : Value) (h0_0 : Ye.rd w [w0_0] a0 F) (h1_0 : Ye.rd w [w1_0] a1 F) (r : Int) (m : spec_l3texts.f a0 a1 = some r) :
  Calls prog 60 #[w0_0, w1_0] w (RT (spec_l3texts.Q w F) r) := by
 obtain ⟨s0, rfl, kp0, z⟩ := Xg w F
 have A0_0 := z.rd h0_0
 have A1_0 := z.rd h1_0
 refine Xd (args := [w0_0, w1_0]) func60 ntmps60 rfl rfl m ?_
 unfold spec_l3texts.f
 refine sr (Xb rfl (dn (sq (sr (Xb rfl (dn (bl (lpI (fun (x3 : Int) e w => ∃ (s : St) (e0 : Env), w = s.w ∧ e = upd (upd (upd e0 0 w0_0) 1 w1_0) 5 (iI x3) ∧ Kp s0 s) ⟨s0, _, rfl, (ue (ue (ue rfl rfl) rfl) rfl), kp0⟩ (fun g3 ih3 => ?_)))))))))
 rintro x3 _ _ ⟨s4, _, rfl, rfl, Kx3⟩
 unfold spec_l3texts.b0
 refine sq (sr (Xb rfl (Xl w0_0 rfl ?_)))
 have A5 := A0_0.kp Kx3
 refine ln' A5 u45 rfl (Xb rfl (Xb rfl (jy [10, 11, 12, 13, 14, 15] [] 15 (.bool ((decide (x3 < (a0.length : Int))) && (decide (x3 < (a1.length : Int))))) rfl (fun Kg6 => ?_) (fun j6 => ?_))))
 ·
  rcases bft (decide (x3 < (a0.length : Int))) with hb6 | hb6
  ·
   refine Xu hb6 (Xb rfl (Xl w1_0 rfl ?_))
   exact ln' (A1_0.kp Kx3) u45 rfl (Xb rfl (Xb rfl (Kg6 _ (Ag.put ((Ag.put ((Ag.put ((Ag.put ((Ag.put (Ag.base rfl) rfl)) rfl)) rfl)) rfl)) rfl) (by rw [hb6]; rfl))))
  exact Xu hb6 (Xh rfl (Xh rfl (Xh rfl (Xh rfl (Xb rfl (Kg6 _ (Ag.put ((Ag.put ((Ag.put ((Ag.put ((Ag.put (Ag.base rfl) rfl)) rfl)) rfl)) rfl)) rfl) (by rw [hb6]; rfl)))))))
 refine dn (cd rfl (fun h8 => ?_) (fun h8 => ?_))
 ·
  refine sk (sq (bl (sq (sq (zdraw [[], [], [0, 1], [2], [], [], [4, 5], [6], [3, 7]] [some 18, some 19, some 20, some 21, some 22, some 23, some 24, some 25, some 26] [[0], [5], [18, 19], [20], [1], [5], [22, 23], [24], [21, 25]] [0, 1, 2, 3, 4, 5, 6, 7, 8] ⟨by kernel_rfl, by kernel_rfl, by kernel_rfl⟩ (by kernel_rfl) (fun s9 p9 l9 tb9 zd9 => ?_))))))
  have K12 := Kx3.st p9 rfl
  have A13 := A0_0.kp K12
  refine mg fun hg14 => ?_
  obtain ⟨ad14, es14, he14, ce14, ia14⟩ := ix_e A13 rfl hg14.1 hg14.2
  obtain rfl := he14
  have A20 := A1_0.kp K12
  refine mg fun hg21 => ?_
  obtain ⟨ad21, es21, he21, ce21, ia21⟩ := ix_e A20 rfl hg21.1 hg21.2
  obtain rfl := he21
  refine zfin [8] tb9 ((((((((zd9.add 0 18 w0_0 rfl).add 1 19 (iI x3) rfl).add 2 20 (.pointer (some ad14)) rfl).add 3 21 (.int .u8 (at_ a0 x3)) rfl).add 4 22 w1_0 rfl).add 5 23 (iI x3) rfl).add 6 24 (.pointer (some ad21)) rfl).add 7 25 (.int .u8 (at_ a1 x3)) rfl) (Xa (lc0_q ce21 u5 rfl rfl rfl rfl rfl rfl rfl rfl) rfl (Xa (ix_q' A20 u45 z5 hg21.1 hg21.2 ia21 rfl) rfl (Xa (Xm rfl) rfl (Xa (Xf w1_0 rfl) rfl (Xa (lc0_q ce14 u5 rfl rfl rfl rfl rfl rfl rfl rfl) rfl (Xa (ix_q' A13 u45 z5 hg14.1 hg14.2 ia14 rfl) rfl (Xa (Xm rfl) rfl (Xa (Xf w0_0 rfl) rfl Xk)))))))) (by kernel_rfl) (by decide) (Xb rfl (dn (cd rfl (fun h25 => ?_) (fun h25 => ?_))))
  ·
   exact sr (Xb rfl (dn (sgi (re rfl func60 rfl (Xo rfl Xe) rfl ⟨_, rfl, rfl, z.ky K12⟩))))
  refine sk (sq (zdraw [[], [], [0, 1], [2], [], [], [4, 5], [6], [3, 7]] [some 27, some 28, some 29, some 30, some 31, some 32, some 33, some 34, some 35] [[0], [5], [27, 28], [29], [1], [5], [31, 32], [33], [30, 34]] [0, 1, 2, 3, 4, 5, 6, 7, 8] ⟨by kernel_rfl, by kernel_rfl, by kernel_rfl⟩ (by kernel_rfl) (fun s26 p26 l26 tb26 zd26 => ?_)))
  have K29 := K12.st p26 rfl
  have A30 := A0_0.kp K29
  refine mg fun hg31 => ?_
  obtain ⟨ad31, es31, he31, ce31, ia31⟩ := ix_e A30 rfl hg31.1 hg31.2
  obtain rfl := he31
  have A37 := A1_0.kp K29
  refine mg fun hg38 => ?_
  obtain ⟨ad38, es38, he38, ce38, ia38⟩ := ix_e A37 rfl hg38.1 hg38.2
  obtain rfl := he38
  refine zfin [8] tb26 ((((((((zd26.add 0 27 w0_0 rfl).add 1 28 (iI x3) rfl).add 2 29 (.pointer (some ad31)) rfl).add 3 30 (.int .u8 (at_ a0 x3)) rfl).add 4 31 w1_0 rfl).add 5 32 (iI x3) rfl).add 6 33 (.pointer (some ad38)) rfl).add 7 34 (.int .u8 (at_ a1 x3)) rfl) (Xa (lc0_q ce38 u5 rfl rfl rfl rfl rfl rfl rfl rfl) rfl (Xa (ix_q' A37 u45 z5 hg38.1 hg38.2 ia38 rfl) rfl (Xa (Xm rfl) rfl (Xa (Xf w1_0 rfl) rfl (Xa (lc0_q ce31 u5 rfl rfl rfl rfl rfl rfl rfl rfl) rfl (Xa (ix_q' A30 u45 z5 hg31.1 hg31.2 ia31 rfl) rfl (Xa (Xm rfl) rfl (Xa (Xf w0_0 rfl) rfl Xk)))))))) (by kernel_rfl) (by decide) (Xb rfl (dn (cd rfl (fun h42 => ?_) (fun h42 => ?_))))
  ·
   exact sr (Xb rfl (dn (sgi (re rfl func60 rfl (Xo rfl Xe) rfl ⟨_, rfl, rfl, z.ky K29⟩))))
  exact sk (ib (rg (Xb rfl (Xb rfl (Xb rfl (dn (lb ih3 ⟨s26, _, rfl, (ue (ue (ue rfl rfl) rfl) rfl), K29⟩)))))))
 refine xt rfl (sgb (sq (sr (Xl w0_0 rfl (ln' A5 u45 rfl (Xl w1_0 rfl ?_))))))
 have A43 := A1_0.kp Kx3
 refine ln' A43 u45 rfl (Xb rfl (dn (cd rfl (fun h44 => ?_) (fun h44 => ?_))))
 ·
  exact sr (Xb rfl (dn (re rfl func60 rfl (Xo rfl Xe) rfl ⟨_, rfl, rfl, z.ky Kx3⟩)))
 refine sk (sq (sr (Xl w0_0 rfl (ln' A5 u45 rfl (Xl w1_0 rfl (ln' A43 u45 rfl (Xb rfl (dn (cd rfl (fun h45 => ?_) (fun h45 => ?_))))))))))
 ·
  exact sr (Xb rfl (dn (re rfl func60 rfl (Xo rfl Xe) rfl ⟨_, rfl, rfl, z.ky Kx3⟩)))
 exact sk (sr (Xb rfl (dn (re rfl func60 rfl (Xo rfl Xe) rfl ⟨_, rfl, rfl, z.ky Kx3⟩))))
def spec_ItemCompare.f (a0 : Item) (a1 : Item) : Option (Int) :=
 ((spec_ItemOk.f a0).bind fun r10 => ((if (!r10) = true then (some true) else ((spec_ItemOk.f a1).bind fun r19 => (some (!r19)))).bind fun y12 => (if y12 = true then (some (-2 : Int)) else (if (a0.Kind != a1.Kind) = true then (if (decide (a0.Kind < a1.Kind)) = true then (some (-1 : Int)) else (some (1 : Int))) else (if (a0.N != a1.N) = true then (if (decide (a0.N < a1.N)) = true then (some (-1 : Int)) else (some (1 : Int))) else ((spec_FloatCompare.f a0.F a1.F).bind fun r32 => (if (r32 != (0 : Int)) = true then (some r32) else ((spec_l3texts.f a0.T a1.T).bind fun r41 => (some r41)))))))))
def spec_ItemCompare.Q (w : World) (F : Nat → Prop) (r : Int) (v : Value) (w' : World) : Prop :=
 v = (iI r) ∧ Ky [] w w'
theorem spec_ItemCompare.calls (a0 : Item) (a1 : Item) (w : World) (F : Nat → Prop) (w0_0 : Value) (w0_1 : Value) (w1_0 : Value) (w1_1 : Value) (h0_0 : Kd.flt.rd w [w0_0] a0.F F) (h0_1 : Ye.rd w [w0_1] a0.T F) (h1_0 : Kd.flt.rd w [w1_0] a1.F F) (h1_1 : Ye.rd w [w1_1] a1.T F) (r : Int) (m : spec_ItemCompare.f a0 a1 = some r) :
  Calls prog 36 #[(.agg #[(iI a0.Kind), (iI a0.N), w0_0, w0_1]), (.agg #[(iI a1.Kind), (iI a1.N), w1_0, w1_1])] w (RT (spec_ItemCompare.Q w F) r) := by
 obtain ⟨s0, rfl, kp0, z⟩ := Xg w F
 have A0_0 := fl_of h0_0
 have A0_1 := z.rd h0_1
 have A1_0 := fl_of h1_0
 have A1_1 := z.rd h1_1
 refine Xd (args := [(.agg #[(iI a0.Kind), (iI a0.N), w0_0, w0_1]), (.agg #[(iI a1.Kind), (iI a1.N), w1_0, w1_1])]) func36 ntmps36 rfl rfl m ?_
 unfold spec_ItemCompare.f
 refine sr (bx' (cs := [(iI a0.Kind), (iI a0.N), w0_0, w0_1]) 40 rfl rfl (fun b3 s3 p3 B3 => ?_))
 refine bx' (cs := [(iI a1.Kind), (iI a1.N), w1_0, w1_1]) 41 rfl rfl (fun b5 s5 p5 B5 => ?_)
 refine Xb rfl (dn (sq (sr ?_)))
 have A7 := B3.st p5 rfl
 refine Yc (es := [(iI a0.Kind), (iI a0.N), w0_0, w0_1]) A7 u47 z47 rfl ?_
 have K8 := kp0.st (Xs p3 p5) rfl
 refine clV 42 rfl func58 rfl (spec_ItemOk.calls a0 s5.w (mm [0] s5) w0_0 w0_1 ((Xn (s := s5) A0_0).sub (D := [0]) rfl) (A0_1.kp K8)) (fun r10 s11 p11 n11 => ?_)
 refine Xb rfl (Xb rfl (ji [] (fun (y12 : Bool) e w => ∃ (s : St) (e0 : Env), w = s.w ∧ e = upd (upd (upd e0 2 (pB b3)) 3 (pB b5)) 13 (.bool y12) ∧ Kp s0 s ∧ BlF s b5 47 [(iI a1.Kind), (iI a1.N), w1_0, w1_1] 41 ∧ BlF s b3 47 [(iI a0.Kind), (iI a0.N), w0_0, w0_1] 40) (fun Gj12 Kj12 => ?_) ?_))
 ·
  rcases bft (!r10) with hb12 | hb12
  ·
   refine Xu hb12 ?_
   rw [if_pos hb12]
   refine Xh rfl (Xh rfl (Xh rfl (Xb rfl ?_)))
   exact Kj12 _ _ _ ⟨s11, _, rfl, (ue (ue (ue rfl rfl) rfl) rfl), (K8.st p11 rfl), (B5.st p11 rfl), (A7.st p11 rfl)⟩
  refine Xu hb12 ?_
  rw [if_neg (by rw [hb12]; decide)]
  have A16 := B5.st p11 rfl
  refine Yc (es := [(iI a1.Kind), (iI a1.N), w1_0, w1_1]) A16 u47 z47 rfl ?_
  have K17 := K8.st p11 rfl
  refine clV 43 rfl func58 rfl (spec_ItemOk.calls a1 s11.w (mm [0] s11) w1_0 w1_1 ((Xn (s := s11) A1_0).sub (D := [0]) rfl) (A1_1.kp K17)) (fun r19 s20 p20 n20 => ?_)
  refine Xb rfl (Xb rfl ?_)
  exact Kj12 _ _ _ ⟨s20, _, rfl, (ue (ue (ue rfl rfl) rfl) rfl), (K17.st p20 rfl), (A16.st p20 rfl), (A7.st (Xs p11 p20) rfl)⟩
 rintro y12 _ _ ⟨s24, _, rfl, rfl, Ky12, By12_b5, By12_b3⟩
 refine dn (cd rfl (fun h27 => ?_) (fun h27 => ?_))
 ·
  exact sr (Xb rfl (dn (re rfl func36 rfl (Xo rfl Xe) rfl ⟨_, rfl, rfl, z.ky Ky12⟩)))
 refine sk (sq (sr (Xr fa47_0 rfl (ld' By12_b3 u3 rfl (Xr fa47_0 rfl (ld' By12_b5 u3 rfl (Xb rfl (dn (cd rfl (fun h28 => ?_) (fun h28 => ?_))))))))))
 ·
  refine sq (sr (Xr fa47_0 rfl (ld' By12_b3 u3 rfl (Xr fa47_0 rfl (ld' By12_b5 u3 rfl (Xb rfl (dn (cd rfl (fun h29 => ?_) (fun h29 => ?_)))))))))
  ·
   exact sr (Xb rfl (dn (re rfl func36 rfl (Xo rfl Xe) rfl ⟨_, rfl, rfl, z.ky Ky12⟩)))
  exact sk (sr (Xb rfl (dn (re rfl func36 rfl (Xo rfl Xe) rfl ⟨_, rfl, rfl, z.ky Ky12⟩))))
 refine sk (sq (sr (Xr fa47_1 rfl (ld' By12_b3 u3 rfl (Xr fa47_1 rfl (ld' By12_b5 u3 rfl (Xb rfl (dn (cd rfl (fun h30 => ?_) (fun h30 => ?_))))))))))
 ·
  refine sq (sr (Xr fa47_1 rfl (ld' By12_b3 u3 rfl (Xr fa47_1 rfl (ld' By12_b5 u3 rfl (Xb rfl (dn (cd rfl (fun h31 => ?_) (fun h31 => ?_)))))))))
  ·
   exact sr (Xb rfl (dn (re rfl func36 rfl (Xo rfl Xe) rfl ⟨_, rfl, rfl, z.ky Ky12⟩)))
  exact sk (sr (Xb rfl (dn (re rfl func36 rfl (Xo rfl Xe) rfl ⟨_, rfl, rfl, z.ky Ky12⟩))))
 refine sk (sr (Xr fa47_2 rfl (ld' By12_b3 u44 rfl (Xr fa47_2 rfl (ld' By12_b5 u44 rfl (clV 44 rfl func59 rfl (spec_FloatCompare.calls a0.F a1.F s24.w (mm [] s24) w0_0 w1_0 (Xn (s := s24) A0_0) (Xn (s := s24) A1_0)) (fun r32 s33 p33 n33 => ?_)))))))
 refine Xb rfl (dn (sq (sr (Xb rfl (Xb rfl (dn (cd rfl (fun h34 => ?_) (fun h34 => ?_))))))))
 ·
  refine sr (Xb rfl (Xb rfl (dn ?_)))
  exact re rfl func36 rfl (Xo rfl Xe) rfl ⟨_, rfl, rfl, z.ky (Ky12.st p33 rfl)⟩
 refine sk (sr (Xr fa47_3 rfl ?_))
 refine ld' (By12_b3.st p33 rfl) u45 rfl (Xr fa47_3 rfl ?_)
 refine ld' (By12_b5.st p33 rfl) u45 rfl ?_
 have K38 := Ky12.st p33 rfl
 refine clV 45 rfl func60 rfl (spec_l3texts.calls a0.T a1.T s33.w (mm [0] s33) w0_1 w1_1 (A0_1.kp K38) (A1_1.kp K38)) (fun r41 s42 p42 n42 => ?_)
 refine Xb rfl (dn ?_)
 exact re rfl func36 rfl (Xo rfl Xe) rfl ⟨_, rfl, rfl, z.ky (K38.st p42 rfl)⟩
def spec_l15rows.b1 (a0 : (List Row)) (x2 : (List Row) × Int) (x7 : Int) : Option (Int ⊕ ((List Row) × Int ⊕ (List Row))) :=
 ((if (decide (x7 > (0 : Int))) = true then (if 0 ≤ (IntKind.wrap .i64 (x7 - (1 : Int))) ∧ (IntKind.wrap .i64 (x7 - (1 : Int))) < (x2.1.length : Int) then (if 0 ≤ x2.2 ∧ x2.2 < (a0.length : Int) then ((spec_ItemCompare.f (((at_ x2.1 (IntKind.wrap .i64 (x7 - (1 : Int)))).Tuple).Key) (((at_ a0 x2.2).Tuple).Key)).bind fun r38 => (some (decide (r38 > (0 : Int))))) else none) else none) else (some false)).bind fun y13 => (if y13 = true then (some (Sum.inl (IntKind.wrap .i64 (x7 - (1 : Int))))) else ((if 0 ≤ x7 ∧ x7 ≤ (x2.1.length : Int) then (if ([] : (List Row)).length + (x2.1.take (x7).toNat).length ≤ Lim then (if 0 ≤ x2.2 ∧ x2.2 < (a0.length : Int) then (if (([] : (List Row)) ++ (x2.1.take (x7).toNat)).length + ([(Row.mk ((at_ a0 x2.2).Page) ((at_ a0 x2.2).Slot) (Tuple.mk (((at_ a0 x2.2).Tuple).Xmin) (((at_ a0 x2.2).Tuple).Xmax) (((at_ a0 x2.2).Tuple).Key) (((at_ a0 x2.2).Tuple).Value)))]).length ≤ Lim then (if 0 ≤ x7 ∧ x7 ≤ (x2.1.length : Int) then (if ((([] : (List Row)) ++ (x2.1.take (x7).toNat)) ++ [(Row.mk ((at_ a0 x2.2).Page) ((at_ a0 x2.2).Slot) (Tuple.mk (((at_ a0 x2.2).Tuple).Xmin) (((at_ a0 x2.2).Tuple).Xmax) (((at_ a0 x2.2).Tuple).Key) (((at_ a0 x2.2).Tuple).Value)))]).length + (x2.1.drop (x7).toNat).length ≤ Lim then (some (Sum.inl ((((([] : (List Row)) ++ (x2.1.take (x7).toNat)) ++ [(Row.mk ((at_ a0 x2.2).Page) ((at_ a0 x2.2).Slot) (Tuple.mk (((at_ a0 x2.2).Tuple).Xmin) (((at_ a0 x2.2).Tuple).Xmax) (((at_ a0 x2.2).Tuple).Key) (((at_ a0 x2.2).Tuple).Value)))]) ++ (x2.1.drop (x7).toNat)), (IntKind.wrap .i64 (x2.2 + (1 : Int)))))) else none) else none) else none) else none) else none) else none).bind fun o => some (Sum.inr o))))
def spec_l15rows.b0 (a0 : (List Row)) (x2 : (List Row) × Int) : Option (((List Row) × Int) ⊕ (List Row)) :=
 (if (decide (x2.2 < (a0.length : Int))) = true then (iter (spec_l15rows.b1 a0 x2) (x2.1.length : Int)) else ((some x2.1).bind fun o => some (Sum.inr o)))
def spec_l15rows.f (a0 : (List Row)) : Option ((List Row)) :=
 (iter (spec_l15rows.b0 a0) (([] : (List Row)), (0 : Int)))
def spec_l15rows.Q (w : World) (F : Nat → Prop) (r : (List Row)) (v : Value) (w' : World) : Prop :=
 FR Yh F w w' [v] r ∧ Ky [] w w'
theorem spec_l15rows.calls (a0 : (List Row)) (w : World) (F : Nat → Prop) (w0_0 : Value) (h0_0 : Yh.rd w [w0_0] a0 F) (r : (List Row)) (m : spec_l15rows.f a0 = some r) :
  Calls prog 19 #[w0_0] w (RT (spec_l15rows.Q w F) r) := by
 obtain ⟨s0, rfl, kp0, z⟩ := Xg w F
 have A0_0 := z.rd h0_0
 refine Xd (args := [w0_0]) func19 ntmps19 rfl rfl m ?_
 unfold spec_l15rows.f
 refine sr (Xb rfl (dn (sr (Xb rfl (dn (sq (sr (Xb rfl (dn (bl (lpI (fun (x2 : (List Row) × Int) e w => ∃ (s : St) (e0 : Env) (vx2_0 : Value), w = s.w ∧ e = upd (upd (upd e0 0 w0_0) 3 vx2_0) 4 (iI x2.2) ∧ Kp s0 s ∧ RwF 51 kd51 s vx2_0 x2.1 42 [0]) ⟨s0, _, (.slice none 0 0), rfl, (ue (ue (ue rfl rfl) rfl) rfl), kp0, (rw_nil 51 kd51 _ 42 [0])⟩ (fun g2 ih2 => ?_))))))))))))
 rintro x2 _ _ ⟨s3, _, vx2_0, rfl, rfl, Kx2, Ax2_0⟩
 unfold spec_l15rows.b0
 refine sq (sr (Xb rfl (Xl w0_0 rfl ?_)))
 refine ln' (A0_0.kp Kx2) u42 rfl (Xb rfl (dn (cd rfl (fun h6 => ?_) (fun h6 => ?_))))
 ·
  refine sk (sq (bl (sr (Xl vx2_0 rfl (ln' Ax2_0.rd u42 rfl (Xb rfl (dn (sq (bl (lpI (fun (x7 : Int) e w => ∃ (s : St) (e0 : Env), w = s.w ∧ e = upd (upd (upd (upd e0 0 w0_0) 3 vx2_0) 4 (iI x2.2)) 5 (iI x7) ∧ Kp s0 s ∧ RwF 51 kd51 s vx2_0 x2.1 42 [0]) ⟨s3, _, rfl, (ue (ue (ue (ue rfl rfl) rfl) rfl) rfl), Kx2, Ax2_0⟩ (fun g7 ih7 => ?_)))))))))))
  rintro x7 _ _ ⟨s8, _, rfl, rfl, Kx7, Cx7_4⟩
  unfold spec_l15rows.b1
  refine sq (sq (zdraw [[], [0], [1], [2], [2], [4, 2], [3, 5, 2], [6, 2], [7, 2], [8, 2], [2], [2], [10, 11, 2], [12, 2], [13, 2], [14, 2], [9, 15, 2, 2], [16, 2], [2, 17]] [some 15, some 16, some 17, some 18, some 19, some 20, some 21, some 22, some 23, some 24, some 25, some 26, some 27, some 28, some 29, some 30, some 31, some 32, some 33] [[5], [15], [16], [3, 17], [5, 17], [19, 17], [18, 20, 17], [21, 17], [22, 17], [23, 17], [0, 17], [4, 17], [25, 26, 17], [27, 17], [28, 17], [29, 17], [24, 30, 17], [31, 17], [17, 32]] [0, 1, 2, 3, 4, 5, 6, 7, 8, 9, 10, 11, 12, 13, 14, 15, 16, 17, 18] ⟨by kernel_rfl, by kernel_rfl, by kernel_rfl⟩ (by kernel_rfl) (fun s9 p9 l9 tb9 zd9 => ?_)))
  have zd12 := ((zd9.add 0 15 (iI x7) rfl).add 1 16 (.bool (decide (x7 > (0 : Int)))) rfl).add 2 17 (.bool (decide (x7 > (0 : Int)))) rfl
  refine ji [] (fun (y13 : Bool) e w => ∃ (s : St) (e0 : Env), w = s.w ∧ e = upd (upd (upd (upd (upd e0 0 w0_0) 3 vx2_0) 4 (iI x2.2)) 5 (iI x7)) 33 (.bool y13) ∧ Kp s0 s ∧ RwF 51 kd51 s vx2_0 x2.1 42 [0]) (fun Gj13 Kj13 => ?_) ?_
  ·
   rcases bft (decide (x7 > (0 : Int))) with hb13 | hb13
   ·
    rw [if_pos hb13]
    rw [hb13] at zd12
    try rw [hb13]
    have zd16 := ((zd12.add 3 18 vx2_0 rfl).add 4 19 (iI x7) rfl).add 5 20 (iI (IntKind.wrap .i64 (x7 - (1 : Int)))) rfl
    have A17 := Cx7_4.st p9 rfl rfl
    refine mg fun hg18 => ?_
    obtain ⟨ad18, es18, he18, ce18, ia18⟩ := ix_e A17.rd rfl hg18.1 hg18.2
    have h0_18 := hg18.1
    have h1_18 := hg18.2
    replace he18 := rw_sharp A17 h0_18 h1_18 ia18 ce18 he18
    obtain ⟨v18_0, v18_1, v18_2, v18_3, rfl, A18_0, A18_1, A18_2, A18_3⟩ := op51 he18
    have K28 := Kx7.st p9 rfl
    have A29 := A0_0.kp K28
    refine mg fun hg30 => ?_
    obtain ⟨ad30, es30, he30, ce30, ia30⟩ := ix_e A29 rfl hg30.1 hg30.2
    obtain ⟨v30_0, v30_1, v30_2, v30_3, rfl, A30_0, A30_1, A30_2, A30_3⟩ := op51 he30
    have zd37 := (((((((((zd16.add 6 21 (.pointer (some ad18)) rfl).add 7 22 (.pointer (some (ad18.add 2))) rfl).add 8 23 (.pointer (some (ad18.add 4))) rfl).add 9 24 (.agg #[(iI ((((at_ x2.1 (IntKind.wrap .i64 (x7 - (1 : Int)))).Tuple).Key).Kind)), (iI ((((at_ x2.1 (IntKind.wrap .i64 (x7 - (1 : Int)))).Tuple).Key).N)), v18_0, v18_1]) rfl).add 10 25 w0_0 rfl).add 11 26 (iI x2.2) rfl).add 12 27 (.pointer (some ad30)) rfl).add 13 28 (.pointer (some (ad30.add 2))) rfl).add 14 29 (.pointer (some (ad30.add 4))) rfl).add 15 30 (.agg #[(iI ((((at_ a0 x2.2).Tuple).Key).Kind)), (iI ((((at_ a0 x2.2).Tuple).Key).N)), v30_0, v30_1]) rfl
    refine zfin [16, 17, 18] tb9 zd37 (Xa (lcq_q (q := 4) (es' := [(iI ((((at_ a0 x2.2).Tuple).Key).Kind)), (iI ((((at_ a0 x2.2).Tuple).Key).N)), v30_0, v30_1]) ce30 u47 z47 rfl rfl rfl rfl rfl rfl rfl rfl) rfl (Xa (faq_q (q := 2) (q' := 2) (n := 4) fa49_2 rfl rfl rfl rfl rfl rfl rfl) rfl (Xa (Xx fa51_2 rfl) rfl (Xa (ix_q' A29 u42 z51 hg30.1 hg30.2 ia30 rfl) rfl (Xa (Xm rfl) rfl (Xa (Xf w0_0 rfl) rfl (Xa (lcq_q (q := 4) (es' := [(iI ((((at_ x2.1 (IntKind.wrap .i64 (x7 - (1 : Int)))).Tuple).Key).Kind)), (iI ((((at_ x2.1 (IntKind.wrap .i64 (x7 - (1 : Int)))).Tuple).Key).N)), v18_0, v18_1]) ce18 u47 z47 rfl rfl rfl rfl rfl rfl rfl rfl) rfl (Xa (faq_q (q := 2) (q' := 2) (n := 4) fa49_2 rfl rfl rfl rfl rfl rfl rfl) rfl (Xa (Xx fa51_2 rfl) rfl (Xa (ix_q' A17.rd u42 z51 hg18.1 hg18.2 ia18 rfl) rfl (Xa (Xm rfl) rfl (Xa (Xm rfl) rfl (Xa (Xf vx2_0 rfl) rfl (Xa (Xm rfl) rfl (Xa (qv_b (Xm rfl) hb13) rfl (Xa (Xm rfl) rfl Xk)))))))))))))))) (by kernel_rfl) (by decide) (clV 43 rfl func36 rfl (spec_ItemCompare.calls (((at_ x2.1 (IntKind.wrap .i64 (x7 - (1 : Int)))).Tuple).Key) (((at_ a0 x2.2).Tuple).Key) s9.w (mm [0] s9) v18_0 v18_1 v30_0 v30_1 ((Xn (s := s9) A18_0).sub (D := [0]) rfl) A18_1 ((Xn (s := s9) A30_0).sub (D := [0]) rfl) A30_1) (fun r38 s39 p39 n39 => ?_))
    refine Xb rfl (Xb rfl ?_)
    exact Kj13 _ _ _ ⟨s39, _, rfl, (ue (ue (ue (ue (ue rfl rfl) rfl) rfl) rfl) rfl), (K28.st p39 rfl), (A17.st p39 rfl rfl)⟩
   rw [if_neg (by rw [hb13]; decide)]
   rw [hb13] at zd12
   try rw [hb13]
   refine zfin [16, 17, 18] tb9 (((((((((((((zd12.add 3 18 undef rfl).add 4 19 undef rfl).add 5 20 undef rfl).add 6 21 undef rfl).add 7 22 undef rfl).add 8 23 undef rfl).add 9 24 undef rfl).add 10 25 undef rfl).add 11 26 undef rfl).add 12 27 undef rfl).add 13 28 undef rfl).add 14 29 undef rfl).add 15 30 undef rfl) (Xa (uw_q' rfl) rfl (Xa (uw_q' rfl) rfl (Xa (uw_q' rfl) rfl (Xa (uw_q' rfl) rfl (Xa (uw_q' rfl) rfl (Xa (uw_q' rfl) rfl (Xa (uw_q' rfl) rfl (Xa (uw_q' rfl) rfl (Xa (uw_q' rfl) rfl (Xa (uw_q' rfl) rfl (Xa (uw_q' rfl) rfl (Xa (uw_q' rfl) rfl (Xa (uw_q' rfl) rfl (Xa (Xm rfl) rfl (Xa (qv_b (Xm rfl) hb13) rfl (Xa (Xm rfl) rfl Xk)))))))))))))))) (by kernel_rfl) (by decide) (Xh rfl (Xh rfl (Xb rfl ?_)))
   exact Kj13 _ _ _ ⟨s9, _, rfl, (ue (ue (ue (ue (ue rfl rfl) rfl) rfl) rfl) rfl), (Kx7.st p9 rfl), (Cx7_4.st p9 rfl rfl)⟩
  rintro y13 _ _ ⟨s57, _, rfl, rfl, Ky13, Cy13_4⟩
  refine dn (cd rfl (fun h58 => ?_) (fun h58 => ?_))
  ·
   exact sk (bl (rg (Xb rfl (Xb rfl (Xb rfl (dn (ib (lb ih7 ⟨s57, _, rfl, (ue (ue (ue (ue rfl rfl) rfl) rfl) rfl), Ky13, Cy13_4⟩))))))))
  refine xt rfl (sgb (sr (Xb rfl (dn (sr (Xb rfl (Xl vx2_0 rfl (Xb rfl (slhE Cy13_4 u42 z51 rfl rfl rfl rfl rfl rfl rfl (fun v59 A59 E59 => ?_))))))))))
  refine apRE sl42 (rw_nil 51 kd51 s57 44 [0]) E59 rfl rfl rfl rfl rfl rfl rfl rfl (fun v61 s61 p61 A61 => ?_)
  refine Xp v61 rfl (dn (sr (Xl v61 rfl (Xl w0_0 rfl (Xb rfl ?_)))))
  have K63 := Ky13.st p61 rfl
  refine ix' (A0_0.kp K63) u42 z51 rfl (fun ad65 es65 h0_65 h1_65 he65 ce65 ia65 => ?_)
  obtain ⟨v65_0, v65_1, v65_2, v65_3, rfl, A65_0, A65_1, A65_2, A65_3⟩ := op51 he65
  refine lca ce65 u51 z51 rfl rfl rfl rfl rfl rfl rfl (ltR (K := kd51) (cells := [(iI ((at_ a0 x2.2).Page)), (iI ((at_ a0 x2.2).Slot)), (iI (((at_ a0 x2.2).Tuple).Xmin)), (iI (((at_ a0 x2.2).Tuple).Xmax)), (iI ((((at_ a0 x2.2).Tuple).Key).Kind)), (iI ((((at_ a0 x2.2).Tuple).Key).N)), v65_0, v65_1, (iI ((((at_ a0 x2.2).Tuple).Value).Kind)), (iI ((((at_ a0 x2.2).Tuple).Value).N)), v65_2, v65_3]) [(Row.mk ((at_ a0 x2.2).Page) ((at_ a0 x2.2).Slot) (Tuple.mk (((at_ a0 x2.2).Tuple).Xmin) (((at_ a0 x2.2).Tuple).Xmax) (((at_ a0 x2.2).Tuple).Key) (((at_ a0 x2.2).Tuple).Value)))] 45 [0] rfl u42 z51 o51 (el_cons (mk51 (x := (Row.mk ((at_ a0 x2.2).Page) ((at_ a0 x2.2).Slot) (Tuple.mk (((at_ a0 x2.2).Tuple).Xmin) (((at_ a0 x2.2).Tuple).Xmax) (((at_ a0 x2.2).Tuple).Key) (((at_ a0 x2.2).Tuple).Value)))) A65_0 A65_1 A65_2 A65_3) el_nil) rfl rfl rfl rfl rfl rfl rfl rfl rfl rfl (fun v69 s69 p69 A69 => ?_))
  refine apRR sl42 ((A61.sub (D := [0]) rfl).st p69 rfl rfl) A69 rfl rfl rfl rfl rfl rfl rfl rfl (fun v72 s72 p72 A72 => ?_)
  refine Xp v72 rfl (dn (rg (Xl v72 rfl (Xl vx2_0 rfl (Xb rfl ?_)))))
  refine slaE (Cy13_4.st (tr3 p61 p69 p72) rfl rfl) u42 z51 rfl rfl rfl rfl rfl rfl rfl (fun v75 A75 E75 => ?_)
  refine apRE sl42 (A72.sub (D := [0]) rfl) E75 rfl rfl rfl rfl rfl rfl rfl rfl (fun v77 s77 p77 A77 => ?_)
  refine Xp v77 rfl (dn (ib (rg (Xb rfl (Xb rfl (Xb rfl (dn ?_)))))))
  obtain ⟨s79, hw79, p79, A79⟩ := (A77.sub (D := [0]) rfl).rc 42 rfl rfl
  rw [hw79]
  exact lb ih2 ⟨s79, _, v77, rfl, (ue (ue (ue rfl rfl) rfl) rfl), (K63.st (tr4 p69 p72 p77 p79) rfl), A79⟩
 exact xt rfl (sgb (sr (Xl vx2_0 rfl (Xp vx2_0 rfl (dn (re rfl func19 rfl (Xo rfl Xe) rfl ⟨_, rfl, z.fr Kx2 Ax2_0.rd rfl, z.ky Kx2⟩))))))
def spec_Committed.b1 (r57 : (List Row)) (x60 : (List Pair) × Int) : Option (((List Pair) × Int) ⊕ (List Pair)) :=
 (if (decide (x60.2 < (r57.length : Int))) = true then (if 0 ≤ x60.2 ∧ x60.2 < (r57.length : Int) then (if 0 ≤ x60.2 ∧ x60.2 < (r57.length : Int) then (if x60.1.length + ([(Pair.mk (((at_ r57 x60.2).Tuple).Key) (((at_ r57 x60.2).Tuple).Value))]).length ≤ Lim then (some (Sum.inl ((x60.1 ++ [(Pair.mk (((at_ r57 x60.2).Tuple).Key) (((at_ r57 x60.2).Tuple).Value))]), (IntKind.wrap .i64 (x60.2 + (1 : Int)))))) else none) else none) else none) else ((some x60.1).bind fun o => some (Sum.inr o)))
def spec_Committed.b0 (a1 : (List Int)) (r7 : (List Row)) (x10 : (List Row) × Int) : Option (((List Row) × Int) ⊕ (List Pair)) :=
 (if (decide (x10.2 < (r7.length : Int))) = true then (if 0 ≤ x10.2 ∧ x10.2 < (r7.length : Int) then ((spec_StatusOf.f a1 (((at_ r7 x10.2).Tuple).Xmin)).bind fun r27 => ((if (r27 == (1 : Int)) = true then ((spec_StatusOf.f a1 (((at_ r7 x10.2).Tuple).Xmax)).bind fun r33 => (some (r33 != (1 : Int)))) else (some false)).bind fun y29 => ((if y29 = true then (if 0 ≤ x10.2 ∧ x10.2 < (r7.length : Int) then (if x10.1.length + ([(Row.mk ((at_ r7 x10.2).Page) ((at_ r7 x10.2).Slot) (Tuple.mk (((at_ r7 x10.2).Tuple).Xmin) (((at_ r7 x10.2).Tuple).Xmax) (((at_ r7 x10.2).Tuple).Key) (((at_ r7 x10.2).Tuple).Value)))]).length ≤ Lim then (some (x10.1 ++ [(Row.mk ((at_ r7 x10.2).Page) ((at_ r7 x10.2).Slot) (Tuple.mk (((at_ r7 x10.2).Tuple).Xmin) (((at_ r7 x10.2).Tuple).Xmax) (((at_ r7 x10.2).Tuple).Key) (((at_ r7 x10.2).Tuple).Value)))])) else none) else none) else (some x10.1)).bind fun y42 => (some (Sum.inl (y42, (IntKind.wrap .i64 (x10.2 + (1 : Int))))))))) else none) else (((spec_l15rows.f x10.1).bind fun r57 => (iter (spec_Committed.b1 r57) (([] : (List Pair)), (0 : Int)))).bind fun o => some (Sum.inr o)))
def spec_Committed.f (a0 : Heap) (a1 : (List Int)) : Option ((List Pair)) :=
 ((spec_HeapRows.f a0).bind fun r7 => (iter (spec_Committed.b0 a1 r7) (([] : (List Row)), (0 : Int))))
def spec_Committed.Q (w : World) (F : Nat → Prop) (r : (List Pair)) (v : Value) (w' : World) : Prop :=
 FR Yi F w w' [v] r ∧ Ky [] w w'
theorem spec_Committed.calls (a0 : Heap) (a1 : (List Int)) (w : World) (F : Nat → Prop) (w0_0 : Value) (w1_0 : Value) (h0_0 : Yg.rd w [w0_0] a0.Pages F) (h1_0 : Yj.rd w [w1_0] a1 F) (r : (List Pair)) (m : spec_Committed.f a0 a1 = some r) :
  Calls prog 5 #[(.agg #[w0_0]), w1_0] w (RT (spec_Committed.Q w F) r) := by
 obtain ⟨s0, rfl, kp0, z⟩ := Xg w F
 have A1_0 := z.rd h1_0
 refine Xd (args := [(.agg #[w0_0]), w1_0]) func5 ntmps5 rfl rfl m ?_
 unfold spec_Committed.f
 refine sr (bx' (cs := [w0_0]) 40 rfl rfl (fun b3 s3 p3 B3 => ?_))
 refine Xb rfl (dn (sr (Xb rfl (dn (sr (Yc (es := [w0_0]) B3 u31 z31 rfl ?_))))))
 have K5 := kp0.st p3 rfl
 refine clO 41 rfl func17 rfl (spec_HeapRows.calls a0 s3.w (mm [0] s3) w0_0 ((z.rd h0_0).kp K5)) (fun r7 v7_0 s8 p8 A7_0 => ?_)
 refine Xp v7_0 rfl (dn (sq (sr (Xb rfl (dn (bl ?_))))))
 refine lpI (fun (x10 : (List Row) × Int) e w => ∃ (s : St) (e0 : Env) (vx10_0 : Value), w = s.w ∧ e = upd (upd (upd (upd e0 1 w1_0) 5 vx10_0) 6 v7_0) 7 (iI x10.2) ∧ Kp s0 s ∧ RwF 51 kd51 s vx10_0 x10.1 43 [41] ∧ OwF Yh s [v7_0] r7 41) ⟨s8, _, (.slice none 0 0), rfl, (ue (ue (ue (ue rfl rfl) rfl) rfl) rfl), (K5.st p8 rfl), (rw_nil 51 kd51 _ 43 [41]), A7_0⟩ (fun g10 ih10 => ?_)
 rintro x10 _ _ ⟨s12, _, vx10_0, rfl, rfl, Kx10, Ax10_0, Cx10_9⟩
 unfold spec_Committed.b0
 refine sq (sr (Xb rfl (Xl v7_0 rfl (ln' Cx10_9.rd u42 rfl (Xb rfl (dn (cd rfl (fun h14 => ?_) (fun h14 => ?_))))))))
 ·
  refine sk (sq (bl (sr (Xl v7_0 rfl (Xb rfl (ix' Cx10_9.rd u42 z51 rfl (fun ad15 es15 h0_15 h1_15 he15 ce15 ia15 => ?_)))))))
  obtain ⟨v15_0, v15_1, v15_2, v15_3, rfl, A15_0, A15_1, A15_2, A15_3⟩ := op51 he15
  refine Xr fa51_2 rfl (lcq (q := 2) (es' := [(iI (((at_ r7 x10.2).Tuple).Xmin)), (iI (((at_ r7 x10.2).Tuple).Xmax)), (iI ((((at_ r7 x10.2).Tuple).Key).Kind)), (iI ((((at_ r7 x10.2).Tuple).Key).N)), v15_0, v15_1, (iI ((((at_ r7 x10.2).Tuple).Value).Kind)), (iI ((((at_ r7 x10.2).Tuple).Value).N)), v15_2, v15_3]) ce15 u49 z49 rfl rfl rfl rfl rfl rfl rfl rfl (al' (cs := [(iI 0), (iI 0), (iI 0), (iI 0), (.float .f64 0), (.slice none 0 0), (iI 0), (iI 0), (.float .f64 0), (.slice none 0 0)]) 44 rfl o49 rfl (fun b19 s19 p19 B19 => ?_)))
  refine sva' (vs := [(iI (((at_ r7 x10.2).Tuple).Xmin)), (iI (((at_ r7 x10.2).Tuple).Xmax)), (iI ((((at_ r7 x10.2).Tuple).Key).Kind)), (iI ((((at_ r7 x10.2).Tuple).Key).N)), v15_0, v15_1, (iI ((((at_ r7 x10.2).Tuple).Value).Kind)), (iI ((((at_ r7 x10.2).Tuple).Value).N)), v15_2, v15_3]) B19 z49 rfl (Xc rfl (Xc rfl (Xc rfl (Xc rfl (Xc (FL.one A15_0) (Xc (A15_1.st p19 rfl).one (Xc rfl (Xc rfl (Xc (FL.one A15_2) (Xc (A15_3.st p19 rfl).one Xt)))))))))) rfl (fun s23 p23 B23 => ?_)
  refine dn (sr (Xl w1_0 rfl (Xr fa49_0 rfl (ld' B23 u3 rfl ?_))))
  have K25 := Kx10.st (Xs p19 p23) rfl
  refine clV 45 rfl func18 rfl (spec_StatusOf.calls a1 (((at_ r7 x10.2).Tuple).Xmin) s23.w (mm [0] s23) w1_0 (A1_0.kp K25)) (fun r27 s28 p28 n28 => ?_)
  refine Xb rfl (Xb rfl (ji [] (fun (y29 : Bool) e w => ∃ (s : St) (e0 : Env), w = s.w ∧ e = upd (upd (upd (upd (upd e0 1 w1_0) 5 vx10_0) 6 v7_0) 7 (iI x10.2)) 35 (.bool y29) ∧ Kp s0 s ∧ RwF 51 kd51 s vx10_0 x10.1 43 [41] ∧ OwF Yh s [v7_0] r7 41) (fun Gj29 Kj29 => ?_) ?_))
  ·
   rcases bft (r27 == (1 : Int)) with hb29 | hb29
   ·
    refine Xu hb29 ?_
    rw [if_pos hb29]
    refine Xl w1_0 rfl (Xr fa49_1 rfl ?_)
    refine ld' (B23.st p28 rfl) u3 rfl ?_
    have K31 := K25.st p28 rfl
    refine clV 46 rfl func18 rfl (spec_StatusOf.calls a1 (((at_ r7 x10.2).Tuple).Xmax) s28.w (mm [0] s28) w1_0 (A1_0.kp K31)) (fun r33 s34 p34 n34 => ?_)
    refine Xb rfl (Xb rfl ?_)
    exact Kj29 _ _ _ ⟨s34, _, rfl, (ue (ue (ue (ue (ue rfl rfl) rfl) rfl) rfl) rfl), (K31.st p34 rfl), (Ax10_0.st (tr4 p19 p23 p28 p34) rfl rfl), (Cx10_9.st (tr4 p19 p23 p28 p34) rfl)⟩
   refine Xu hb29 ?_
   rw [if_neg (by rw [hb29]; decide)]
   refine Xh rfl (Xh rfl (Xh rfl (Xh rfl (Xh rfl (Xb rfl ?_)))))
   exact Kj29 _ _ _ ⟨s28, _, rfl, (ue (ue (ue (ue (ue rfl rfl) rfl) rfl) rfl) rfl), (K25.st p28 rfl), (Ax10_0.st (tr3 p19 p23 p28) rfl rfl), (Cx10_9.st (tr3 p19 p23 p28) rfl)⟩
  rintro y29 _ _ ⟨s41, _, rfl, rfl, Ky29, Cy29_13, Cy29_9⟩
  refine dn (jc (fun (y42 : (List Row)) e w => ∃ (s : St) (e0 : Env) (vy42_0 : Value), w = s.w ∧ e = upd (upd (upd (upd e0 1 w1_0) 5 vy42_0) 6 v7_0) 7 (iI x10.2) ∧ Kp s0 s ∧ RwF 51 kd51 s vy42_0 y42 43 [41] ∧ OwF Yh s [v7_0] r7 41) (fun Gj42 Kj42 => ?_) ?_)
  ·
   refine cd rfl (fun h43 => ?_) (fun h43 => ?_)
   ·
    refine rg (Xl vx10_0 rfl (Xl v7_0 rfl (Xb rfl (ix' Cy29_9.rd u42 z51 rfl (fun ad44 es44 h0_44 h1_44 he44 ce44 ia44 => ?_)))))
    obtain ⟨v44_0, v44_1, v44_2, v44_3, rfl, A44_0, A44_1, A44_2, A44_3⟩ := op51 he44
    refine lca ce44 u51 z51 rfl rfl rfl rfl rfl rfl rfl (ltR (K := kd51) (cells := [(iI ((at_ r7 x10.2).Page)), (iI ((at_ r7 x10.2).Slot)), (iI (((at_ r7 x10.2).Tuple).Xmin)), (iI (((at_ r7 x10.2).Tuple).Xmax)), (iI ((((at_ r7 x10.2).Tuple).Key).Kind)), (iI ((((at_ r7 x10.2).Tuple).Key).N)), v44_0, v44_1, (iI ((((at_ r7 x10.2).Tuple).Value).Kind)), (iI ((((at_ r7 x10.2).Tuple).Value).N)), v44_2, v44_3]) [(Row.mk ((at_ r7 x10.2).Page) ((at_ r7 x10.2).Slot) (Tuple.mk (((at_ r7 x10.2).Tuple).Xmin) (((at_ r7 x10.2).Tuple).Xmax) (((at_ r7 x10.2).Tuple).Key) (((at_ r7 x10.2).Tuple).Value)))] 47 [41] rfl u42 z51 o51 (el_cons (mk51 (x := (Row.mk ((at_ r7 x10.2).Page) ((at_ r7 x10.2).Slot) (Tuple.mk (((at_ r7 x10.2).Tuple).Xmin) (((at_ r7 x10.2).Tuple).Xmax) (((at_ r7 x10.2).Tuple).Key) (((at_ r7 x10.2).Tuple).Value)))) A44_0 A44_1 A44_2 A44_3) el_nil) rfl rfl rfl rfl rfl rfl rfl rfl rfl rfl (fun v48 s48 p48 A48 => ?_))
    refine apRR sl42 (Cy29_13.st p48 rfl rfl) A48 rfl rfl rfl rfl rfl rfl rfl rfl (fun v51 s51 p51 A51 => ?_)
    refine Xp v51 rfl (dn ?_)
    exact Kj42 _ _ _ ⟨s51, _, v51, rfl, (ue (ue (ue (ue rfl rfl) rfl) rfl) rfl), (Ky29.st (Xs p48 p51) rfl), (A51.sub (D := [41]) rfl), (Cy29_9.st (Xs p48 p51) rfl)⟩
   exact sk (Kj42 _ _ _ ⟨s41, _, vx10_0, rfl, (ue (ue (ue (ue rfl rfl) rfl) rfl) rfl), Ky29, Cy29_13, Cy29_9⟩)
  rintro y42 _ _ ⟨s55, _, vy42_0, rfl, rfl, Ky42, Ay42_0, Cy42_9⟩
  exact ib (rg (Xb rfl (Xb rfl (Xb rfl (dn (lb ih10 ⟨s55, _, vy42_0, rfl, (ue (ue (ue (ue rfl rfl) rfl) rfl) rfl), Ky42, Ay42_0, Cy42_9⟩))))))
 refine xt rfl (sgb (sr (Xl vx10_0 rfl (cl' rfl func19 rfl (spec_l15rows.calls x10.1 s12.w (mm [43, 41] s12) vx10_0 Ax10_0.rd) ?_))))
 rintro r57 v57_0 w57 m57 ⟨f57_0, ky57⟩
 obtain ⟨s58, rfl, p58, n58⟩ := nwx s12 w57 48 ky57
 refine Xp v57_0 rfl (dn (sr (Xb rfl (dn (sq (sr (Xb rfl (dn (bl ?_)))))))))
 refine lpI (fun (x60 : (List Pair) × Int) e w => ∃ (s : St) (e0 : Env) (vx60_0 : Value), w = s.w ∧ e = upd (upd (upd e0 5 v57_0) 9 vx60_0) 10 (iI x60.2) ∧ Kp s0 s ∧ RwF 54 kd54 s vx60_0 x60.1 50 [48, 43, 41] ∧ RdF Yh s [v57_0] r57 [48, 43, 41]) ⟨s58, _, (.slice none 0 0), rfl, (ue (ue (ue rfl rfl) rfl) rfl), (Kx10.st p58 rfl), (rw_nil 54 kd54 _ 50 [48, 43, 41]), (f57_0.c n58)⟩ (fun g60 ih60 => ?_)
 rintro x60 _ _ ⟨s62, _, vx60_0, rfl, rfl, Kx60, Ax60_0, Cx60_59⟩
 unfold spec_Committed.b1
 refine sq (sr (Xb rfl (Xl v57_0 rfl (ln' Cx60_59 u42 rfl (Xb rfl (dn (cd rfl (fun h64 => ?_) (fun h64 => ?_))))))))
 ·
  refine sk (sq (bl (zdraw [[], [], [], [1, 2], [3], [4], [5], [], [], [7, 8], [9], [10], [11], [6, 12], [13], [0, 14], [15, 15, 0, 1, 2, 3, 4, 5, 6, 7, 8, 9, 10, 11, 12, 13, 14, 15]] [some 51, some 52, some 53, some 54, some 55, some 56, some 57, some 58, some 59, some 60, some 61, some 62, some 63, some 64, some 65, some 66, some 9] [[9], [5], [10], [52, 53], [54], [55], [56], [5], [10], [58, 59], [60], [61], [62], [57, 63], [64], [51, 65], [66]] [0, 1, 2, 3, 4, 5, 6, 7, 8, 9, 10, 11, 12, 13, 14, 15, 16] ⟨by kernel_rfl, by kernel_rfl, by kernel_rfl⟩ (by kernel_rfl) (fun s65 p65 l65 tb65 zd65 => ?_))))
  have A69 := Cx60_59.st p65 rfl
  refine mg fun hg70 => ?_
  obtain ⟨ad70, es70, he70, ce70, ia70⟩ := ix_e A69 rfl hg70.1 hg70.2
  obtain ⟨v70_0, v70_1, v70_2, v70_3, rfl, A70_0, A70_1, A70_2, A70_3⟩ := op51 he70
  refine mg fun hg80 => ?_
  obtain ⟨ad80, es80, he80, ce80, ia80⟩ := ix_e A69 rfl hg80.1 hg80.2
  obtain ⟨v80_0, v80_1, v80_2, v80_3, rfl, A80_0, A80_1, A80_2, A80_3⟩ := op51 he80
  have zd88 := (((((((((((((zd65.add 0 51 vx60_0 rfl).add 1 52 v57_0 rfl).add 2 53 (iI x60.2) rfl).add 3 54 (.pointer (some ad70)) rfl).add 4 55 (.pointer (some (ad70.add 2))) rfl).add 5 56 (.pointer (some (ad70.add 4))) rfl).add 6 57 (.agg #[(iI ((((at_ r57 x60.2).Tuple).Key).Kind)), (iI ((((at_ r57 x60.2).Tuple).Key).N)), v70_0, v70_1]) rfl).add 7 58 v57_0 rfl).add 8 59 (iI x60.2) rfl).add 9 60 (.pointer (some ad80)) rfl).add 10 61 (.pointer (some (ad80.add 2))) rfl).add 11 62 (.pointer (some (ad80.add 8))) rfl).add 12 63 (.agg #[(iI ((((at_ r57 x60.2).Tuple).Value).Kind)), (iI ((((at_ r57 x60.2).Tuple).Value).N)), v80_2, v80_3]) rfl).add 13 64 (.agg #[(iI ((((at_ r57 x60.2).Tuple).Key).Kind)), (iI ((((at_ r57 x60.2).Tuple).Key).N)), v70_0, v70_1, (iI ((((at_ r57 x60.2).Tuple).Value).Kind)), (iI ((((at_ r57 x60.2).Tuple).Value).N)), v80_2, v80_3]) rfl
  refine zstep 14 [some 51] tb65 zd88 (Xa (bd_q (cells := [(iI ((((at_ r57 x60.2).Tuple).Key).Kind)), (iI ((((at_ r57 x60.2).Tuple).Key).N)), v70_0, v70_1, (iI ((((at_ r57 x60.2).Tuple).Value).Kind)), (iI ((((at_ r57 x60.2).Tuple).Value).N)), v80_2, v80_3]) pl54 o54 rfl rfl rfl rfl rfl rfl) rfl (Xa (lcq_q (q := 8) (es' := [(iI ((((at_ r57 x60.2).Tuple).Value).Kind)), (iI ((((at_ r57 x60.2).Tuple).Value).N)), v80_2, v80_3]) ce80 u47 z47 rfl rfl rfl rfl rfl rfl rfl rfl) rfl (Xa (faq_q (q := 2) (q' := 6) (n := 8) fa49_3 rfl rfl rfl rfl rfl rfl rfl) rfl (Xa (Xx fa51_2 rfl) rfl (Xa (ix_q' A69 u42 z51 hg80.1 hg80.2 ia80 rfl) rfl (Xa (Xm rfl) rfl (Xa (Xf v57_0 rfl) rfl (Xa (lcq_q (q := 4) (es' := [(iI ((((at_ r57 x60.2).Tuple).Key).Kind)), (iI ((((at_ r57 x60.2).Tuple).Key).N)), v70_0, v70_1]) ce70 u47 z47 rfl rfl rfl rfl rfl rfl rfl rfl) rfl (Xa (faq_q (q := 2) (q' := 2) (n := 4) fa49_2 rfl rfl rfl rfl rfl rfl rfl) rfl (Xa (Xx fa51_2 rfl) rfl (Xa (ix_q' A69 u42 z51 hg70.1 hg70.2 ia70 rfl) rfl (Xa (Xm rfl) rfl (Xa (Xf v57_0 rfl) rfl (Xa (Xf vx60_0 rfl) rfl Xk)))))))))))))) (by kernel_rfl) rfl (fun l89 e89 zd89 => ?_)
  refine ltR (K := kd54) (cells := [(iI ((((at_ r57 x60.2).Tuple).Key).Kind)), (iI ((((at_ r57 x60.2).Tuple).Key).N)), v70_0, v70_1, (iI ((((at_ r57 x60.2).Tuple).Value).Kind)), (iI ((((at_ r57 x60.2).Tuple).Value).N)), v80_2, v80_3]) [(Pair.mk (((at_ r57 x60.2).Tuple).Key) (((at_ r57 x60.2).Tuple).Value))] 51 [48, 43, 41] rfl u27 z54 o54 (el_cons (mk54 (x := (Pair.mk (((at_ r57 x60.2).Tuple).Key) (((at_ r57 x60.2).Tuple).Value))) A70_0 A70_1 A80_2 A80_3) el_nil) rfl rfl rfl rfl rfl rfl rfl rfl rfl rfl (fun v90 s90 p90 A90 => ?_)
  refine Xy (L' := [0]) (D' := [1, 2, 3, 4, 5, 7, 8, 9, 10, 11, 6, 12, 13, 14]) zd89 rfl rfl rfl (fun zd92 => ?_)
  refine zfin [15, 16] tb65 zd92 (Xa (Xf vx60_0 rfl) rfl Xk) (by kernel_rfl) (by decide) (apRR sl27 (Ax60_0.st (Xs p65 p90) rfl rfl) A90 rfl rfl rfl rfl rfl rfl rfl rfl (fun v94 s94 p94 A94 => ?_))
  refine Xp v94 rfl (dn (ib (rg (Xb rfl (Xb rfl (Xb rfl (dn ?_)))))))
  exact lb ih60 ⟨s94, _, v94, rfl, (ue (ue (ue rfl rfl) rfl) rfl), (Kx60.st (tr3 p65 p90 p94) rfl), (A94.sub (D := [48, 43, 41]) rfl), (A69.st (Xs p90 p94) rfl)⟩
 exact xt rfl (sgb (sr (Xl vx60_0 rfl (Xp vx60_0 rfl (dn (re rfl func5 rfl (Xo rfl Xe) rfl ⟨_, rfl, z.fr Kx60 Ax60_0.rd rfl, z.ky Kx60⟩))))))
def impl_within.f (a0 : Int) (a1 : Int) (a2 : Int) : Option (Bool) :=
 (some ((decide (a1 ≤ a0)) && (decide (a0 ≤ a2))))
def impl_within.Q (w : World) (F : Nat → Prop) (r : Bool) (v : Value) (w' : World) : Prop :=
 v = (.bool r) ∧ Ky [] w w'
theorem impl_within.calls (a0 : Int) (a1 : Int) (a2 : Int) (w : World) (F : Nat → Prop)   (r : Bool) (m : impl_within.f a0 a1 a2 = some r) :
  Calls prog 43 #[(iI a0), (iI a1), (iI a2)] w (RT (impl_within.Q w F) r) := by
 obtain ⟨s0, rfl, kp0, z⟩ := Xg w F
 refine Xd (args := [(iI a0), (iI a1), (iI a2)]) func43 ntmps43 rfl rfl m ?_
 unfold impl_within.f
 refine sr (Xb rfl (dn (sr (Xb rfl (Xb rfl (Xb rfl (Xb rfl (jy [10, 11, 12, 13, 14] [8] 14 (.bool ((decide (a1 ≤ a0)) && (decide (a0 ≤ a2)))) rfl (fun Kg1 => ?_) (fun j1 => ?_)))))))))
 ·
  rcases bft (decide (a1 ≤ a0)) with hb1 | hb1
  ·
   exact Xu hb1 (Xb rfl (Xb rfl (Xb rfl (Xb rfl (Kg1 _ (Ag.put ((Ag.put ((Ag.put ((Ag.put (Ag.base rfl) rfl)) rfl)) rfl)) rfl) (by rw [hb1]; rfl))))))
  exact Xu hb1 (Xh rfl (Xh rfl (Xh rfl (Xb rfl (Kg1 _ (Ag.put ((Ag.put ((Ag.put ((Ag.put (Ag.base rfl) rfl)) rfl)) rfl)) rfl) (by rw [hb1]; rfl))))))
 exact Xb rfl (dn (re rfl func43 rfl (Xo rfl Xe) rfl ⟨_, rfl, rfl, z.ky kp0⟩))
def impl_isXid.f (a0 : Int) : Option (Bool) :=
 ((impl_within.f a0 (1 : Int) (400 : Int)).bind fun r1 => (some r1))
def impl_isXid.Q (w : World) (F : Nat → Prop) (r : Bool) (v : Value) (w' : World) : Prop :=
 v = (.bool r) ∧ Ky [] w w'
theorem impl_isXid.calls (a0 : Int) (w : World) (F : Nat → Prop)   (r : Bool) (m : impl_isXid.f a0 = some r) :
  Calls prog 42 #[(iI a0)] w (RT (impl_isXid.Q w F) r) := by
 obtain ⟨s0, rfl, kp0, z⟩ := Xg w F
 refine Xd (args := [(iI a0)]) func42 ntmps42 rfl rfl m ?_
 unfold impl_isXid.f
 refine sr (Xb rfl (dn (sr (Xb rfl (clV 40 rfl func43 rfl (impl_within.calls a0 (1 : Int) (400 : Int) s0.w (mm [] s0)) (fun r1 s2 p2 n2 => ?_))))))
 refine Xb rfl (dn ?_)
 exact re rfl func42 rfl (Xo rfl Xe) rfl ⟨_, rfl, rfl, z.ky (kp0.st p2 rfl)⟩
def impl_StatusOf.f (a0 : (List Int)) (a1 : Int) : Option (Int) :=
 ((impl_isXid.f a1).bind fun r2 => ((if ((!r2) || (decide (a1 ≥ (a0.length : Int)))) = true then (some true) else (if 0 ≤ a1 ∧ a1 < (a0.length : Int) then ((impl_within.f (at_ a0 a1) (0 : Int) (2 : Int)).bind fun r13 => (some (!r13))) else none)).bind fun y7 => (if y7 = true then (some (0 : Int)) else (if 0 ≤ a1 ∧ a1 < (a0.length : Int) then (some (at_ a0 a1)) else none))))
def impl_StatusOf.Q (w : World) (F : Nat → Prop) (r : Int) (v : Value) (w' : World) : Prop :=
 v = (iI r) ∧ Ky [] w w'
theorem impl_StatusOf.calls (a0 : (List Int)) (a1 : Int) (w : World) (F : Nat → Prop) (w0_0 : Value) (h0_0 : Yj.rd w [w0_0] a0 F) (r : Int) (m : impl_StatusOf.f a0 a1 = some r) :
  Calls prog 23 #[w0_0, (iI a1)] w (RT (impl_StatusOf.Q w F) r) := by
 obtain ⟨s0, rfl, kp0, z⟩ := Xg w F
 have A0_0 := z.rd h0_0
 refine Xd (args := [w0_0, (iI a1)]) func23 ntmps23 rfl rfl m ?_
 unfold impl_StatusOf.f
 refine sr (Xb rfl (dn (sq (sr (Xb rfl (clV 40 rfl func42 rfl (impl_isXid.calls a1 s0.w (mm [] s0)) (fun r2 s3 p3 n3 => ?_)))))))
 refine Xb rfl (Xb rfl (jy [8, 9, 10, 11, 12, 13] [9, 10, 11, 12, 13, 14, 15, 16] 13 (.bool ((!r2) || (decide (a1 ≥ (a0.length : Int))))) rfl (fun Kg4 => ?_) (fun j4 => ?_)))
 ·
  rcases bft (!r2) with hb4 | hb4
  ·
   exact Xu hb4 (Xh rfl (Xh rfl (Xh rfl (Xh rfl (Xb rfl (Kg4 _ (Ag.put ((Ag.put ((Ag.put ((Ag.put ((Ag.put (Ag.base rfl) rfl)) rfl)) rfl)) rfl)) rfl) (by rw [hb4]; rfl)))))))
  refine Xu hb4 (Xb rfl (Xl w0_0 rfl ?_))
  exact ln' (A0_0.kp (kp0.st p3 rfl)) u25 rfl (Xb rfl (Xb rfl (Kg4 _ (Ag.put ((Ag.put ((Ag.put ((Ag.put ((Ag.put (Ag.base rfl) rfl)) rfl)) rfl)) rfl)) rfl) (by rw [hb4]; rfl))))
 refine Xb rfl (ji [] (fun (y7 : Bool) e w => ∃ (s : St) (e0 : Env), w = s.w ∧ e = upd (upd (upd e0 0 w0_0) 1 (iI a1)) 21 (.bool y7) ∧ Kp s0 s) (fun Gj7 Kj7 => ?_) ?_)
 ·
  rcases bft ((!r2) || (decide (a1 ≥ (a0.length : Int)))) with hb7 | hb7
  ·
   refine Xu hb7 ?_
   rw [if_pos hb7]
   refine Xh rfl (Xh rfl (Xh rfl (Xh rfl (Xh rfl (Xh rfl (Xb rfl ?_))))))
   exact Kj7 _ _ _ ⟨s3, _, rfl, (ue (ue (ue rfl rfl) rfl) rfl), (kp0.st p3 rfl)⟩
  refine Xu hb7 ?_
  rw [if_neg (by rw [hb7]; decide)]
  refine Xl w0_0 rfl (Xb rfl ?_)
  have K9 := kp0.st p3 rfl
  refine ix' (A0_0.kp K9) u25 z3 rfl (fun ad11 es11 h0_11 h1_11 he11 ce11 ia11 => ?_)
  obtain rfl := he11
  refine lc0' ce11 u3 rfl (clV 41 rfl func43 rfl (impl_within.calls (at_ a0 a1) (0 : Int) (2 : Int) s3.w (mm [] s3)) (fun r13 s14 p14 n14 => ?_))
  refine Xb rfl (Xb rfl ?_)
  exact Kj7 _ _ _ ⟨s14, _, rfl, (ue (ue (ue rfl rfl) rfl) rfl), (K9.st p14 rfl)⟩
 rintro y7 _ _ ⟨s16, _, rfl, rfl, Ky7⟩
 refine dn (cd rfl (fun h17 => ?_) (fun h17 => ?_))
 ·
  exact sr (Xb rfl (dn (re rfl func23 rfl (Xo rfl Xe) rfl ⟨_, rfl, rfl, z.ky Ky7⟩)))
 refine sk (sr (Xl w0_0 rfl (Xb rfl ?_)))
 refine ix' (A0_0.kp Ky7) u25 z3 rfl (fun ad19 es19 h0_19 h1_19 he19 ce19 ia19 => ?_)
 obtain rfl := he19
 exact lc0' ce19 u3 rfl (Xb rfl (dn (re rfl func23 rfl (Xo rfl Xe) rfl ⟨_, rfl, rfl, z.ky Ky7⟩)))
def impl_Committed_1.f (a0 : Tuple) (a1 : (List Int)) : Option (Bool) :=
 ((impl_StatusOf.f a1 a0.Xmin).bind fun r10 => ((if (r10 == (1 : Int)) = true then ((impl_StatusOf.f a1 a0.Xmax).bind fun r17 => (some (r17 != (1 : Int)))) else (some false)).bind fun y12 => (some y12)))
def impl_Committed_1.Q (w : World) (F : Nat → Prop) (r : Bool) (v : Value) (w' : World) : Prop :=
 v = (.bool r) ∧ Ky [] w w'
theorem impl_Committed_1.calls (a0 : Tuple) (a1 : (List Int)) (w : World) (F : Nat → Prop) (w0_0 : Value) (w0_1 : Value) (w0_2 : Value) (w0_3 : Value) (c1 : Nat) (w1_0 : Value) (h0_0 : Kd.flt.rd w [w0_0] a0.Key.F F) (h0_1 : Ye.rd w [w0_1] a0.Key.T F) (h0_2 : Kd.flt.rd w [w0_2] a0.Value.F F) (h0_3 : Ye.rd w [w0_3] a0.Value.T F) (h1_0 : Yj.rd w [w1_0] a1 F) (hb1 : BlW w c1 25 [w1_0]) (hp1 : F c1) (r : Bool) (m : impl_Committed_1.f a0 a1 = some r) :
  Calls prog 22 #[(.agg #[(iI a0.Xmin), (iI a0.Xmax), (iI a0.Key.Kind), (iI a0.Key.N), w0_0, w0_1, (iI a0.Value.Kind), (iI a0.Value.N), w0_2, w0_3]), (pB c1)] w (RT (impl_Committed_1.Q w F) r) := by
 obtain ⟨s0, rfl, kp0, z⟩ := Xg w F
 have A1_0 := z.rd h1_0
 refine Xd (args := [(.agg #[(iI a0.Xmin), (iI a0.Xmax), (iI a0.Key.Kind), (iI a0.Key.N), w0_0, w0_1, (iI a0.Value.Kind), (iI a0.Value.N), w0_2, w0_3]), (pB c1)]) func22 ntmps22 rfl rfl m ?_
 unfold impl_Committed_1.f
 refine sr (bx' (cs := [(iI a0.Xmin), (iI a0.Xmax), (iI a0.Key.Kind), (iI a0.Key.N), w0_0, w0_1, (iI a0.Value.Kind), (iI a0.Value.N), w0_2, w0_3]) 40 rfl rfl (fun b5 s5 p5 B5 => ?_))
 refine Xb rfl (dn (sr ?_))
 have A7 := BlF.st (z.b0 hb1 hp1) p5 rfl
 refine ld' A7 u25 rfl (Xr fa49_0 rfl (ld' B5 u3 rfl ?_))
 have K8 := kp0.st p5 rfl
 refine clV 41 rfl func23 rfl (impl_StatusOf.calls a1 a0.Xmin s5.w (mm [0] s5) w1_0 (A1_0.kp K8)) (fun r10 s11 p11 n11 => ?_)
 refine Xb rfl (Xb rfl (ji [12] (fun (y12 : Bool) e w => ∃ (s : St) (e0 : Env), w = s.w ∧ e = upd e0 15 (.bool y12) ∧ Kp s0 s) (fun Gj12 Kj12 => ?_) ?_))
 ·
  rcases bft (r10 == (1 : Int)) with hb12 | hb12
  ·
   refine Xu hb12 ?_
   rw [if_pos hb12]
   refine ld' (A7.st p11 rfl) u25 rfl (Xr fa49_1 rfl ?_)
   refine ld' (B5.st p11 rfl) u3 rfl ?_
   have K15 := K8.st p11 rfl
   refine clV 42 rfl func23 rfl (impl_StatusOf.calls a1 a0.Xmax s11.w (mm [0] s11) w1_0 (A1_0.kp K15)) (fun r17 s18 p18 n18 => ?_)
   refine Xb rfl (Xb rfl ?_)
   exact Kj12 _ _ _ ⟨s18, _, rfl, (ue rfl rfl), (K15.st p18 rfl)⟩
  refine Xu hb12 ?_
  rw [if_neg (by rw [hb12]; decide)]
  refine Xh rfl (Xh rfl (Xh rfl (Xh rfl (Xh rfl (Xb rfl ?_)))))
  exact Kj12 _ _ _ ⟨s11, _, rfl, (ue rfl rfl), (K8.st p11 rfl)⟩
 rintro y12 _ _ ⟨s21, _, rfl, rfl, Ky12⟩
 exact Xb rfl (dn (re rfl func22 rfl (Xo rfl Xe) rfl ⟨_, rfl, rfl, z.ky Ky12⟩))
def impl_Heap_rowsOf_1.f (a0 : Row) (a1 : (Tuple → Option Bool)) : Option (Bool) :=
 ((a1 a0.Tuple).bind fun r10 => (some (!r10)))
def impl_Heap_rowsOf_1.Q (w : World) (F : Nat → Prop) (r : Bool) (v : Value) (w' : World) : Prop :=
 v = (.bool r) ∧ Ky [] w w'
theorem impl_Heap_rowsOf_1.calls (a0 : Row) (a1 : (Tuple → Option Bool)) (w : World) (F : Nat → Prop) (w0_0 : Value) (w0_1 : Value) (w0_2 : Value) (w0_3 : Value) (c1 : Nat) (f1 : Value) (h0_0 : Kd.flt.rd w [w0_0] a0.Tuple.Key.F F) (h0_1 : Ye.rd w [w0_1] a0.Tuple.Key.T F) (h0_2 : Kd.flt.rd w [w0_2] a0.Tuple.Value.F F) (h0_3 : Ye.rd w [w0_3] a0.Tuple.Value.T F) (hf1 : ∀ (x0 : Tuple) (u0_0 u0_1 u0_2 u0_3 : Value) (w' : World), Ky [] w w' → Kd.flt.rd w' [u0_0] x0.Key.F (fun _ => True) → Ye.rd w' [u0_1] x0.Key.T (fun _ => True) → Kd.flt.rd w' [u0_2] x0.Value.F (fun _ => True) → Ye.rd w' [u0_3] x0.Value.T (fun _ => True) → ∀ r, a1 x0 = some r → CallV prog f1 [(.agg #[(iI x0.Xmin), (iI x0.Xmax), (iI x0.Key.Kind), (iI x0.Key.N), u0_0, u0_1, (iI x0.Value.Kind), (iI x0.Value.N), u0_2, u0_3])] w' fun en w'' => ∃ v, en = .returned v ∧ v = (.bool r) ∧ Ky [] w' w'') (ho1 : f1.cells = #[f1]) (hb1 : BlW w c1 57 [f1]) (hp1 : F c1) (r : Bool) (m : impl_Heap_rowsOf_1.f a0 a1 = some r) :
  Calls prog 41 #[(.agg #[(iI a0.Page), (iI a0.Slot), (iI a0.Tuple.Xmin), (iI a0.Tuple.Xmax), (iI a0.Tuple.Key.Kind), (iI a0.Tuple.Key.N), w0_0, w0_1, (iI a0.Tuple.Value.Kind), (iI a0.Tuple.Value.N), w0_2, w0_3]), (pB c1)] w (RT (impl_Heap_rowsOf_1.Q w F) r) := by
 obtain ⟨s0, rfl, kp0, z⟩ := Xg w F
 refine Xd (args := [(.agg #[(iI a0.Page), (iI a0.Slot), (iI a0.Tuple.Xmin), (iI a0.Tuple.Xmax), (iI a0.Tuple.Key.Kind), (iI a0.Tuple.Key.N), w0_0, w0_1, (iI a0.Tuple.Value.Kind), (iI a0.Tuple.Value.N), w0_2, w0_3]), (pB c1)]) func41 ntmps41 rfl rfl m ?_
 unfold impl_Heap_rowsOf_1.f
 refine sr (bx' (cs := [(iI a0.Page), (iI a0.Slot), (iI a0.Tuple.Xmin), (iI a0.Tuple.Xmax), (iI a0.Tuple.Key.Kind), (iI a0.Tuple.Key.N), w0_0, w0_1, (iI a0.Tuple.Value.Kind), (iI a0.Tuple.Value.N), w0_2, w0_3]) 40 rfl rfl (fun b4 s4 p4 B4 => ?_))
 refine Xb rfl (dn (sr ?_))
 refine ld' (BlF.st (z.b0 hb1 hp1) p4 rfl) u57 rfl (Xr fa51_2 rfl (Yc (es := [(iI a0.Tuple.Xmin), (iI a0.Tuple.Xmax), (iI a0.Tuple.Key.Kind), (iI a0.Tuple.Key.N), w0_0, w0_1, (iI a0.Tuple.Value.Kind), (iI a0.Tuple.Value.N), w0_2, w0_3]) B4 u49 z49 rfl ?_))
 have K7 := kp0.st p4 rfl
 refine clv rfl rfl rfl rfl rfl rfl rfl (fun r10 m10 => hf1 a0.Tuple w0_0 w0_1 w0_2 w0_3 s4.w (z.ky K7) (fl_rd (fl_of h0_0)) (RdF.top ((z.rd h0_1).kp K7)) (fl_rd (fl_of h0_2)) (RdF.top ((z.rd h0_3).kp K7)) r10 m10) ?_
 rintro r10 _ w10 m10 ⟨rfl, ky10⟩
 obtain ⟨s11, rfl, p11, n11⟩ := nwx s4 w10 41 ky10
 refine Xb rfl (Xb rfl (dn ?_))
 exact re rfl func41 rfl (Xo rfl Xe) rfl ⟨_, rfl, rfl, z.ky (K7.st p11 rfl)⟩
def impl_areAll_impl_Page_1.f (a0 : Page) (a1 : (Page → Option Bool)) : Option (Bool) :=
 ((a1 a0).bind fun r8 => (some (!r8)))
def impl_areAll_impl_Page_1.Q (w : World) (F : Nat → Prop) (r : Bool) (v : Value) (w' : World) : Prop :=
 v = (.bool r) ∧ Ky [] w w'
theorem impl_areAll_impl_Page_1.calls (a0 : Page) (a1 : (Page → Option Bool)) (w : World) (F : Nat → Prop) (w0_0 : Value) (c1 : Nat) (f1 : Value) (h0_0 : (Kd.sl 45 Ye).rd w [w0_0] a0.Slots F) (hf1 : ∀ (x0 : Page) (u0_0 : Value) (w' : World), Ky [] w w' → (Kd.sl 45 Ye).rd w' [u0_0] x0.Slots (fun _ => True) → ∀ r, a1 x0 = some r → CallV prog f1 [(.agg #[(iI x0.Lsn), u0_0])] w' fun en w'' => ∃ v, en = .returned v ∧ v = (.bool r) ∧ Ky [] w' w'') (ho1 : f1.cells = #[f1]) (hb1 : BlW w c1 98 [f1]) (hp1 : F c1) (r : Bool) (m : impl_areAll_impl_Page_1.f a0 a1 = some r) :
  Calls prog 90 #[(.agg #[(iI a0.Lsn), w0_0]), (pB c1)] w (RT (impl_areAll_impl_Page_1.Q w F) r) := by
 obtain ⟨s0, rfl, kp0, z⟩ := Xg w F
 refine Xd (args := [(.agg #[(iI a0.Lsn), w0_0]), (pB c1)]) func90 ntmps90 rfl rfl m ?_
 unfold impl_areAll_impl_Page_1.f
 refine sr (bx' (cs := [(iI a0.Lsn), w0_0]) 40 rfl rfl (fun b3 s3 p3 B3 => ?_))
 refine Xb rfl (dn (sr ?_))
 refine ld' (BlF.st (z.b0 hb1 hp1) p3 rfl) u98 rfl (Yc (es := [(iI a0.Lsn), w0_0]) B3 u70 z70 rfl ?_)
 have K6 := kp0.st p3 rfl
 refine clv rfl rfl rfl rfl rfl rfl rfl (fun r8 m8 => hf1 a0 w0_0 s3.w (z.ky K6) (RdF.top ((z.rd h0_0).kp K6)) r8 m8) ?_
 rintro r8 _ w8 m8 ⟨rfl, ky8⟩
 obtain ⟨s9, rfl, p9, n9⟩ := nwx s3 w8 41 ky8
 refine Xb rfl (Xb rfl (dn ?_))
 exact re rfl func90 rfl (Xo rfl Xe) rfl ⟨_, rfl, rfl, z.ky (K6.st p9 rfl)⟩
def slices_IndexFunc_impl_Page_impl_Page.b0 (a0 : (List Page)) (a1 : (Page → Option Bool)) (x2 : Int) : Option (Int ⊕ Int) :=
 (if (decide (x2 < (a0.length : Int))) = true then (if 0 ≤ x2 ∧ x2 < (a0.length : Int) then ((a1 (at_ a0 x2)).bind fun r9 => (if r9 = true then (some (Sum.inr x2)) else (some (Sum.inl (IntKind.wrap .i64 (x2 + (1 : Int))))))) else none) else ((some (-1 : Int)).bind fun o => some (Sum.inr o)))
def slices_IndexFunc_impl_Page_impl_Page.f (a0 : (List Page)) (a1 : (Page → Option Bool)) : Option (Int) :=
 (iter (slices_IndexFunc_impl_Page_impl_Page.b0 a0 a1) (0 : Int))
def slices_IndexFunc_impl_Page_impl_Page.Q (w : World) (F : Nat → Prop) (r : Int) (v : Value) (w' : World) : Prop :=
 v = (iI r) ∧ Ky [] w w'
theorem slices_IndexFunc_impl_Page_impl_Page.calls (a0 : (List Page)) (a1 : (Page → Option Bool)) (w : World) (F : Nat → Prop) (w0_0 : Value) (f1 : Value) (h0_0 : Yg.rd w [w0_0] a0 F) (hf1 : ∀ (x0 : Page) (u0_0 : Value) (w' : World), Ky [] w w' → (Kd.sl 45 Ye).rd w' [u0_0] x0.Slots (fun _ => True) → ∀ r, a1 x0 = some r → CallV prog f1 [(.agg #[(iI x0.Lsn), u0_0])] w' fun en w'' => ∃ v, en = .returned v ∧ v = (.bool r) ∧ Ky [] w' w'') (ho1 : f1.cells = #[f1]) (r : Int) (m : slices_IndexFunc_impl_Page_impl_Page.f a0 a1 = some r) :
  Calls prog 104 #[w0_0, f1] w (RT (slices_IndexFunc_impl_Page_impl_Page.Q w F) r) := by
 obtain ⟨s0, rfl, kp0, z⟩ := Xg w F
 have A0_0 := z.rd h0_0
 refine Xd (args := [w0_0, f1]) func104 ntmps104 rfl rfl m ?_
 unfold slices_IndexFunc_impl_Page_impl_Page.f
 refine sr (Xb rfl (dn (sq (sr (Xl w0_0 rfl (ln' A0_0 u29 rfl (Xb rfl (dn (bl (lpI (fun (x2 : Int) e w => ∃ (s : St) (e0 : Env), w = s.w ∧ e = upd (upd (upd (upd e0 0 w0_0) 1 f1) 7 (iI (a0.length : Int))) 8 (iI x2) ∧ Kp s0 s) ⟨s0, _, rfl, (ue (ue (ue (ue rfl rfl) rfl) rfl) rfl), kp0⟩ (fun g2 ih2 => ?_)))))))))))
 rintro x2 _ _ ⟨s3, _, rfl, rfl, Kx2⟩
 unfold slices_IndexFunc_impl_Page_impl_Page.b0
 refine sr (Xb rfl (dn (sq (cd rfl (fun h4 => ?_) (fun h4 => ?_)))))
 ·
  refine sk (sq (bl (sr (Xb rfl (Xb rfl (dn (sr (Xl f1 rfl (Xl w0_0 rfl (Xb rfl ?_))))))))))
  refine ix' (A0_0.kp Kx2) u29 z70 rfl (fun ad6 es6 h0_6 h1_6 he6 ce6 ia6 => ?_)
  obtain ⟨v6_0, rfl, A6_0⟩ := op70 he6
  refine lca ce6 u70 z70 rfl rfl rfl rfl rfl rfl rfl (clv rfl rfl rfl rfl rfl rfl rfl (fun r9 m9 => hf1 (at_ a0 x2) v6_0 s3.w (z.ky Kx2) (RdF.top A6_0) r9 m9) ?_)
  rintro r9 _ w9 m9 ⟨rfl, ky9⟩
  obtain ⟨s10, rfl, p10, n10⟩ := nwx s3 w9 40 ky9
  refine dn (cd rfl (fun h11 => ?_) (fun h11 => ?_))
  ·
   refine sr (Xb rfl (Xb rfl (dn (sgi ?_))))
   exact re rfl func104 rfl (Xo rfl Xe) rfl ⟨_, rfl, rfl, z.ky (Kx2.st p10 rfl)⟩
  refine sk (ib (rg (Xb rfl (Xb rfl (dn ?_)))))
  exact lb ih2 ⟨s10, _, rfl, (ue (ue (ue (ue rfl rfl) rfl) rfl) rfl), (Kx2.st p10 rfl)⟩
 exact xt rfl (sgb (sr (Xb rfl (dn (re rfl func104 rfl (Xo rfl Xe) rfl ⟨_, rfl, rfl, z.ky Kx2⟩)))))
def slices_ContainsFunc_impl_Page_impl_Page.f (a0 : (List Page)) (a1 : (Page → Option Bool)) : Option (Bool) :=
 ((slices_IndexFunc_impl_Page_impl_Page.f a0 a1).bind fun r2 => (some (decide (r2 ≥ (0 : Int)))))
def slices_ContainsFunc_impl_Page_impl_Page.Q (w : World) (F : Nat → Prop) (r : Bool) (v : Value) (w' : World) : Prop :=
 v = (.bool r) ∧ Ky [] w w'
theorem slices_ContainsFunc_impl_Page_impl_Page.calls (a0 : (List Page)) (a1 : (Page → Option Bool)) (w : World) (F : Nat → Prop) (w0_0 : Value) (f1 : Value) (h0_0 : Yg.rd w [w0_0] a0 F) (hf1 : ∀ (x0 : Page) (u0_0 : Value) (w' : World), Ky [] w w' → (Kd.sl 45 Ye).rd w' [u0_0] x0.Slots (fun _ => True) → ∀ r, a1 x0 = some r → CallV prog f1 [(.agg #[(iI x0.Lsn), u0_0])] w' fun en w'' => ∃ v, en = .returned v ∧ v = (.bool r) ∧ Ky [] w' w'') (ho1 : f1.cells = #[f1]) (r : Bool) (m : slices_ContainsFunc_impl_Page_impl_Page.f a0 a1 = some r) :
  Calls prog 89 #[w0_0, f1] w (RT (slices_ContainsFunc_impl_Page_impl_Page.Q w F) r) := by
 obtain ⟨s0, rfl, kp0, z⟩ := Xg w F
 refine Xd (args := [w0_0, f1]) func89 ntmps89 rfl rfl m ?_
 unfold slices_ContainsFunc_impl_Page_impl_Page.f
 refine sr (Xb rfl (dn (sr (Xl w0_0 rfl (Xl f1 rfl (clV 40 rfl func104 rfl (slices_IndexFunc_impl_Page_impl_Page.calls a0 a1 s0.w (mm [0] s0) w0_0 f1 (z.rd h0_0) (fun x0 u0_0 w' k h0 r m =>  hf1 x0 u0_0 w' (Ky.trans (z.ky kp0) k) h0 r m) ho1) (fun r2 s3 p3 n3 => ?_)))))))
 refine Xb rfl (Xb rfl (dn ?_))
 exact re rfl func89 rfl (Xo rfl Xe) rfl ⟨_, rfl, rfl, z.ky (kp0.st p3 rfl)⟩
def impl_areAll_impl_Page.f (a0 : (List Page)) (a1 : (Page → Option Bool)) : Option (Bool) :=
 ((slices_ContainsFunc_impl_Page_impl_Page.f a0 (fun x0 => impl_areAll_impl_Page_1.f x0 a1)).bind fun r6 => (some (!r6)))
def impl_areAll_impl_Page.Q (w : World) (F : Nat → Prop) (r : Bool) (v : Value) (w' : World) : Prop :=
 v = (.bool r) ∧ Ky [] w w'
theorem impl_areAll_impl_Page.calls (a0 : (List Page)) (a1 : (Page → Option Bool)) (w : World) (F : Nat → Prop) (w0_0 : Value) (f1 : Value) (h0_0 : Yg.rd w [w0_0] a0 F) (hf1 : ∀ (x0 : Page) (u0_0 : Value) (w' : World), Ky [] w w' → (Kd.sl 45 Ye).rd w' [u0_0] x0.Slots (fun _ => True) → ∀ r, a1 x0 = some r → CallV prog f1 [(.agg #[(iI x0.Lsn), u0_0])] w' fun en w'' => ∃ v, en = .returned v ∧ v = (.bool r) ∧ Ky [] w' w'') (ho1 : f1.cells = #[f1]) (r : Bool) (m : impl_areAll_impl_Page.f a0 a1 = some r) :
  Calls prog 62 #[w0_0, f1] w (RT (impl_areAll_impl_Page.Q w F) r) := by
 obtain ⟨s0, rfl, kp0, z⟩ := Xg w F
 refine Xd (args := [w0_0, f1]) func62 ntmps62 rfl rfl m ?_
 unfold impl_areAll_impl_Page.f
 refine sr (bx' (cs := [f1]) 40 rfl ho1 (fun b2 s2 p2 B2 => ?_))
 refine Xb rfl (dn (sr (Xl w0_0 rfl (mkf (fs := []) (cs := [(pB b2)]) rfl rfl rfl rfl rfl rfl rfl ?_))))
 have K4 := kp0.st p2 rfl
 refine clV 41 rfl func89 rfl (slices_ContainsFunc_impl_Page_impl_Page.calls a0 (fun x0 => impl_areAll_impl_Page_1.f x0 a1) s2.w (mm [0] s2) w0_0 (.func (.func 90) (List.toArray []) (List.toArray [(pB b2)])) ((z.rd h0_0).kp K4) (fun x0 u0_0 w' k h0 r m =>  ⟨90, _, _, [], [(pB b2)], rfl, func90, rfl, rfl, (impl_areAll_impl_Page_1.calls x0 a1 w' (fun _ => True) u0_0 b2 f1 h0 (fun x0c u0_0c w'c kc h0c r m =>  hf1 x0c u0_0c w'c (Ky.trans (z.ky K4) (Ky.trans k kc)) h0c r m) ho1 (B2.ky k) trivial r m).mono fun en w2 hq => by obtain ⟨v, e, q⟩ := hq; exact ⟨v, e, q⟩⟩) rfl) (fun r6 s7 p7 n7 => ?_)
 refine Xb rfl (Xb rfl (dn ?_))
 exact re rfl func62 rfl (Xo rfl Xe) rfl ⟨_, rfl, rfl, z.ky (K4.st p7 rfl)⟩
def impl_PageUsed.b0 (a0 : Page) (x15 : Int × Int) : Option ((Int × Int) ⊕ Int) :=
 (if (decide (x15.2 < (a0.Slots.length : Int))) = true then (if 0 ≤ x15.2 ∧ x15.2 < (a0.Slots.length : Int) then (if (decide (((at_ a0.Slots x15.2).length : Int) > (92 : Int))) = true then (some (Sum.inr (-1 : Int))) else (some (Sum.inl ((IntKind.wrap .i64 (x15.1 + ((at_ a0.Slots x15.2).length : Int))), (IntKind.wrap .i64 (x15.2 + (1 : Int))))))) else none) else (((if (decide (x15.1 > (240 : Int))) = true then (some true) else ((if (decide ((a0.Slots.length : Int) > (0 : Int))) = true then (if 0 ≤ (IntKind.wrap .i64 ((a0.Slots.length : Int) - (1 : Int))) ∧ (IntKind.wrap .i64 ((a0.Slots.length : Int) - (1 : Int))) < (a0.Slots.length : Int) then (some (((at_ a0.Slots (IntKind.wrap .i64 ((a0.Slots.length : Int) - (1 : Int)))).length : Int) == (0 : Int))) else none) else (some false)).bind fun y26 => (some y26))).bind fun y24 => (if y24 = true then (some (-1 : Int)) else (some x15.1))).bind fun o => some (Sum.inr o)))
def impl_PageUsed.f (a0 : Page) : Option (Int) :=
 ((impl_within.f a0.Lsn (0 : Int) (1000000 : Int)).bind fun r4 => (if ((!r4) || (decide ((a0.Slots.length : Int) > (16 : Int)))) = true then (some (-1 : Int)) else (iter (impl_PageUsed.b0 a0) ((IntKind.wrap .i64 ((1 : Int) + (a0.Slots.length : Int))), (0 : Int)))))
def impl_PageUsed.Q (w : World) (F : Nat → Prop) (r : Int) (v : Value) (w' : World) : Prop :=
 v = (iI r) ∧ Ky [] w w'
theorem impl_PageUsed.calls (a0 : Page) (w : World) (F : Nat → Prop) (w0_0 : Value) (h0_0 : (Kd.sl 45 Ye).rd w [w0_0] a0.Slots F) (r : Int) (m : impl_PageUsed.f a0 = some r) :
  Calls prog 64 #[(.agg #[(iI a0.Lsn), w0_0])] w (RT (impl_PageUsed.Q w F) r) := by
 obtain ⟨s0, rfl, kp0, z⟩ := Xg w F
 have A0_0 := z.rd h0_0
 refine Xd (args := [(.agg #[(iI a0.Lsn), w0_0])]) func64 ntmps64 rfl rfl m ?_
 unfold impl_PageUsed.f
 refine sr (bx' (cs := [(iI a0.Lsn), w0_0]) 40 rfl rfl (fun b2 s2 p2 B2 => ?_))
 refine Xb rfl (dn (sq (sr (Xr fa70_0 rfl (ld' B2 u3 rfl (clV 41 rfl func43 rfl (impl_within.calls a0.Lsn (0 : Int) (1000000 : Int) s2.w (mm [] s2)) (fun r4 s5 p5 n5 => ?_)))))))
 refine Xb rfl (Xb rfl (jy [10, 11, 12, 13, 14, 15] [] 15 (.bool ((!r4) || (decide ((a0.Slots.length : Int) > (16 : Int))))) rfl (fun Kg6 => ?_) (fun j6 => ?_)))
 ·
  rcases bft (!r4) with hb6 | hb6
  ·
   exact Xu hb6 (Xh rfl (Xh rfl (Xh rfl (Xh rfl (Xb rfl (Kg6 _ (Ag.put ((Ag.put ((Ag.put ((Ag.put ((Ag.put (Ag.base rfl) rfl)) rfl)) rfl)) rfl)) rfl) (by rw [hb6]; rfl)))))))
  refine Xu hb6 (Xr fa70_1 rfl ?_)
  exact ld' (B2.st p5 rfl) u66 rfl (ln' (A0_0.kp (kp0.st (Xs p2 p5) rfl)) u66 rfl (Xb rfl (Xb rfl (Kg6 _ (Ag.put ((Ag.put ((Ag.put ((Ag.put ((Ag.put (Ag.base rfl) rfl)) rfl)) rfl)) rfl)) rfl) (by rw [hb6]; rfl)))))
 refine dn (cd rfl (fun h10 => ?_) (fun h10 => ?_))
 ·
  refine sr (Xb rfl (dn ?_))
  exact re rfl func64 rfl (Xo rfl Xe) rfl ⟨_, rfl, rfl, z.ky (kp0.st (Xs p2 p5) rfl)⟩
 refine sk (sr (Xr fa70_1 rfl ?_))
 have A12 := B2.st p5 rfl
 refine ld' A12 u66 rfl ?_
 have K13 := kp0.st (Xs p2 p5) rfl
 have A14 := A0_0.kp K13
 refine ln' A14 u66 rfl (Xb rfl (Xb rfl (dn (sq (sr (Xr fa70_1 rfl (ld' A12 u66 rfl (ln' A14 u66 rfl (Xb rfl (dn (bl (lpI (fun (x15 : Int × Int) e w => ∃ (s : St) (e0 : Env), w = s.w ∧ e = upd (upd (upd (upd (upd e0 1 (pB b2)) 3 (iI x15.1)) 21 w0_0) 22 (iI (a0.Slots.length : Int))) 23 (iI x15.2) ∧ Kp s0 s ∧ BlF s b2 70 [(iI a0.Lsn), w0_0] 40) ⟨s5, _, rfl, (ue (ue (ue (ue (ue rfl rfl) rfl) rfl) rfl) rfl), K13, A12⟩ (fun g15 ih15 => ?_)))))))))))))
 rintro x15 _ _ ⟨s16, _, rfl, rfl, Kx15, Bx15_b2⟩
 unfold impl_PageUsed.b0
 refine sr (Xb rfl (dn (sq (cd rfl (fun h18 => ?_) (fun h18 => ?_)))))
 ·
  refine sk (sq (bl (sr ?_)))
  refine ix' (A0_0.kp Kx15) u66 z45 rfl (fun ad20 es20 h0_20 h1_20 he20 ce20 ia20 => ?_)
  obtain ⟨v20, rfl, he20'⟩ := he20
  have A20 : RdF Ye s16 [v20] (at_ a0.Slots x15.2) [0] := ⟨v20, rfl, he20'⟩
  refine lc0' ce20 u45 rfl (Xp v20 rfl (dn (sq (sr (Xl v20 rfl (ln' A20 u45 rfl (Xb rfl (dn (cd rfl (fun h23 => ?_) (fun h23 => ?_))))))))))
  ·
   exact sr (Xb rfl (dn (sgi (re rfl func64 rfl (Xo rfl Xe) rfl ⟨_, rfl, rfl, z.ky Kx15⟩))))
  exact sk (rg (Xb rfl (Xl v20 rfl (ln' A20 u45 rfl (Xb rfl (Xb rfl (dn (ib (rg (Xb rfl (Xb rfl (dn (lb ih15 ⟨s16, _, rfl, (ue (ue (ue (ue (ue rfl rfl) rfl) rfl) rfl) rfl), Kx15, Bx15_b2⟩)))))))))))))
 refine xt rfl (sgb (sq (sr (Xb rfl (Xb rfl (Xb rfl (ji [] (fun (y24 : Bool) e w => ∃ (s : St) (e0 : Env), w = s.w ∧ e = upd (upd e0 3 (iI x15.1)) 54 (.bool y24) ∧ Kp s0 s) (fun Gj24 Kj24 => ?_) ?_)))))))
 ·
  rcases bft (decide (x15.1 > (240 : Int))) with hb24 | hb24
  ·
   refine Xu hb24 ?_
   rw [if_pos hb24]
   refine Xh rfl (Xh rfl (Xh rfl (Xh rfl (Xh rfl (Xh rfl (Xh rfl (Xh rfl (Xh rfl (Xh rfl (Xh rfl (Xh rfl (Xh rfl (Xh rfl (Xh rfl ?_))))))))))))))
   exact Xh rfl (Xb rfl (Kj24 _ _ _ ⟨s16, _, rfl, (ue (ue rfl rfl) rfl), Kx15⟩))
  refine Xu hb24 ?_
  rw [if_neg (by rw [hb24]; decide)]
  refine Xr fa70_1 rfl (ld' Bx15_b2 u66 rfl ?_)
  have A25 := A0_0.kp Kx15
  refine ln' A25 u66 rfl (Xb rfl (Xb rfl (ji [19] (fun (y26 : Bool) e w => ∃ (s : St) (e0 : Env), w = s.w ∧ e = upd (upd (upd e0 3 (iI x15.1)) 37 (.bool false)) 53 (.bool y26) ∧ Kp s0 s) (fun Gj26 Kj26 => ?_) ?_)))
  ·
   rcases bft (decide ((a0.Slots.length : Int) > (0 : Int))) with hb26 | hb26
   ·
    refine Xu hb26 ?_
    rw [if_pos hb26]
    refine Xr fa70_1 rfl (ld' Bx15_b2 u66 rfl (Xr fa70_1 rfl (ld' Bx15_b2 u66 rfl (ln' A25 u66 rfl (Xb rfl (ix' A25 u66 z45 rfl (fun ad27 es27 h0_27 h1_27 he27 ce27 ia27 => ?_)))))))
    obtain ⟨v27, rfl, he27'⟩ := he27
    have A27 : RdF Ye s16 [v27] (at_ a0.Slots (IntKind.wrap .i64 ((a0.Slots.length : Int) - (1 : Int)))) [0] := ⟨v27, rfl, he27'⟩
    exact lc0' ce27 u45 rfl (ln' A27 u45 rfl (Xb rfl (Xb rfl (Kj26 _ _ _ ⟨s16, _, rfl, (ue (ue (ue rfl rfl) rfl) rfl), Kx15⟩))))
   refine Xu hb26 ?_
   rw [if_neg (by rw [hb26]; decide)]
   exact Xh rfl (Xh rfl (Xh rfl (Xh rfl (Xh rfl (Xh rfl (Xh rfl (Xh rfl (Xh rfl (Xh rfl (Xb rfl (Kj26 _ _ _ ⟨s16, _, rfl, (ue (ue (ue rfl rfl) rfl) rfl), Kx15⟩)))))))))))
  rintro y26 _ _ ⟨s30, _, rfl, rfl, Ky26⟩
  exact Xb rfl (Kj24 _ _ _ ⟨s30, _, rfl, (ue (ue rfl rfl) rfl), Ky26⟩)
 rintro y24 _ _ ⟨s31, _, rfl, rfl, Ky24⟩
 refine dn (cd rfl (fun h32 => ?_) (fun h32 => ?_))
 ·
  exact sr (Xb rfl (dn (re rfl func64 rfl (Xo rfl Xe) rfl ⟨_, rfl, rfl, z.ky Ky24⟩)))
 exact sk (sr (Xb rfl (Xb rfl (dn (re rfl func64 rfl (Xo rfl Xe) rfl ⟨_, rfl, rfl, z.ky Ky24⟩)))))
def impl_areAll_byte_1.f (a0 : (List Int)) (a1 : ((List Int) → Option Bool)) : Option (Bool) :=
 ((a1 a0).bind fun r3 => (some (!r3)))
def impl_areAll_byte_1.Q (w : World) (F : Nat → Prop) (r : Bool) (v : Value) (w' : World) : Prop :=
 v = (.bool r) ∧ Ky [] w w'
theorem impl_areAll_byte_1.calls (a0 : (List Int)) (a1 : ((List Int) → Option Bool)) (w : World) (F : Nat → Prop) (w0_0 : Value) (c1 : Nat) (f1 : Value) (h0_0 : Ye.rd w [w0_0] a0 F) (hf1 : ∀ (x0 : (List Int)) (u0_0 : Value) (w' : World), Ky [] w w' → Ye.rd w' [u0_0] x0 (fun _ => True) → ∀ r, a1 x0 = some r → CallV prog f1 [u0_0] w' fun en w'' => ∃ v, en = .returned v ∧ v = (.bool r) ∧ Ky [] w' w'') (ho1 : f1.cells = #[f1]) (hb1 : BlW w c1 97 [f1]) (hp1 : F c1) (r : Bool) (m : impl_areAll_byte_1.f a0 a1 = some r) :
  Calls prog 92 #[w0_0, (pB c1)] w (RT (impl_areAll_byte_1.Q w F) r) := by
 obtain ⟨s0, rfl, kp0, z⟩ := Xg w F
 refine Xd (args := [w0_0, (pB c1)]) func92 ntmps92 rfl rfl m ?_
 unfold impl_areAll_byte_1.f
 refine sr (Xb rfl (dn (sr (ld' (z.b0 hb1 hp1) u97 rfl (Xl w0_0 rfl (clv rfl rfl rfl rfl rfl rfl rfl (fun r3 m3 => hf1 a0 w0_0 s0.w (z.ky kp0) (RdF.top (z.rd h0_0)) r3 m3) ?_))))))
 rintro r3 _ w3 m3 ⟨rfl, ky3⟩
 obtain ⟨s4, rfl, p4, n4⟩ := nwx s0 w3 40 ky3
 refine Xb rfl (Xb rfl (dn ?_))
 exact re rfl func92 rfl (Xo rfl Xe) rfl ⟨_, rfl, rfl, z.ky (kp0.st p4 rfl)⟩
def slices_IndexFunc_byte_byte.b0 (a0 : (List (List Int))) (a1 : ((List Int) → Option Bool)) (x2 : Int) : Option (Int ⊕ Int) :=
 (if (decide (x2 < (a0.length : Int))) = true then (if 0 ≤ x2 ∧ x2 < (a0.length : Int) then ((a1 (at_ a0 x2)).bind fun r9 => (if r9 = true then (some (Sum.inr x2)) else (some (Sum.inl (IntKind.wrap .i64 (x2 + (1 : Int))))))) else none) else ((some (-1 : Int)).bind fun o => some (Sum.inr o)))
def slices_IndexFunc_byte_byte.f (a0 : (List (List Int))) (a1 : ((List Int) → Option Bool)) : Option (Int) :=
 (iter (slices_IndexFunc_byte_byte.b0 a0 a1) (0 : Int))
def slices_IndexFunc_byte_byte.Q (w : World) (F : Nat → Prop) (r : Int) (v : Value) (w' : World) : Prop :=
 v = (iI r) ∧ Ky [] w w'
theorem slices_IndexFunc_byte_byte.calls (a0 : (List (List Int))) (a1 : ((List Int) → Option Bool)) (w : World) (F : Nat → Prop) (w0_0 : Value) (f1 : Value) (h0_0 : (Kd.sl 45 Ye).rd w [w0_0] a0 F) (hf1 : ∀ (x0 : (List Int)) (u0_0 : Value) (w' : World), Ky [] w w' → Ye.rd w' [u0_0] x0 (fun _ => True) → ∀ r, a1 x0 = some r → CallV prog f1 [u0_0] w' fun en w'' => ∃ v, en = .returned v ∧ v = (.bool r) ∧ Ky [] w' w'') (ho1 : f1.cells = #[f1]) (r : Int) (m : slices_IndexFunc_byte_byte.f a0 a1 = some r) :
  Calls prog 105 #[w0_0, f1] w (RT (slices_IndexFunc_byte_byte.Q w F) r) := by
 obtain ⟨s0, rfl, kp0, z⟩ := Xg w F
 have A0_0 := z.rd h0_0
 refine Xd (args := [w0_0, f1]) func105 ntmps105 rfl rfl m ?_
 unfold slices_IndexFunc_byte_byte.f
 refine sr (Xb rfl (dn (sq (sr (Xl w0_0 rfl (ln' A0_0 u66 rfl (Xb rfl (dn (bl (lpI (fun (x2 : Int) e w => ∃ (s : St) (e0 : Env), w = s.w ∧ e = upd (upd (upd (upd e0 0 w0_0) 1 f1) 7 (iI (a0.length : Int))) 8 (iI x2) ∧ Kp s0 s) ⟨s0, _, rfl, (ue (ue (ue (ue rfl rfl) rfl) rfl) rfl), kp0⟩ (fun g2 ih2 => ?_)))))))))))
 rintro x2 _ _ ⟨s3, _, rfl, rfl, Kx2⟩
 unfold slices_IndexFunc_byte_byte.b0
 refine sr (Xb rfl (dn (sq (cd rfl (fun h4 => ?_) (fun h4 => ?_)))))
 ·
  refine sk (sq (bl (sr (Xb rfl (Xb rfl (dn (sr (Xl f1 rfl (Xl w0_0 rfl (Xb rfl ?_))))))))))
  refine ix' (A0_0.kp Kx2) u66 z45 rfl (fun ad6 es6 h0_6 h1_6 he6 ce6 ia6 => ?_)
  obtain ⟨v6, rfl, he6'⟩ := he6
  have A6 : RdF Ye s3 [v6] (at_ a0 x2) [0] := ⟨v6, rfl, he6'⟩
  refine lc0' ce6 u45 rfl (clv rfl rfl rfl rfl rfl rfl rfl (fun r9 m9 => hf1 (at_ a0 x2) v6 s3.w (z.ky Kx2) (RdF.top A6) r9 m9) ?_)
  rintro r9 _ w9 m9 ⟨rfl, ky9⟩
  obtain ⟨s10, rfl, p10, n10⟩ := nwx s3 w9 40 ky9
  refine dn (cd rfl (fun h11 => ?_) (fun h11 => ?_))
  ·
   refine sr (Xb rfl (Xb rfl (dn (sgi ?_))))
   exact re rfl func105 rfl (Xo rfl Xe) rfl ⟨_, rfl, rfl, z.ky (Kx2.st p10 rfl)⟩
  refine sk (ib (rg (Xb rfl (Xb rfl (dn ?_)))))
  exact lb ih2 ⟨s10, _, rfl, (ue (ue (ue (ue rfl rfl) rfl) rfl) rfl), (Kx2.st p10 rfl)⟩
 exact xt rfl (sgb (sr (Xb rfl (dn (re rfl func105 rfl (Xo rfl Xe) rfl ⟨_, rfl, rfl, z.ky Kx2⟩)))))
def slices_ContainsFunc_byte_byte.f (a0 : (List (List Int))) (a1 : ((List Int) → Option Bool)) : Option (Bool) :=
 ((slices_IndexFunc_byte_byte.f a0 a1).bind fun r2 => (some (decide (r2 ≥ (0 : Int)))))
def slices_ContainsFunc_byte_byte.Q (w : World) (F : Nat → Prop) (r : Bool) (v : Value) (w' : World) : Prop :=
 v = (.bool r) ∧ Ky [] w w'
theorem slices_ContainsFunc_byte_byte.calls (a0 : (List (List Int))) (a1 : ((List Int) → Option Bool)) (w : World) (F : Nat → Prop) (w0_0 : Value) (f1 : Value) (h0_0 : (Kd.sl 45 Ye).rd w [w0_0] a0 F) (hf1 : ∀ (x0 : (List Int)) (u0_0 : Value) (w' : World), Ky [] w w' → Ye.rd w' [u0_0] x0 (fun _ => True) → ∀ r, a1 x0 = some r → CallV prog f1 [u0_0] w' fun en w'' => ∃ v, en = .returned v ∧ v = (.bool r) ∧ Ky [] w' w'') (ho1 : f1.cells = #[f1]) (r : Bool) (m : slices_ContainsFunc_byte_byte.f a0 a1 = some r) :
  Calls prog 91 #[w0_0, f1] w (RT (slices_ContainsFunc_byte_byte.Q w F) r) := by
 obtain ⟨s0, rfl, kp0, z⟩ := Xg w F
 refine Xd (args := [w0_0, f1]) func91 ntmps91 rfl rfl m ?_
 unfold slices_ContainsFunc_byte_byte.f
 refine sr (Xb rfl (dn (sr (Xl w0_0 rfl (Xl f1 rfl (clV 40 rfl func105 rfl (slices_IndexFunc_byte_byte.calls a0 a1 s0.w (mm [0] s0) w0_0 f1 (z.rd h0_0) (fun x0 u0_0 w' k h0 r m =>  hf1 x0 u0_0 w' (Ky.trans (z.ky kp0) k) h0 r m) ho1) (fun r2 s3 p3 n3 => ?_)))))))
 refine Xb rfl (Xb rfl (dn ?_))
 exact re rfl func91 rfl (Xo rfl Xe) rfl ⟨_, rfl, rfl, z.ky (kp0.st p3 rfl)⟩
def impl_areAll_byte.f (a0 : (List (List Int))) (a1 : ((List Int) → Option Bool)) : Option (Bool) :=
 ((slices_ContainsFunc_byte_byte.f a0 (fun x0 => impl_areAll_byte_1.f x0 a1)).bind fun r6 => (some (!r6)))
def impl_areAll_byte.Q (w : World) (F : Nat → Prop) (r : Bool) (v : Value) (w' : World) : Prop :=
 v = (.bool r) ∧ Ky [] w w'
theorem impl_areAll_byte.calls (a0 : (List (List Int))) (a1 : ((List Int) → Option Bool)) (w : World) (F : Nat → Prop) (w0_0 : Value) (f1 : Value) (h0_0 : (Kd.sl 45 Ye).rd w [w0_0] a0 F) (hf1 : ∀ (x0 : (List Int)) (u0_0 : Value) (w' : World), Ky [] w w' → Ye.rd w' [u0_0] x0 (fun _ => True) → ∀ r, a1 x0 = some r → CallV prog f1 [u0_0] w' fun en w'' => ∃ v, en = .returned v ∧ v = (.bool r) ∧ Ky [] w' w'') (ho1 : f1.cells = #[f1]) (r : Bool) (m : impl_areAll_byte.f a0 a1 = some r) :
  Calls prog 65 #[w0_0, f1] w (RT (impl_areAll_byte.Q w F) r) := by
 obtain ⟨s0, rfl, kp0, z⟩ := Xg w F
 refine Xd (args := [w0_0, f1]) func65 ntmps65 rfl rfl m ?_
 unfold impl_areAll_byte.f
 refine sr (bx' (cs := [f1]) 40 rfl ho1 (fun b2 s2 p2 B2 => ?_))
 refine Xb rfl (dn (sr (Xl w0_0 rfl (mkf (fs := []) (cs := [(pB b2)]) rfl rfl rfl rfl rfl rfl rfl ?_))))
 have K4 := kp0.st p2 rfl
 refine clV 41 rfl func91 rfl (slices_ContainsFunc_byte_byte.calls a0 (fun x0 => impl_areAll_byte_1.f x0 a1) s2.w (mm [0] s2) w0_0 (.func (.func 92) (List.toArray []) (List.toArray [(pB b2)])) ((z.rd h0_0).kp K4) (fun x0 u0_0 w' k h0 r m =>  ⟨92, _, _, [], [(pB b2)], rfl, func92, rfl, rfl, (impl_areAll_byte_1.calls x0 a1 w' (fun _ => True) u0_0 b2 f1 h0 (fun x0c u0_0c w'c kc h0c r m =>  hf1 x0c u0_0c w'c (Ky.trans (z.ky K4) (Ky.trans k kc)) h0c r m) ho1 (B2.ky k) trivial r m).mono fun en w2 hq => by obtain ⟨v, e, q⟩ := hq; exact ⟨v, e, q⟩⟩) rfl) (fun r6 s7 p7 n7 => ?_)
 refine Xb rfl (Xb rfl (dn ?_))
 exact re rfl func65 rfl (Xo rfl Xe) rfl ⟨_, rfl, rfl, z.ky (K4.st p7 rfl)⟩
def impl_hasBytes.f (a0 : (List Int)) (a1 : Int) (a2 : Int) : Option (Bool) :=
 ((impl_within.f a1 (0 : Int) (a0.length : Int)).bind fun r2 => (some (r2 && (decide (a2 ≤ (IntKind.wrap .i64 ((a0.length : Int) - a1)))))))
def impl_hasBytes.Q (w : World) (F : Nat → Prop) (r : Bool) (v : Value) (w' : World) : Prop :=
 v = (.bool r) ∧ Ky [] w w'
theorem impl_hasBytes.calls (a0 : (List Int)) (a1 : Int) (a2 : Int) (w : World) (F : Nat → Prop) (w0_0 : Value) (h0_0 : Ye.rd w [w0_0] a0 F) (r : Bool) (m : impl_hasBytes.f a0 a1 a2 = some r) :
  Calls prog 106 #[w0_0, (iI a1), (iI a2)] w (RT (impl_hasBytes.Q w F) r) := by
 obtain ⟨s0, rfl, kp0, z⟩ := Xg w F
 have A0_0 := z.rd h0_0
 refine Xd (args := [w0_0, (iI a1), (iI a2)]) func106 ntmps106 rfl rfl m ?_
 unfold impl_hasBytes.f
 refine sr (Xb rfl (dn (sr (Xb rfl (Xl w0_0 rfl (ln' A0_0 u45 rfl (clV 40 rfl func43 rfl (impl_within.calls a1 (0 : Int) (a0.length : Int) s0.w (mm [] s0)) (fun r2 s3 p3 n3 => ?_))))))))
 refine Xb rfl (jy [11, 12, 13, 14, 15, 16, 17, 18] [12] 18 (.bool (r2 && (decide (a2 ≤ (IntKind.wrap .i64 ((a0.length : Int) - a1)))))) rfl (fun Kg4 => ?_) (fun j4 => ?_))
 ·
  rcases bft r2 with hb4 | hb4
  ·
   refine Xu hb4 (Xb rfl (Xl w0_0 rfl ?_))
   exact ln' (A0_0.kp (kp0.st p3 rfl)) u45 rfl (Xb rfl (Xb rfl (Xb rfl (Xb rfl (Kg4 _ (Ag.put ((Ag.put ((Ag.put ((Ag.put ((Ag.put ((Ag.put ((Ag.put (Ag.base rfl) rfl)) rfl)) rfl)) rfl)) rfl)) rfl)) rfl) (by rw [hb4]; rfl))))))
  exact Xu hb4 (Xh rfl (Xh rfl (Xh rfl (Xh rfl (Xh rfl (Xh rfl (Xb rfl (Kg4 _ (Ag.put ((Ag.put ((Ag.put ((Ag.put ((Ag.put ((Ag.put ((Ag.put (Ag.base rfl) rfl)) rfl)) rfl)) rfl)) rfl)) rfl)) rfl) (by rw [hb4]; rfl)))))))))
 refine Xb rfl (dn ?_)
 exact re rfl func106 rfl (Xo rfl Xe) rfl ⟨_, rfl, rfl, z.ky (kp0.st p3 rfl)⟩
def impl_GetNum.b0 (a0 : (List Int)) (a1 : Int) (x13 : Int × Int) : Option ((Int × Int) ⊕ (Int × Bool)) :=
 (if (decide (x13.2 ≥ (0 : Int))) = true then (if 0 ≤ (IntKind.wrap .i64 (a1 + x13.2)) ∧ (IntKind.wrap .i64 (a1 + x13.2)) < (a0.length : Int) then (some (Sum.inl ((ior .u64 (ishl .u64 x13.1 (8 : Int)) (IntKind.wrap .u64 (at_ a0 (IntKind.wrap .i64 (a1 + x13.2))))), (IntKind.wrap .i64 (x13.2 - (1 : Int)))))) else none) else ((if (decide (x13.1 ≥ (9223372036854775808 : Int))) = true then (some ((0 : Int), false)) else (some ((IntKind.wrap .i64 x13.1), true))).bind fun o => some (Sum.inr o)))
def impl_GetNum.f (a0 : (List Int)) (a1 : Int) (a2 : Int) : Option (Int × Bool) :=
 ((impl_within.f a2 (1 : Int) (8 : Int)).bind fun r2 => ((if (!r2) = true then (some true) else ((impl_hasBytes.f a0 a1 a2).bind fun r8 => (some (!r8)))).bind fun y4 => (if y4 = true then (some ((0 : Int), false)) else (iter (impl_GetNum.b0 a0 a1) ((0 : Int), (IntKind.wrap .i64 (a2 - (1 : Int))))))))
def impl_GetNum.Q (w : World) (F : Nat → Prop) (r : Int × Bool) (v : Value) (w' : World) : Prop :=
 v = .tuple #[(iI r.1), (.bool r.2)] ∧ Ky [] w w'
theorem impl_GetNum.calls (a0 : (List Int)) (a1 : Int) (a2 : Int) (w : World) (F : Nat → Prop) (w0_0 : Value) (h0_0 : Ye.rd w [w0_0] a0 F) (r : Int × Bool) (m : impl_GetNum.f a0 a1 a2 = some r) :
  Calls prog 93 #[w0_0, (iI a1), (iI a2)] w (RT (impl_GetNum.Q w F) r) := by
 obtain ⟨s0, rfl, kp0, z⟩ := Xg w F
 have A0_0 := z.rd h0_0
 refine Xd (args := [w0_0, (iI a1), (iI a2)]) func93 ntmps93 rfl rfl m ?_
 unfold impl_GetNum.f
 refine sr (Xb rfl (Xb rfl (dn (sq (sr (Xb rfl (clV 40 rfl func43 rfl (impl_within.calls a2 (1 : Int) (8 : Int) s0.w (mm [] s0)) (fun r2 s3 p3 n3 => ?_))))))))
 refine Xb rfl (Xb rfl (ji [] (fun (y4 : Bool) e w => ∃ (s : St) (e0 : Env), w = s.w ∧ e = upd (upd (upd (upd e0 0 w0_0) 1 (iI a1)) 2 (iI a2)) 19 (.bool y4) ∧ Kp s0 s) (fun Gj4 Kj4 => ?_) ?_))
 ·
  rcases bft (!r2) with hb4 | hb4
  ·
   refine Xu hb4 ?_
   rw [if_pos hb4]
   refine Xh rfl (Xh rfl (Xh rfl (Xh rfl (Xh rfl (Xb rfl ?_)))))
   exact Kj4 _ _ _ ⟨s3, _, rfl, (ue (ue (ue (ue rfl rfl) rfl) rfl) rfl), (kp0.st p3 rfl)⟩
  refine Xu hb4 ?_
  rw [if_neg (by rw [hb4]; decide)]
  refine Xl w0_0 rfl (Xb rfl (Xb rfl ?_))
  have K6 := kp0.st p3 rfl
  refine clV 41 rfl func106 rfl (impl_hasBytes.calls a0 a1 a2 s3.w (mm [0] s3) w0_0 (A0_0.kp K6)) (fun r8 s9 p9 n9 => ?_)
  refine Xb rfl (Xb rfl ?_)
  exact Kj4 _ _ _ ⟨s9, _, rfl, (ue (ue (ue (ue rfl rfl) rfl) rfl) rfl), (K6.st p9 rfl)⟩
 rintro y4 _ _ ⟨s11, _, rfl, rfl, Ky4⟩
 refine dn (cd rfl (fun h12 => ?_) (fun h12 => ?_))
 ·
  exact sr (Xb rfl (Xb rfl (dn (re rfl func93 rfl (Xo rfl (Xo rfl Xe)) rfl ⟨_, rfl, rfl, z.ky Ky4⟩))))
 refine sk (sr (Xb rfl (dn (sq (sr (Xb rfl (Xb rfl (Xb rfl (dn (bl (lpI (fun (x13 : Int × Int) e w => ∃ (s : St) (e0 : Env), w = s.w ∧ e = upd (upd (upd (upd e0 0 w0_0) 1 (iI a1)) 8 (.int .u64 x13.1)) 9 (iI x13.2) ∧ Kp s0 s) ⟨s11, _, rfl, (ue (ue (ue (ue rfl rfl) rfl) rfl) rfl), Ky4⟩ (fun g13 ih13 => ?_))))))))))))
 rintro x13 _ _ ⟨s14, _, rfl, rfl, Kx13⟩
 unfold impl_GetNum.b0
 refine sq (sr (Xb rfl (Xb rfl (dn (cd rfl (fun h15 => ?_) (fun h15 => ?_))))))
 ·
  refine sk (sq (bl (rg (Xb rfl (shlK rfl rfl rfl rfl rfl rfl rfl rfl (Xl w0_0 rfl (Xb rfl (Xb rfl (Xb rfl ?_)))))))))
  refine ix' (A0_0.kp Kx13) u45 z5 rfl (fun ad17 es17 h0_17 h1_17 he17 ce17 ia17 => ?_)
  obtain rfl := he17
  exact lc0' ce17 u5 rfl (cv' u103 u5 rfl (Xb rfl (Xb rfl (dn (ib (rg (Xb rfl (Xb rfl (Xb rfl (dn (lb ih13 ⟨s14, _, rfl, (ue (ue (ue (ue rfl rfl) rfl) rfl) rfl), Kx13⟩)))))))))))
 refine xt rfl (sgb (sq (sr (Xb rfl (Xb rfl (dn (cd rfl (fun h19 => ?_) (fun h19 => ?_))))))))
 ·
  exact sr (Xb rfl (Xb rfl (dn (re rfl func93 rfl (Xo rfl (Xo rfl Xe)) rfl ⟨_, rfl, rfl, z.ky Kx13⟩))))
 exact sk (sr (Xb rfl (cv' u3 u103 rfl (Xb rfl (Xb rfl (dn (re rfl func93 rfl (Xo rfl (Xo rfl Xe)) rfl ⟨_, rfl, rfl, z.ky Kx13⟩)))))))
def slices_Clone_byte_byte.f (a0 : (List Int)) : Option ((List Int)) :=
 (if ([] : (List Int)).length + a0.length ≤ Lim then (some (([] : (List Int)) ++ a0)) else none)
def slices_Clone_byte_byte.Q (w : World) (F : Nat → Prop) (r : (List Int)) (v : Value) (w' : World) : Prop :=
 FO Ye w w' [v] r ∧ Ky [] w w'
theorem slices_Clone_byte_byte.calls (a0 : (List Int)) (w : World) (F : Nat → Prop) (w0_0 : Value) (h0_0 : Ye.rd w [w0_0] a0 F) (r : (List Int)) (m : slices_Clone_byte_byte.f a0 = some r) :
  Calls prog 119 #[w0_0] w (RT (slices_Clone_byte_byte.Q w F) r) := by
 obtain ⟨s0, rfl, kp0, z⟩ := Xg w F
 have A0_0 := z.rd h0_0
 refine Xd (args := [w0_0]) func119 ntmps119 rfl rfl m ?_
 unfold slices_Clone_byte_byte.f
 refine sr (Xb rfl (dn (sq (sr (Xl w0_0 rfl (nq A0_0 u45 rfl rfl rfl rfl rfl rfl rfl (fun nb2 hn2 => ?_)))))))
 refine dn (cdb rfl (fun h3 => ?_) (fun h3 => ?_))
 ·
  obtain rfl := hn2 h3
  exact mg fun _ => (sr (Xb rfl (dn (re rfl func119 rfl (Xo rfl Xe) rfl ⟨_, rfl, (ow_nil 5 (Kd.int .u8) s0 40).fo kp0 rfl z.l, z.ky kp0⟩))))
 refine sk (sr (lt0 (K := (Kd.int .u8)) 40 u45 z5 rfl rfl rfl rfl rfl (fun v4 s4 p4 A4 => ?_)))
 refine Xl w0_0 rfl ?_
 have K6 := kp0.st p4 rfl
 refine apF Xq sl45 A4 (A0_0.kp K6) rfl rfl rfl rfl rfl rfl rfl (fun v8 s8 p8 A8 => ?_)
 refine Xp v8 rfl (dn ?_)
 have K10 := K6.st p8 rfl
 exact re rfl func119 rfl (Xo rfl Xe) rfl ⟨_, rfl, A8.fo K10 rfl z.l, z.ky K10⟩
def impl_fromHigh.b0 (a0 : (List Int)) (x2 : Int × Int) : Option ((Int × Int) ⊕ Int) :=
 (if (decide (x2.2 < (a0.length : Int))) = true then (if 0 ≤ x2.2 ∧ x2.2 < (a0.length : Int) then (some (Sum.inl ((ior .u64 (ishl .u64 x2.1 (8 : Int)) (IntKind.wrap .u64 (at_ a0 x2.2))), (IntKind.wrap .i64 (x2.2 + (1 : Int)))))) else none) else ((some x2.1).bind fun o => some (Sum.inr o)))
def impl_fromHigh.f (a0 : (List Int)) : Option (Int) :=
 (iter (impl_fromHigh.b0 a0) ((0 : Int), (0 : Int)))
def impl_fromHigh.Q (w : World) (F : Nat → Prop) (r : Int) (v : Value) (w' : World) : Prop :=
 v = (.int .u64 r) ∧ Ky [] w w'
theorem impl_fromHigh.calls (a0 : (List Int)) (w : World) (F : Nat → Prop) (w0_0 : Value) (h0_0 : Ye.rd w [w0_0] a0 F) (r : Int) (m : impl_fromHigh.f a0 = some r) :
  Calls prog 120 #[w0_0] w (RT (impl_fromHigh.Q w F) r) := by
 obtain ⟨s0, rfl, kp0, z⟩ := Xg w F
 have A0_0 := z.rd h0_0
 refine Xd (args := [w0_0]) func120 ntmps120 rfl rfl m ?_
 unfold impl_fromHigh.f
 refine sr (Xb rfl (dn (sr (Xb rfl (dn (sq (sr (Xl w0_0 rfl (ln' A0_0 u45 rfl (Xb rfl (dn (bl (lpI (fun (x2 : Int × Int) e w => ∃ (s : St) (e0 : Env), w = s.w ∧ e = upd (upd (upd (upd e0 3 (.int .u64 x2.1)) 6 w0_0) 7 (iI (a0.length : Int))) 8 (iI x2.2) ∧ Kp s0 s) ⟨s0, _, rfl, (ue (ue (ue (ue rfl rfl) rfl) rfl) rfl), kp0⟩ (fun g2 ih2 => ?_))))))))))))))
 rintro x2 _ _ ⟨s3, _, rfl, rfl, Kx2⟩
 unfold impl_fromHigh.b0
 refine sr (Xb rfl (dn (sq (cd rfl (fun h4 => ?_) (fun h4 => ?_)))))
 ·
  refine sk (sq (bl (sr ?_)))
  refine ix' (A0_0.kp Kx2) u45 z5 rfl (fun ad6 es6 h0_6 h1_6 he6 ce6 ia6 => ?_)
  obtain rfl := he6
  refine lc0' ce6 u5 rfl (Xb rfl (dn (rg (Xb rfl (shlK rfl rfl rfl rfl rfl rfl rfl rfl (Xb rfl (cv' u103 u5 rfl (Xb rfl (Xb rfl (dn (ib (rg (Xb rfl (Xb rfl ?_))))))))))))))
  exact dn (lb ih2 ⟨s3, _, rfl, (ue (ue (ue (ue rfl rfl) rfl) rfl) rfl), Kx2⟩)
 exact xt rfl (sgb (sr (Xb rfl (Xb rfl (dn (re rfl func120 rfl (Xo rfl Xe) rfl ⟨_, rfl, rfl, z.ky Kx2⟩))))))
def impl_readItem.f (a0 : (List Int)) (a1 : (Int → Option Nat)) : Option (Item) :=
 (if ((a0.length : Int) == (0 : Int)) = true then (some (Item.mk (0 : Int) (0 : Int) (0 : Nat) ([] : (List Int)))) else (if 0 ≤ (0 : Int) ∧ (0 : Int) < (a0.length : Int) then (if 0 ≤ (1 : Int) ∧ (1 : Int) ≤ (a0.length : Int) then ((if ((IntKind.wrap .i64 (at_ a0 (0 : Int))) == (3 : Int)) = true then ((slices_Clone_byte_byte.f (a0.drop ((1 : Int)).toNat)).bind fun r24 => (some (Sum.inl ((0 : Int), (0 : Nat), r24)))) else (if (((a0.drop ((1 : Int)).toNat).length : Int) != (8 : Int)) = true then (some (Sum.inr (Item.mk (0 : Int) (0 : Int) (0 : Nat) ([] : (List Int))))) else ((if ((IntKind.wrap .i64 (at_ a0 (0 : Int))) == (1 : Int)) = true then ((impl_fromHigh.f (a0.drop ((1 : Int)).toNat)).bind fun r42 => (some ((IntKind.wrap .i64 (IntKind.wrap .u64 (r42 - (9223372036854775808 : Int)))), (0 : Nat)))) else ((if ((IntKind.wrap .i64 (at_ a0 (0 : Int))) == (2 : Int)) = true then ((impl_fromHigh.f (a0.drop ((1 : Int)).toNat)).bind fun r51 => ((a1 r51).bind fun r54 => (some r54))) else (some (0 : Nat))).bind fun y49 => (some ((0 : Int), y49)))).bind fun y40 => (some (Sum.inl (y40.1, y40.2, ([] : (List Int)))))))).bind (sel fun y22 => (some (Item.mk (IntKind.wrap .i64 (at_ a0 (0 : Int))) y22.1 y22.2.1 y22.2.2)))) else none) else none))
def impl_readItem.Q (w : World) (F : Nat → Prop) (r : Item) (v : Value) (w' : World) : Prop :=
 ∃ (v0 : Value) (v1 : Value), v = (.agg #[(iI r.Kind), (iI r.N), v0, v1]) ∧ FO kd47 w w' [(iI r.Kind), (iI r.N), v0, v1] r ∧ Ky [] w w'
theorem impl_readItem.calls (a0 : (List Int)) (a1 : (Int → Option Nat)) (w : World) (F : Nat → Prop) (w0_0 : Value) (f1 : Value) (h0_0 : Ye.rd w [w0_0] a0 F) (hf1 : ∀ (x0 : Int) (w' : World), Ky [] w w' → ∀ r, a1 x0 = some r → CallV prog f1 [(.int .u64 x0)] w' fun en w'' => ∃ v, en = .returned v ∧ FL v r ∧ Ky [] w' w'') (ho1 : f1.cells = #[f1]) (r : Item) (m : impl_readItem.f a0 a1 = some r) :
  Calls prog 107 #[w0_0, f1] w (RT (impl_readItem.Q w F) r) := by
 obtain ⟨s0, rfl, kp0, z⟩ := Xg w F
 have A0_0 := z.rd h0_0
 refine Xd (args := [w0_0, f1]) func107 ntmps107 rfl rfl m ?_
 unfold impl_readItem.f
 refine sr (al' (cs := [(iI 0), (iI 0), (.float .f64 0), (.slice none 0 0)]) 40 rfl o47 rfl (fun b2 s2 p2 B2 => ?_))
 refine dn (sq (sr (Xl w0_0 rfl ?_)))
 have K4 := kp0.st p2 rfl
 have A5 := A0_0.kp K4
 refine ln' A5 u45 rfl (Xb rfl (dn (cd rfl (fun h6 => ?_) (fun h6 => ?_))))
 ·
  refine sr (bd (cells := [(iI 0), (iI 0), (.float .f64 0), (.slice none 0 0)]) pl47 o47 rfl rfl rfl rfl rfl rfl (sva' (vs := [(iI 0), (iI 0), (.float .f64 0), (.slice none 0 0)]) B2 z47 rfl (Xc rfl (Xc rfl (Xc (FL.one (Xw rfl)) (Xc rfl Xt)))) rfl (fun s7 p7 B7 => ?_)))
  refine dn ?_
  have A9 : OwF kd47 s7 [(iI 0), (iI 0), (.float .f64 0), (.slice none 0 0)] (Item.mk (0 : Int) (0 : Int) (0 : Nat) ([] : (List Int))) 41 := ow_z _ _ (fz_iso (fun x : Item => (x.Kind, x.N, x.F, x.T)) (Item.mk (0 : Int) (0 : Int) (0 : Nat) ([] : (List Int))) (Xj (Xi .i64 (0 : Int)) (Xj (Xi .i64 (0 : Int)) (Xj (Ya (Xw rfl)) (fz_nil 5 (Kd.int .u8))))))
  have K11 := K4.st p7 rfl
  exact re rfl func107 rfl (r_b B7 u47 rfl z47 rfl Xe) rfl ⟨_, rfl, (.float .f64 0), (.slice none 0 0), rfl, A9.fo K11 rfl z.l, z.ky K11⟩
 refine sk (sr (Xl w0_0 rfl (ix' A5 u45 z5 rfl (fun ad12 es12 h0_12 h1_12 he12 ce12 ia12 => ?_))))
 obtain rfl := he12
 refine lc0' ce12 u5 rfl (cv' u3 u5 rfl (bd (cells := [(iI (IntKind.wrap .i64 (at_ a0 (0 : Int)))), (iI 0), (.float .f64 0), (.slice none 0 0)]) pl47 o47 rfl rfl rfl rfl rfl rfl (al' (cs := [(iI 0), (iI 0), (.float .f64 0), (.slice none 0 0)]) 42 rfl o47 rfl (fun b14 s14 p14 B14 => ?_))))
 refine sva' (vs := [(iI (IntKind.wrap .i64 (at_ a0 (0 : Int)))), (iI 0), (.float .f64 0), (.slice none 0 0)]) B14 z47 rfl (Xc rfl (Xc rfl (Xc (FL.one (Xw rfl)) (Xc rfl Xt)))) rfl (fun s16 p16 B16 => ?_)
 refine dn (sr (Xl w0_0 rfl ?_))
 have K18 := K4.st (Xs p14 p16) rfl
 refine sla (A0_0.kp K18) u45 z5 rfl rfl rfl rfl rfl rfl rfl (fun v20 A20 => ?_)
 refine Xp v20 rfl (dn (sq (bl (sr (Xr fa47_0 rfl (ld' B16 u3 rfl (Xb rfl (Xb rfl (dn (jr (fun (y22 : Int × Nat × (List Int)) e w => ∃ (s : St) (e0 : Env) (vy22_0 uy22_0 : Value), w = s.w ∧ e = upd (upd e0 4 (pB b2)) 5 (pB b14) ∧ Kp s0 s ∧ OwF Ye s [vy22_0] y22.2.2 43 ∧ FL uy22_0 y22.2.1 ∧ BlF s b14 47 [(iI (IntKind.wrap .i64 (at_ a0 (0 : Int)))), (iI y22.1), uy22_0, vy22_0] 42 ∧ BlF s b2 47 [(iI 0), (iI 0), (.float .f64 0), (.slice none 0 0)] 40) (fun Gj22 Kj22 hG22 => ?_) ?_))))))))))
 ·
  refine cd rfl (fun h23 => ?_) (fun h23 => ?_)
  ·
   refine rg (Xl v20 rfl (clO 43 rfl func119 rfl (slices_Clone_byte_byte.calls (a0.drop ((1 : Int)).toNat) s16.w (mm [0] s16) v20 A20) (fun r24 v24_0 s25 p25 A24_0 => ?_)))
   refine Xr fa47_3 rfl (sv (B16.st p25 rfl) z45 rfl rfl rfl rfl rfl rfl A24_0.rd.one rfl (fun s28 p28 B28 => ?_))
   exact dn (Kj22 _ _ _ ⟨s28, _, v24_0, (.float .f64 0), rfl, (ue (ue rfl rfl) rfl), (K18.st (Xs p25 p28) rfl), (A24_0.st p28 rfl), (Xw rfl), B28, (B2.st (tr4 p14 p16 p25 p28) rfl)⟩)
  refine sr (Xl v20 rfl (ln' A20 u45 rfl (Xb rfl (Xb rfl (dn (cd rfl (fun h33 => ?_) (fun h33 => ?_)))))))
  ·
   refine sr (bd (cells := [(iI 0), (iI 0), (.float .f64 0), (.slice none 0 0)]) pl47 o47 rfl rfl rfl rfl rfl rfl ?_)
   refine sva' (vs := [(iI 0), (iI 0), (.float .f64 0), (.slice none 0 0)]) (B2.st (Xs p14 p16) rfl) z47 rfl (Xc rfl (Xc rfl (Xc (FL.one (Xw rfl)) (Xc rfl Xt)))) rfl (fun s35 p35 B35 => ?_)
   refine dn (jri hG22 ?_)
   have A37 : OwF kd47 s35 [(iI 0), (iI 0), (.float .f64 0), (.slice none 0 0)] (Item.mk (0 : Int) (0 : Int) (0 : Nat) ([] : (List Int))) 44 := ow_z _ _ (fz_iso (fun x : Item => (x.Kind, x.N, x.F, x.T)) (Item.mk (0 : Int) (0 : Int) (0 : Nat) ([] : (List Int))) (Xj (Xi .i64 (0 : Int)) (Xj (Xi .i64 (0 : Int)) (Xj (Ya (Xw rfl)) (fz_nil 5 (Kd.int .u8))))))
   have K39 := K18.st p35 rfl
   exact re rfl func107 rfl (r_b B35 u47 rfl z47 rfl Xe) rfl ⟨_, rfl, (.float .f64 0), (.slice none 0 0), rfl, A37.fo K39 rfl z.l, z.ky K39⟩
  refine sr (Xr fa47_0 rfl (ld' B16 u3 rfl (Xb rfl (Xb rfl (dn (jc (fun (y40 : Int × Nat) e w => ∃ (s : St) (e0 : Env) (uy40_0 : Value), w = s.w ∧ e = upd (upd e0 4 (pB b2)) 5 (pB b14) ∧ Kp s0 s ∧ FL uy40_0 y40.2 ∧ BlF s b14 47 [(iI (IntKind.wrap .i64 (at_ a0 (0 : Int)))), (iI y40.1), uy40_0, (.slice none 0 0)] 42 ∧ BlF s b2 47 [(iI 0), (iI 0), (.float .f64 0), (.slice none 0 0)] 40) (fun Gj40 Kj40 => ?_) ?_))))))
  ·
   refine cd rfl (fun h41 => ?_) (fun h41 => ?_)
   ·
    refine rg (Xl v20 rfl (clV 45 rfl func120 rfl (impl_fromHigh.calls (a0.drop ((1 : Int)).toNat) s16.w (mm [0] s16) v20 A20) (fun r42 s43 p43 n43 => ?_)))
    refine Xb rfl (cv' u3 u103 rfl (Xr fa47_1 rfl ?_))
    refine sv (B16.st p43 rfl) z3 rfl rfl rfl rfl rfl rfl rfl rfl (fun s45 p45 B45 => ?_)
    exact dn (Kj40 _ _ _ ⟨s45, _, (.float .f64 0), rfl, (ue (ue rfl rfl) rfl), (K18.st (Xs p43 p45) rfl), (Xw rfl), B45, (B2.st (tr4 p14 p16 p43 p45) rfl)⟩)
   refine sr (Xr fa47_0 rfl (ld' B16 u3 rfl (Xb rfl (Xb rfl (dn (jc (fun (y49 : Nat) e w => ∃ (s : St) (e0 : Env) (uy49_0 : Value), w = s.w ∧ e = upd (upd e0 4 (pB b2)) 5 (pB b14) ∧ Kp s0 s ∧ FL uy49_0 y49 ∧ BlF s b14 47 [(iI (IntKind.wrap .i64 (at_ a0 (0 : Int)))), (iI 0), uy49_0, (.slice none 0 0)] 42 ∧ BlF s b2 47 [(iI 0), (iI 0), (.float .f64 0), (.slice none 0 0)] 40) (fun Gj49 Kj49 => ?_) ?_))))))
   ·
    refine cd rfl (fun h50 => ?_) (fun h50 => ?_)
    ·
     refine rg (Xl f1 rfl (Xl v20 rfl (clV 46 rfl func120 rfl (impl_fromHigh.calls (a0.drop ((1 : Int)).toNat) s16.w (mm [0] s16) v20 A20) (fun r51 s52 p52 n52 => ?_))))
     have K53 := K18.st p52 rfl
     refine clv rfl rfl rfl rfl rfl rfl rfl (fun r54 m54 => hf1 r51 s52.w (z.ky K53)  r54 m54) ?_
     rintro r54 v54_0 w54 m54 ⟨f54_0, ky54⟩
     obtain ⟨s55, rfl, p55, n55⟩ := nwx s52 w54 47 ky54
     refine Xr fa47_2 rfl (sv (B16.st (Xs p52 p55) rfl) z44 rfl rfl rfl rfl rfl rfl (FL.one f54_0) rfl (fun s57 p57 B57 => ?_))
     exact dn (Kj49 _ _ _ ⟨s57, _, v54_0, rfl, (ue (ue rfl rfl) rfl), (K53.st (Xs p55 p57) rfl), f54_0, B57, (B2.st (tr5 p14 p16 p52 p55 p57) rfl)⟩)
    exact sk (Kj49 _ _ _ ⟨s16, _, (.float .f64 0), rfl, (ue (ue rfl rfl) rfl), K18, (Xw rfl), B16, (B2.st (Xs p14 p16) rfl)⟩)
   rintro y49 _ _ ⟨s62, _, uy49_0, rfl, rfl, Ky49, Fy49_0, By49_b14, By49_b2⟩
   exact Kj40 _ _ _ ⟨s62, _, uy49_0, rfl, (ue (ue rfl rfl) rfl), Ky49, Fy49_0, By49_b14, By49_b2⟩
  rintro y40 _ _ ⟨s65, _, uy40_0, rfl, rfl, Ky40, Fy40_0, By40_b14, By40_b2⟩
  exact Kj22 _ _ _ ⟨s65, _, (.slice none 0 0), uy40_0, rfl, (ue (ue rfl rfl) rfl), Ky40, (ow_nil 5 (Kd.int .u8) _ 43), Fy40_0, By40_b14, By40_b2⟩
 rintro y22 _ _ ⟨s68, _, vy22_0, uy22_0, rfl, rfl, Ky22, Ay22_0, Fy22_0, By22_b14, By22_b2⟩
 refine ib (sr (Yc (es := [(iI (IntKind.wrap .i64 (at_ a0 (0 : Int)))), (iI y22.1), uy22_0, vy22_0]) By22_b14 u47 z47 rfl (sva' (vs := [(iI (IntKind.wrap .i64 (at_ a0 (0 : Int)))), (iI y22.1), uy22_0, vy22_0]) By22_b2 z47 rfl (Xc rfl (Xc rfl (Xc (FL.one Fy22_0) (Xc Ay22_0.rd.one Xt)))) rfl (fun s72 p72 B72 => ?_))))
 refine dn ?_
 have A74 : OwF kd47 s72 [(iI (IntKind.wrap .i64 (at_ a0 (0 : Int)))), (iI y22.1), uy22_0, vy22_0] (Item.mk (IntKind.wrap .i64 (at_ a0 (0 : Int))) y22.1 y22.2.1 y22.2.2) 43 := (Yd (fun x : Item => (x.Kind, x.N, x.F, x.T)) (Item.mk (IntKind.wrap .i64 (at_ a0 (0 : Int))) y22.1 y22.2.1 y22.2.2) (ow_l (Xi .i64 (IntKind.wrap .i64 (at_ a0 (0 : Int)))) (ow_l (Xi .i64 y22.1) (ow_l (Ya Fy22_0) (Ay22_0.st p72 rfl)))))
 have K77 := Ky22.st p72 rfl
 exact re rfl func107 rfl (r_b B72 u47 rfl z47 rfl Xe) rfl ⟨_, rfl, uy22_0, vy22_0, rfl, A74.fo K77 rfl z.l, z.ky K77⟩
def math_NaN.f  : Option (Nat) :=
 (some (cn ((9221120237041090561 : Int)).toNat))
def math_NaN.Q (w : World) (F : Nat → Prop) (r : Nat) (v : Value) (w' : World) : Prop :=
 FL v r ∧ Ky [] w w'
theorem math_NaN.calls  (w : World) (F : Nat → Prop)   (r : Nat) (m : math_NaN.f  = some r) :
  Calls prog 122 #[] w (RT (math_NaN.Q w F) r) := by
 obtain ⟨s0, rfl, kp0, z⟩ := Xg w F
 refine Xd (args := []) func122 ntmps122 rfl rfl m ?_
 unfold math_NaN.f
 refine sr (Xp (.float .f64 0) rfl (dn (sr (ffb rfl rfl rfl rfl rfl func121 rfl rfl xn121 xf121 rfl (fun v1 A1 => ?_)))))
 exact Xp v1 rfl (dn (re rfl func122 rfl (Xo rfl Xe) rfl ⟨_, rfl, A1, z.ky kp0⟩))
def impl_FloatRank.f (a0 : Nat) : Option (Int) :=
 (if (fcmp .f64 a0 a0 != some .eq) = true then (some (18446744073709551615 : Int)) else (if (fcmp .f64 a0 (0 : Nat) == some .eq) = true then (some (9223372036854775808 : Int)) else (if (fcmp .f64 a0 (0 : Nat) == some .gt) = true then (if isN a0 = false then (some (ior .u64 (a0 : Int) (9223372036854775808 : Int))) else none) else (if isN a0 = false then (some (ixor .u64 (IntKind.max .u64) (a0 : Int))) else none))))
def impl_FloatRank.Q (w : World) (F : Nat → Prop) (r : Int) (v : Value) (w' : World) : Prop :=
 v = (.int .u64 r) ∧ Ky [] w w'
theorem impl_FloatRank.calls (a0 : Nat) (w : World) (F : Nat → Prop) (w0_0 : Value) (h0_0 : Kd.flt.rd w [w0_0] a0 F) (r : Int) (m : impl_FloatRank.f a0 = some r) :
  Calls prog 73 #[w0_0] w (RT (impl_FloatRank.Q w F) r) := by
 obtain ⟨s0, rfl, kp0, z⟩ := Xg w F
 have A0_0 := fl_of h0_0
 refine Xd (args := [w0_0]) func73 ntmps73 rfl rfl m ?_
 unfold impl_FloatRank.f
 refine sr (Xb rfl (dn (sq (bl (sr (Xl w0_0 rfl (Xl w0_0 rfl (fq_' A0_0 A0_0 rfl (Xb rfl (dn (cd rfl (fun h1 => ?_) (fun h1 => ?_))))))))))))
 ·
  exact sr (Xb rfl (dn (re rfl func73 rfl (Xo rfl Xe) rfl ⟨_, rfl, rfl, z.ky kp0⟩)))
 refine sr (Xl w0_0 rfl (fq_' A0_0 (Xw rfl) rfl (Xb rfl (dn (cd rfl (fun h2 => ?_) (fun h2 => ?_))))))
 ·
  exact sr (Xb rfl (dn (re rfl func73 rfl (Xo rfl Xe) rfl ⟨_, rfl, rfl, z.ky kp0⟩)))
 refine sr (Xl w0_0 rfl (fq_' A0_0 (Xw rfl) rfl (Xb rfl (dn (cd rfl (fun h3 => ?_) (fun h3 => ?_))))))
 ·
  exact sr (Xl w0_0 rfl (fb_ A0_0 rfl rfl rfl rfl rfl func101 rfl rfl xn101 xf101 rfl (Xb rfl (Xb rfl (dn (re rfl func73 rfl (Xo rfl Xe) rfl ⟨_, rfl, rfl, z.ky kp0⟩))))))
 exact sk (ib (sr (Xl w0_0 rfl (fb_ A0_0 rfl rfl rfl rfl rfl func101 rfl rfl xn101 xf101 rfl (Xb rfl (Xb rfl (dn (re rfl func73 rfl (Xo rfl Xe) rfl ⟨_, rfl, rfl, z.ky kp0⟩))))))))
def impl_FloatUnrank.f (a0 : Int) : Option (Nat × Bool) :=
 ((if (decide (a0 < (9223372036854775808 : Int))) = true then (some (ixor .u64 (IntKind.max .u64) a0)) else (some (iandn .u64 a0 (9223372036854775808 : Int)))).bind fun y1 => (if (a0 == (18446744073709551615 : Int)) = true then ((math_NaN.f).bind fun r6 => (some (r6, true))) else ((if (fcmp .f64 (cn (y1).toNat) (cn (y1).toNat) != some .eq) = true then (some true) else ((impl_FloatRank.f (cn (y1).toNat)).bind fun r10 => (some (r10 != a0)))).bind fun y9 => (if y9 = true then (some ((0 : Nat), false)) else (some ((cn (y1).toNat), true))))))
def impl_FloatUnrank.Q (w : World) (F : Nat → Prop) (r : Nat × Bool) (v : Value) (w' : World) : Prop :=
 ∃ (v0 : Value), v = .tuple #[v0, (.bool r.2)] ∧ FL v0 r.1 ∧ Ky [] w w'
theorem impl_FloatUnrank.calls (a0 : Int) (w : World) (F : Nat → Prop)   (r : Nat × Bool) (m : impl_FloatUnrank.f a0 = some r) :
  Calls prog 109 #[(.int .u64 a0)] w (RT (impl_FloatUnrank.Q w F) r) := by
 obtain ⟨s0, rfl, kp0, z⟩ := Xg w F
 refine Xd (args := [(.int .u64 a0)]) func109 ntmps109 rfl rfl m ?_
 unfold impl_FloatUnrank.f
 refine sr (Xp (.float .f64 0) rfl (Xb rfl (dn (sr (Xb rfl (Xb rfl (Xb rfl (dn (sq (sr (Xb rfl (Xb rfl (dn (jc (fun (y1 : Int) e w => ∃ (s : St) (e0 : Env), w = s.w ∧ e = upd (upd e0 0 (.int .u64 a0)) 4 (.int .u64 y1) ∧ Kp s0 s) (fun Gj1 Kj1 => ?_) ?_))))))))))))))
 ·
  refine cd rfl (fun h2 => ?_) (fun h2 => ?_)
  ·
   exact rg (Xb rfl (Xb rfl (Xb rfl (dn (Kj1 _ _ _ ⟨s0, _, rfl, (ue (ue rfl rfl) rfl), kp0⟩)))))
  exact sk (Kj1 _ _ _ ⟨s0, _, rfl, (ue (ue rfl rfl) rfl), kp0⟩)
 rintro y1 _ _ ⟨s3, _, rfl, rfl, Ky1⟩
 refine sr (Xb rfl (ffb rfl rfl rfl rfl rfl func121 rfl rfl xn121 xf121 rfl (fun v4 A4 => ?_)))
 refine Xp v4 rfl (dn (sq (bl (sr (Xb rfl (Xb rfl (Xb rfl (dn (cd rfl (fun h5 => ?_) (fun h5 => ?_))))))))))
 ·
  refine sr (cl' rfl func122 rfl (math_NaN.calls  s3.w (mm [] s3)) ?_)
  rintro r6 v6_0 w6 m6 ⟨f6_0, ky6⟩
  obtain ⟨s7, rfl, p7, n7⟩ := nwx s3 w6 40 ky6
  refine Xp v6_0 rfl (Xb rfl (dn ?_))
  exact re rfl func109 rfl (Xo rfl (Xo rfl Xe)) rfl ⟨_, rfl, v6_0, rfl, f6_0, z.ky (Ky1.st p7 rfl)⟩
 refine sr (Xl v4 rfl (Xl v4 rfl (fq_' A4 A4 rfl (Xb rfl (ji [9] (fun (y9 : Bool) e w => ∃ (s : St) (e0 : Env), w = s.w ∧ e = upd (upd e0 5 v4) 27 (.bool y9) ∧ Kp s0 s) (fun Gj9 Kj9 => ?_) ?_)))))
 ·
  rcases bft (fcmp .f64 (cn (y1).toNat) (cn (y1).toNat) != some .eq) with hb9 | hb9
  ·
   refine Xu hb9 ?_
   rw [if_pos hb9]
   exact Xh rfl (Xh rfl (Xh rfl (Xh rfl (Xb rfl (Kj9 _ _ _ ⟨s3, _, rfl, (ue (ue rfl rfl) rfl), Ky1⟩)))))
  refine Xu hb9 ?_
  rw [if_neg (by rw [hb9]; decide)]
  refine Xl v4 rfl (clV 41 rfl func73 rfl (impl_FloatRank.calls (cn (y1).toNat) s3.w (mm [] s3) v4 (Xn (s := s3) A4)) (fun r10 s11 p11 n11 => ?_))
  refine Xb rfl (Xb rfl (Xb rfl ?_))
  exact Kj9 _ _ _ ⟨s11, _, rfl, (ue (ue rfl rfl) rfl), (Ky1.st p11 rfl)⟩
 rintro y9 _ _ ⟨s13, _, rfl, rfl, Ky9⟩
 refine Xb rfl (dn (cd rfl (fun h14 => ?_) (fun h14 => ?_)))
 ·
  exact sr (Xp (.float .f64 0) rfl (Xb rfl (dn (re rfl func109 rfl (Xo rfl (Xo rfl Xe)) rfl ⟨_, rfl, (.float .f64 0), rfl, (Xw rfl), z.ky Ky9⟩))))
 exact sk (ib (sr (Xl v4 rfl (Xp v4 rfl (Xb rfl (dn (re rfl func109 rfl (Xo rfl (Xo rfl Xe)) rfl ⟨_, rfl, v4, rfl, A4, z.ky Ky9⟩)))))))
def impl_KeyRead_1.f (a0 : Int) : Option (Nat) :=
 ((impl_FloatUnrank.f a0).bind fun r1 => (some r1.1))
def impl_KeyRead_1.Q (w : World) (F : Nat → Prop) (r : Nat) (v : Value) (w' : World) : Prop :=
 FL v r ∧ Ky [] w w'
theorem impl_KeyRead_1.calls (a0 : Int) (w : World) (F : Nat → Prop)   (r : Nat) (m : impl_KeyRead_1.f a0 = some r) :
  Calls prog 108 #[(.int .u64 a0)] w (RT (impl_KeyRead_1.Q w F) r) := by
 obtain ⟨s0, rfl, kp0, z⟩ := Xg w F
 refine Xd (args := [(.int .u64 a0)]) func108 ntmps108 rfl rfl m ?_
 unfold impl_KeyRead_1.f
 refine sr (Xp (.float .f64 0) rfl (dn (sr (Xb rfl (cl' rfl func109 rfl (impl_FloatUnrank.calls a0 s0.w (mm [] s0)) ?_)))))
 rintro r1 _ w1 m1 ⟨v1_0, rfl, f1_0, ky1⟩
 obtain ⟨s2, rfl, p2, n2⟩ := nwx s0 w1 40 ky1
 refine Xb rfl (Xb (v := v1_0) rfl (Xb (v := (.bool r1.2)) rfl (Xp v1_0 rfl (Xb rfl (dn (sr (Xl v1_0 rfl (Xp v1_0 rfl (dn ?_)))))))))
 exact re rfl func108 rfl (Xo rfl Xe) rfl ⟨_, rfl, f1_0, z.ky (kp0.st p2 rfl)⟩
end Go.Proofs.YtcgbhldenkeplaaGreat
