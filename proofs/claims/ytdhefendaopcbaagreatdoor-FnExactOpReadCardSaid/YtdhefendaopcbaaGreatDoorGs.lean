/- The functions as models, and that the calls come to what the models tell. -/
import Derived.Test.YtdhefendaopcbaaGreatDoorGsa
set_option linter.unusedVariables false
set_option linter.unusedSimpArgs false
set_option maxHeartbeats 4000000
set_option maxRecDepth 100000
noncomputable section
namespace Go.Proofs.YtdhefendaopcbaaGreatDoor
open Go V Tryz
def spec_l18digits0.b1 (x12 : Int × (List Int)) (x27 : (List Int) × Int) : Option (((List Int) × Int) ⊕ (List Int)) :=
 (if (decide (x27.2 ≥ (0 : Int))) = true then (if 0 ≤ x27.2 ∧ x27.2 < ((x12.2 ++ [(IntKind.wrap .u8 (IntKind.wrap .i64 ((48 : Int) + x12.1)))]).length : Int) then (if x27.1.length + ([(at_ (x12.2 ++ [(IntKind.wrap .u8 (IntKind.wrap .i64 ((48 : Int) + x12.1)))]) x27.2)]).length ≤ Lim then (some (Sum.inl ((x27.1 ++ [(at_ (x12.2 ++ [(IntKind.wrap .u8 (IntKind.wrap .i64 ((48 : Int) + x12.1)))]) x27.2)]), (IntKind.wrap .i64 (x27.2 - (1 : Int)))))) else none) else none) else ((some x27.1).bind fun o => some (Sum.inr o)))
def spec_l18digits0.b0  (x12 : Int × (List Int)) : Option ((Int × (List Int)) ⊕ (List Int)) :=
 (if (decide (x12.1 > (9 : Int))) = true then (if x12.2.length + ([(IntKind.wrap .u8 (IntKind.wrap .i64 ((48 : Int) + (x12.1.tmod (10 : Int)))))]).length ≤ Lim then (some (Sum.inl ((IntKind.wrap .i64 (x12.1.tdiv (10 : Int))), (x12.2 ++ [(IntKind.wrap .u8 (IntKind.wrap .i64 ((48 : Int) + (x12.1.tmod (10 : Int)))))])))) else none) else ((if x12.2.length + ([(IntKind.wrap .u8 (IntKind.wrap .i64 ((48 : Int) + x12.1)))]).length ≤ Lim then (iter (spec_l18digits0.b1 x12) (([] : (List Int)), (IntKind.wrap .i64 (((x12.2 ++ [(IntKind.wrap .u8 (IntKind.wrap .i64 ((48 : Int) + x12.1)))]).length : Int) - (1 : Int))))) else none).bind fun o => some (Sum.inr o)))
def spec_l18digits0.f (a0 : Int) : Option ((List Int)) :=
 (if (a0 == (-9223372036854775808 : Int)) = true then (some ([(45 : Int), (57 : Int), (50 : Int), (50 : Int), (51 : Int), (51 : Int), (55 : Int), (50 : Int), (48 : Int), (51 : Int), (54 : Int), (56 : Int), (53 : Int), (52 : Int), (55 : Int), (55 : Int), (53 : Int), (56 : Int), (48 : Int), (56 : Int)])) else (if (decide (a0 < (0 : Int))) = true then none else (iter spec_l18digits0.b0 (a0, ([] : (List Int))))))
def spec_l18digits0.Q (w : World) (F : Nat → Prop) (r : (List Int)) (v : Value) (w' : World) : Prop :=
 FO Xx w w' [v] r ∧ Ky [] w w'
theorem spec_l18digits0.calls (a0 : Int) (w : World) (F : Nat → Prop)   (r : (List Int)) (m : spec_l18digits0.f a0 = some r) :
  Calls prog 77 #[(iI a0)] w (RT (spec_l18digits0.Q w F) r) := by
 obtain ⟨s0, rfl, kp0, z⟩ := Xm w F
 refine Xd (args := [(iI a0)]) func77 ntmps77 rfl rfl m ?_
 unfold spec_l18digits0.f
 refine sr (Xb rfl (dn (sq (sr (Xb rfl (Xb rfl (dn (cd rfl (fun h1 => ?_) (fun h1 => ?_)))))))))
 ·
  refine sr (ltF' (K := (Kd.int .u8)) (cells := [(.int .u8 (45 : Int)), (.int .u8 (57 : Int)), (.int .u8 (50 : Int)), (.int .u8 (50 : Int)), (.int .u8 (51 : Int)), (.int .u8 (51 : Int)), (.int .u8 (55 : Int)), (.int .u8 (50 : Int)), (.int .u8 (48 : Int)), (.int .u8 (51 : Int)), (.int .u8 (54 : Int)), (.int .u8 (56 : Int)), (.int .u8 (53 : Int)), (.int .u8 (52 : Int)), (.int .u8 (55 : Int)), (.int .u8 (55 : Int)), (.int .u8 (53 : Int)), (.int .u8 (56 : Int)), (.int .u8 (48 : Int)), (.int .u8 (56 : Int))]) [(45 : Int), (57 : Int), (50 : Int), (50 : Int), (51 : Int), (51 : Int), (55 : Int), (50 : Int), (48 : Int), (51 : Int), (54 : Int), (56 : Int), (53 : Int), (52 : Int), (55 : Int), (55 : Int), (53 : Int), (56 : Int), (48 : Int), (56 : Int)] 40 Xn u22 z5 o5 (fun w => (Xj _ _ _)) rfl (lfill_c rfl rfl rfl rfl rfl) (fun v2 s2 p2 A2 => ?_))
  refine cvm A2 rfl u22 u5 rfl rfl rfl rfl rfl rfl (fun s4 p4 A4 => ?_)
  refine Xq v2 rfl (dn ?_)
  have K6 := kp0.st (Xo p2 p4) rfl
  exact re rfl func77 rfl (Xv rfl Xg) rfl ⟨_, rfl, A4.fo K6 rfl z.l, z.ky K6⟩
 refine sk (sq (sr (Xb rfl (Xb rfl (dn (cd rfl (fun h7 => ?_) (fun h7 => ?_)))))))
 ·
  refine sr (ltF' (K := (Kd.int .u8)) (cells := [(.int .u8 (45 : Int))]) [(45 : Int)] 41 Xn u22 z5 o5 (fun w => (Xj _ _ _)) rfl rfl (fun v8 s8 p8 A8 => ?_))
  refine cvm A8 rfl u22 u5 rfl rfl rfl rfl rfl rfl (fun s10 p10 A10 => ?_)
  exact Xb rfl (Xb rfl mn)
 refine sk (sr (Xb rfl (dn (sq (bl (lpI (fun (x12 : Int × (List Int)) e w => ∃ (s : St) (e0 : Env) (vx12_0 : Value), w = s.w ∧ e = upd (upd e0 0 (iI x12.1)) 3 vx12_0 ∧ Kp s0 s ∧ OwF Xx s [vx12_0] x12.2 42) ⟨s0, _, (.slice none 0 0), rfl, (ue (ue rfl rfl) rfl), kp0, (Xk 5 (Kd.int .u8) _ 42)⟩ (fun g12 ih12 => ?_)))))))
 rintro x12 _ _ ⟨s13, _, vx12_0, rfl, rfl, Kx12, Ax12_0⟩
 unfold spec_l18digits0.b0
 refine sq (sr (Xb rfl (Xb rfl (dn (cd rfl (fun h15 => ?_) (fun h15 => ?_))))))
 ·
  refine sk (bl (sr (Xp vx12_0 rfl (Xb rfl (remK rfl rfl rfl rfl rfl rfl rfl rfl (Xb rfl (cv u5 u3 rfl rfl rfl rfl rfl rfl (ltF' (K := (Kd.int .u8)) (cells := [(.int .u8 (IntKind.wrap .u8 (IntKind.wrap .i64 ((48 : Int) + (x12.1.tmod (10 : Int))))))]) [(IntKind.wrap .u8 (IntKind.wrap .i64 ((48 : Int) + (x12.1.tmod (10 : Int)))))] 43 Xn u22 z5 o5 (fun w => (Xj _ _ _)) rfl rfl (fun v16 s16 p16 A16 => ?_)))))))))
  refine apF' Xn sl22 (Ax12_0.st p16 rfl) A16.rd rfl (fun v19 s19 p19 A19 => ?_)
  refine Xq v19 rfl (dn (rg (Xb rfl (quoK rfl rfl rfl rfl rfl rfl rfl rfl (Xb rfl (dn (ib ?_)))))))
  exact lb ih12 ⟨s19, _, v19, rfl, (ue (ue rfl rfl) rfl), (Kx12.st (Xo p16 p19) rfl), A19⟩
 refine xt rfl (sgb (sr (Xp vx12_0 rfl (Xb rfl (Xb rfl (cv u5 u3 rfl rfl rfl rfl rfl rfl (ltF' (K := (Kd.int .u8)) (cells := [(.int .u8 (IntKind.wrap .u8 (IntKind.wrap .i64 ((48 : Int) + x12.1))))]) [(IntKind.wrap .u8 (IntKind.wrap .i64 ((48 : Int) + x12.1)))] 44 Xn u22 z5 o5 (fun w => (Xj _ _ _)) rfl rfl (fun v22 s22 p22 A22 => ?_))))))))
 refine apF' Xn sl22 (Ax12_0.st p22 rfl) A22.rd rfl (fun v25 s25 p25 A25 => ?_)
 refine Xq v25 rfl (dn (sr (Xb rfl (dn (sq (sr (Xp v25 rfl (ln' A25.rd u22 rfl (Xb rfl (Xb rfl (dn (bl ?_))))))))))))
 refine lpI (fun (x27 : (List Int) × Int) e w => ∃ (s : St) (e0 : Env) (vx27_0 : Value), w = s.w ∧ e = upd (upd (upd e0 3 v25) 4 vx27_0) 5 (iI x27.2) ∧ Kp s0 s ∧ OwF Xx s [vx27_0] x27.1 45 ∧ OwF Xx s [v25] (x12.2 ++ [(IntKind.wrap .u8 (IntKind.wrap .i64 ((48 : Int) + x12.1)))]) 42) ⟨s25, _, (.slice none 0 0), rfl, (ue (ue (ue rfl rfl) rfl) rfl), (Kx12.st (Xo p22 p25) rfl), (Xk 5 (Kd.int .u8) _ 45), A25⟩ (fun g27 ih27 => ?_)
 rintro x27 _ _ ⟨s29, _, vx27_0, rfl, rfl, Kx27, Ax27_0, Cx27_26⟩
 unfold spec_l18digits0.b1
 refine sq (sr (Xb rfl (Xb rfl (dn (cd rfl (fun h31 => ?_) (fun h31 => ?_))))))
 ·
  refine sk (sq (bl (rg (Xp vx27_0 rfl (Xp v25 rfl (Xb rfl (ix' Cx27_26.rd u22 z5 rfl (fun ad32 es32 h0_32 h1_32 he32 ce32 ia32 => ?_))))))))
  obtain rfl := he32
  refine lc0' ce32 u5 rfl (ltF' (K := (Kd.int .u8)) (cells := [(.int .u8 (at_ (x12.2 ++ [(IntKind.wrap .u8 (IntKind.wrap .i64 ((48 : Int) + x12.1)))]) x27.2))]) [(at_ (x12.2 ++ [(IntKind.wrap .u8 (IntKind.wrap .i64 ((48 : Int) + x12.1)))]) x27.2)] 46 Xn u22 z5 o5 (fun w => (Xj _ _ _)) rfl rfl (fun v34 s34 p34 A34 => ?_))
  refine apF' Xn sl22 (Ax27_0.st p34 rfl) A34.rd rfl (fun v37 s37 p37 A37 => ?_)
  refine Xq v37 rfl (dn (ib (rg (Xb rfl (Xb rfl (Xb rfl (dn ?_)))))))
  exact lb ih27 ⟨s37, _, v37, rfl, (ue (ue (ue rfl rfl) rfl) rfl), (Kx27.st (Xo p34 p37) rfl), A37, (Cx27_26.st (Xo p34 p37) rfl)⟩
 exact xt rfl (sgb (sr (Xp vx27_0 rfl (Xq vx27_0 rfl (dn (re rfl func77 rfl (Xv rfl Xg) rfl ⟨_, rfl, Ax27_0.fo Kx27 rfl z.l, z.ky Kx27⟩))))))
def spec_l18digits.b1 (x19 : Int × (List Int)) (x34 : (List Int) × Int) : Option (((List Int) × Int) ⊕ (List Int)) :=
 (if (decide (x34.2 ≥ (0 : Int))) = true then (if 0 ≤ x34.2 ∧ x34.2 < ((x19.2 ++ [(IntKind.wrap .u8 (IntKind.wrap .i64 ((48 : Int) + x19.1)))]).length : Int) then (if x34.1.length + ([(at_ (x19.2 ++ [(IntKind.wrap .u8 (IntKind.wrap .i64 ((48 : Int) + x19.1)))]) x34.2)]).length ≤ Lim then (some (Sum.inl ((x34.1 ++ [(at_ (x19.2 ++ [(IntKind.wrap .u8 (IntKind.wrap .i64 ((48 : Int) + x19.1)))]) x34.2)]), (IntKind.wrap .i64 (x34.2 - (1 : Int)))))) else none) else none) else ((some x34.1).bind fun o => some (Sum.inr o)))
def spec_l18digits.b0  (x19 : Int × (List Int)) : Option ((Int × (List Int)) ⊕ (List Int)) :=
 (if (decide (x19.1 > (9 : Int))) = true then (if x19.2.length + ([(IntKind.wrap .u8 (IntKind.wrap .i64 ((48 : Int) + (x19.1.tmod (10 : Int)))))]).length ≤ Lim then (some (Sum.inl ((IntKind.wrap .i64 (x19.1.tdiv (10 : Int))), (x19.2 ++ [(IntKind.wrap .u8 (IntKind.wrap .i64 ((48 : Int) + (x19.1.tmod (10 : Int)))))])))) else none) else ((if x19.2.length + ([(IntKind.wrap .u8 (IntKind.wrap .i64 ((48 : Int) + x19.1)))]).length ≤ Lim then (iter (spec_l18digits.b1 x19) (([] : (List Int)), (IntKind.wrap .i64 (((x19.2 ++ [(IntKind.wrap .u8 (IntKind.wrap .i64 ((48 : Int) + x19.1)))]).length : Int) - (1 : Int))))) else none).bind fun o => some (Sum.inr o)))
def spec_l18digits.f (a0 : Int) : Option ((List Int)) :=
 (if (a0 == (-9223372036854775808 : Int)) = true then (some ([(45 : Int), (57 : Int), (50 : Int), (50 : Int), (51 : Int), (51 : Int), (55 : Int), (50 : Int), (48 : Int), (51 : Int), (54 : Int), (56 : Int), (53 : Int), (52 : Int), (55 : Int), (55 : Int), (53 : Int), (56 : Int), (48 : Int), (56 : Int)])) else (if (decide (a0 < (0 : Int))) = true then ((spec_l18digits0.f (IntKind.wrap .i64 (0 - a0))).bind fun r12 => (if ([(45 : Int)]).length + r12.length ≤ Lim then (some ([(45 : Int)] ++ r12)) else none)) else (iter spec_l18digits.b0 (a0, ([] : (List Int))))))
def spec_l18digits.Q (w : World) (F : Nat → Prop) (r : (List Int)) (v : Value) (w' : World) : Prop :=
 FO Xx w w' [v] r ∧ Ky [] w w'
theorem spec_l18digits.calls (a0 : Int) (w : World) (F : Nat → Prop)   (r : (List Int)) (m : spec_l18digits.f a0 = some r) :
  Calls prog 77 #[(iI a0)] w (RT (spec_l18digits.Q w F) r) := by
 obtain ⟨s0, rfl, kp0, z⟩ := Xm w F
 refine Xd (args := [(iI a0)]) func77 ntmps77 rfl rfl m ?_
 unfold spec_l18digits.f
 refine sr (Xb rfl (dn (sq (sr (Xb rfl (Xb rfl (dn (cd rfl (fun h1 => ?_) (fun h1 => ?_)))))))))
 ·
  refine sr (ltF' (K := (Kd.int .u8)) (cells := [(.int .u8 (45 : Int)), (.int .u8 (57 : Int)), (.int .u8 (50 : Int)), (.int .u8 (50 : Int)), (.int .u8 (51 : Int)), (.int .u8 (51 : Int)), (.int .u8 (55 : Int)), (.int .u8 (50 : Int)), (.int .u8 (48 : Int)), (.int .u8 (51 : Int)), (.int .u8 (54 : Int)), (.int .u8 (56 : Int)), (.int .u8 (53 : Int)), (.int .u8 (52 : Int)), (.int .u8 (55 : Int)), (.int .u8 (55 : Int)), (.int .u8 (53 : Int)), (.int .u8 (56 : Int)), (.int .u8 (48 : Int)), (.int .u8 (56 : Int))]) [(45 : Int), (57 : Int), (50 : Int), (50 : Int), (51 : Int), (51 : Int), (55 : Int), (50 : Int), (48 : Int), (51 : Int), (54 : Int), (56 : Int), (53 : Int), (52 : Int), (55 : Int), (55 : Int), (53 : Int), (56 : Int), (48 : Int), (56 : Int)] 40 Xn u22 z5 o5 (fun w => (Xj _ _ _)) rfl (lfill_c rfl rfl rfl rfl rfl) (fun v2 s2 p2 A2 => ?_))
  refine cvm A2 rfl u22 u5 rfl rfl rfl rfl rfl rfl (fun s4 p4 A4 => ?_)
  refine Xq v2 rfl (dn ?_)
  have K6 := kp0.st (Xo p2 p4) rfl
  exact re rfl func77 rfl (Xv rfl Xg) rfl ⟨_, rfl, A4.fo K6 rfl z.l, z.ky K6⟩
 refine sk (sq (sr (Xb rfl (Xb rfl (dn (cd rfl (fun h7 => ?_) (fun h7 => ?_)))))))
 ·
  refine sr (ltF' (K := (Kd.int .u8)) (cells := [(.int .u8 (45 : Int))]) [(45 : Int)] 41 Xn u22 z5 o5 (fun w => (Xj _ _ _)) rfl rfl (fun v8 s8 p8 A8 => ?_))
  refine cvm A8 rfl u22 u5 rfl rfl rfl rfl rfl rfl (fun s10 p10 A10 => ?_)
  refine Xb rfl (Xb rfl (clO 42 rfl func77 rfl (spec_l18digits0.calls (IntKind.wrap .i64 (0 - a0)) s10.w (mm [] s10)) (fun r12 v12_0 s13 p13 A12_0 => ?_)))
  refine apF' Xn sl22 (A10.st p13 rfl) A12_0.rd rfl (fun v16 s16 p16 A16 => ?_)
  refine Xq v16 rfl (dn ?_)
  have K18 := kp0.st (tr4 p8 p10 p13 p16) rfl
  exact re rfl func77 rfl (Xv rfl Xg) rfl ⟨_, rfl, A16.fo K18 rfl z.l, z.ky K18⟩
 refine sk (sr (Xb rfl (dn (sq (bl (lpI (fun (x19 : Int × (List Int)) e w => ∃ (s : St) (e0 : Env) (vx19_0 : Value), w = s.w ∧ e = upd (upd e0 0 (iI x19.1)) 3 vx19_0 ∧ Kp s0 s ∧ OwF Xx s [vx19_0] x19.2 43) ⟨s0, _, (.slice none 0 0), rfl, (ue (ue rfl rfl) rfl), kp0, (Xk 5 (Kd.int .u8) _ 43)⟩ (fun g19 ih19 => ?_)))))))
 rintro x19 _ _ ⟨s20, _, vx19_0, rfl, rfl, Kx19, Ax19_0⟩
 unfold spec_l18digits.b0
 refine sq (sr (Xb rfl (Xb rfl (dn (cd rfl (fun h22 => ?_) (fun h22 => ?_))))))
 ·
  refine sk (bl (sr (Xp vx19_0 rfl (Xb rfl (remK rfl rfl rfl rfl rfl rfl rfl rfl (Xb rfl (cv u5 u3 rfl rfl rfl rfl rfl rfl (ltF' (K := (Kd.int .u8)) (cells := [(.int .u8 (IntKind.wrap .u8 (IntKind.wrap .i64 ((48 : Int) + (x19.1.tmod (10 : Int))))))]) [(IntKind.wrap .u8 (IntKind.wrap .i64 ((48 : Int) + (x19.1.tmod (10 : Int)))))] 44 Xn u22 z5 o5 (fun w => (Xj _ _ _)) rfl rfl (fun v23 s23 p23 A23 => ?_)))))))))
  refine apF' Xn sl22 (Ax19_0.st p23 rfl) A23.rd rfl (fun v26 s26 p26 A26 => ?_)
  refine Xq v26 rfl (dn (rg (Xb rfl (quoK rfl rfl rfl rfl rfl rfl rfl rfl (Xb rfl (dn (ib ?_)))))))
  exact lb ih19 ⟨s26, _, v26, rfl, (ue (ue rfl rfl) rfl), (Kx19.st (Xo p23 p26) rfl), A26⟩
 refine xt rfl (sgb (sr (Xp vx19_0 rfl (Xb rfl (Xb rfl (cv u5 u3 rfl rfl rfl rfl rfl rfl (ltF' (K := (Kd.int .u8)) (cells := [(.int .u8 (IntKind.wrap .u8 (IntKind.wrap .i64 ((48 : Int) + x19.1))))]) [(IntKind.wrap .u8 (IntKind.wrap .i64 ((48 : Int) + x19.1)))] 45 Xn u22 z5 o5 (fun w => (Xj _ _ _)) rfl rfl (fun v29 s29 p29 A29 => ?_))))))))
 refine apF' Xn sl22 (Ax19_0.st p29 rfl) A29.rd rfl (fun v32 s32 p32 A32 => ?_)
 refine Xq v32 rfl (dn (sr (Xb rfl (dn (sq (sr (Xp v32 rfl (ln' A32.rd u22 rfl (Xb rfl (Xb rfl (dn (bl ?_))))))))))))
 refine lpI (fun (x34 : (List Int) × Int) e w => ∃ (s : St) (e0 : Env) (vx34_0 : Value), w = s.w ∧ e = upd (upd (upd e0 3 v32) 4 vx34_0) 5 (iI x34.2) ∧ Kp s0 s ∧ OwF Xx s [vx34_0] x34.1 46 ∧ OwF Xx s [v32] (x19.2 ++ [(IntKind.wrap .u8 (IntKind.wrap .i64 ((48 : Int) + x19.1)))]) 43) ⟨s32, _, (.slice none 0 0), rfl, (ue (ue (ue rfl rfl) rfl) rfl), (Kx19.st (Xo p29 p32) rfl), (Xk 5 (Kd.int .u8) _ 46), A32⟩ (fun g34 ih34 => ?_)
 rintro x34 _ _ ⟨s36, _, vx34_0, rfl, rfl, Kx34, Ax34_0, Cx34_33⟩
 unfold spec_l18digits.b1
 refine sq (sr (Xb rfl (Xb rfl (dn (cd rfl (fun h38 => ?_) (fun h38 => ?_))))))
 ·
  refine sk (sq (bl (rg (Xp vx34_0 rfl (Xp v32 rfl (Xb rfl (ix' Cx34_33.rd u22 z5 rfl (fun ad39 es39 h0_39 h1_39 he39 ce39 ia39 => ?_))))))))
  obtain rfl := he39
  refine lc0' ce39 u5 rfl (ltF' (K := (Kd.int .u8)) (cells := [(.int .u8 (at_ (x19.2 ++ [(IntKind.wrap .u8 (IntKind.wrap .i64 ((48 : Int) + x19.1)))]) x34.2))]) [(at_ (x19.2 ++ [(IntKind.wrap .u8 (IntKind.wrap .i64 ((48 : Int) + x19.1)))]) x34.2)] 47 Xn u22 z5 o5 (fun w => (Xj _ _ _)) rfl rfl (fun v41 s41 p41 A41 => ?_))
  refine apF' Xn sl22 (Ax34_0.st p41 rfl) A41.rd rfl (fun v44 s44 p44 A44 => ?_)
  refine Xq v44 rfl (dn (ib (rg (Xb rfl (Xb rfl (Xb rfl (dn ?_)))))))
  exact lb ih34 ⟨s44, _, v44, rfl, (ue (ue (ue rfl rfl) rfl) rfl), (Kx34.st (Xo p41 p44) rfl), A44, (Cx34_33.st (Xo p41 p44) rfl)⟩
 exact xt rfl (sgb (sr (Xp vx34_0 rfl (Xq vx34_0 rfl (dn (re rfl func77 rfl (Xv rfl Xg) rfl ⟨_, rfl, Ax34_0.fo Kx34 rfl z.l, z.ky Kx34⟩))))))
def spec_l18number.b0 (a0 : (List Int)) (y6 : Int) (x12 : Int × Int) : Option ((Int × Int) ⊕ (Int × Bool)) :=
 (if (decide (x12.2 < (a0.length : Int))) = true then (if 0 ≤ x12.2 ∧ x12.2 < (a0.length : Int) then ((if (decide ((at_ a0 x12.2) < (48 : Int))) = true then (some true) else (if 0 ≤ x12.2 ∧ x12.2 < (a0.length : Int) then (some (decide ((at_ a0 x12.2) > (57 : Int)))) else none)).bind fun y18 => (if y18 = true then (some (Sum.inr ((0 : Int), false))) else (if 0 ≤ x12.2 ∧ x12.2 < (a0.length : Int) then (some (Sum.inl ((IntKind.wrap .u64 ((IntKind.wrap .u64 (x12.1 * (10 : Int))) + (IntKind.wrap .u64 (IntKind.wrap .u8 ((at_ a0 x12.2) - (48 : Int)))))), (IntKind.wrap .i64 (x12.2 + (1 : Int)))))) else none))) else none) else (((if (y6 == (1 : Int)) = true then (some (IntKind.wrap .i64 (IntKind.wrap .u64 (0 - x12.1)))) else (some (IntKind.wrap .i64 x12.1))).bind fun y26 => ((spec_l18digits.f y26).bind fun r39 => (some (y26, ((str r39).toList == (str a0).toList))))).bind fun o => some (Sum.inr o)))
def spec_l18number.f (a0 : (List Int)) : Option (Int × Bool) :=
 ((if (decide ((a0.length : Int) > (0 : Int))) = true then (if 0 ≤ (0 : Int) ∧ (0 : Int) < (a0.length : Int) then (some ((at_ a0 (0 : Int)) == (45 : Int))) else none) else (some false)).bind fun y2 => ((if y2 = true then (some (1 : Int)) else (some (0 : Int))).bind fun y6 => (if (((a0.length : Int) == y6) || (decide ((a0.length : Int) > (20 : Int)))) = true then (some ((0 : Int), false)) else (iter (spec_l18number.b0 a0 y6) ((0 : Int), y6)))))
def spec_l18number.Q (w : World) (F : Nat → Prop) (r : Int × Bool) (v : Value) (w' : World) : Prop :=
 v = .tuple #[(iI r.1), (.bool r.2)] ∧ Ky [] w w'
theorem spec_l18number.calls (a0 : (List Int)) (w : World) (F : Nat → Prop) (w0_0 : Value) (h0_0 : Xx.rd w [w0_0] a0 F) (r : Int × Bool) (m : spec_l18number.f a0 = some r) :
  Calls prog 47 #[w0_0] w (RT (spec_l18number.Q w F) r) := by
 obtain ⟨s0, rfl, kp0, z⟩ := Xm w F
 have A0_0 := z.rd h0_0
 refine Xd (args := [w0_0]) func47 ntmps47 rfl rfl m ?_
 unfold spec_l18number.f
 refine sr (Xb rfl (Xb rfl (dn (sr (Xb rfl (dn (sq (sr (Xp w0_0 rfl (ln' A0_0 u22 rfl (Xb rfl (Xb rfl (ji [] (fun (y2 : Bool) e w => ∃ (s : St) (e0 : Env), w = s.w ∧ e = upd (upd (upd e0 0 w0_0) 4 (iI 0)) 16 (.bool y2) ∧ Kp s0 s) (fun Gj2 Kj2 => ?_) ?_)))))))))))))
 ·
  rcases bft (decide ((a0.length : Int) > (0 : Int))) with hb2 | hb2
  ·
   refine sbT hb2 ?_
   rw [if_pos hb2]
   refine Xp w0_0 rfl (ix' A0_0 u22 z5 rfl (fun ad3 es3 h0_3 h1_3 he3 ce3 ia3 => ?_))
   obtain rfl := he3
   exact lc0' ce3 u5 rfl (Xb rfl (Xb rfl (Kj2 _ _ _ ⟨s0, _, rfl, (ue (ue (ue rfl rfl) rfl) rfl), kp0⟩)))
  refine sbT hb2 ?_
  rw [if_neg (by rw [hb2]; decide)]
  exact Xi rfl (Xi rfl (Xi rfl (Xi rfl (Xb rfl (Kj2 _ _ _ ⟨s0, _, rfl, (ue (ue (ue rfl rfl) rfl) rfl), kp0⟩)))))
 rintro y2 _ _ ⟨s5, _, rfl, rfl, Ky2⟩
 refine dn (jc (fun (y6 : Int) e w => ∃ (s : St) (e0 : Env), w = s.w ∧ e = upd (upd e0 0 w0_0) 4 (iI y6) ∧ Kp s0 s) (fun Gj6 Kj6 => ?_) ?_)
 ·
  refine cd rfl (fun h7 => ?_) (fun h7 => ?_)
  ·
   exact rg (Xb rfl (dn (Kj6 _ _ _ ⟨s5, _, rfl, (ue (ue rfl rfl) rfl), Ky2⟩)))
  exact sk (Kj6 _ _ _ ⟨s5, _, rfl, (ue (ue rfl rfl) rfl), Ky2⟩)
 rintro y6 _ _ ⟨s8, _, rfl, rfl, Ky6⟩
 refine sq (sr (Xp w0_0 rfl ?_))
 have A9 := A0_0.kp Ky6
 refine ln' A9 u22 rfl (Xb rfl (Xb rfl (Xb rfl (jy [21, 22, 23, 24, 25] [] 25 (.bool (((a0.length : Int) == y6) || (decide ((a0.length : Int) > (20 : Int))))) rfl (fun Kg10 => ?_) (fun j10 => ?_)))))
 ·
  rcases bft ((a0.length : Int) == y6) with hb10 | hb10
  ·
   exact sbT hb10 (Xi rfl (Xi rfl (Xi rfl (Xb rfl (Kg10 _ (Ag.put ((Ag.put ((Ag.put ((Ag.put (Ag.base rfl) rfl)) rfl)) rfl)) rfl) (by rw [hb10]; rfl))))))
  exact sbT hb10 (Xp w0_0 rfl (ln' A9 u22 rfl (Xb rfl (Xb rfl (Kg10 _ (Ag.put ((Ag.put ((Ag.put ((Ag.put (Ag.base rfl) rfl)) rfl)) rfl)) rfl) (by rw [hb10]; rfl))))))
 refine dn (cd rfl (fun h11 => ?_) (fun h11 => ?_))
 ·
  exact sr (Xb rfl (Xb rfl (dn (re rfl func47 rfl (Xv rfl (Xv rfl Xg)) rfl ⟨_, rfl, rfl, z.ky Ky6⟩))))
 refine sk (sr (Xb rfl (dn (sq (sr (Xb rfl (Xb rfl (dn (bl (lpI (fun (x12 : Int × Int) e w => ∃ (s : St) (e0 : Env), w = s.w ∧ e = upd (upd (upd (upd e0 0 w0_0) 4 (iI y6)) 5 (.int .u64 x12.1)) 6 (iI x12.2) ∧ Kp s0 s) ⟨s8, _, rfl, (ue (ue (ue (ue rfl rfl) rfl) rfl) rfl), Ky6⟩ (fun g12 ih12 => ?_)))))))))))
 rintro x12 _ _ ⟨s13, _, rfl, rfl, Kx12⟩
 unfold spec_l18number.b0
 refine sq (sr (Xb rfl (Xp w0_0 rfl ?_)))
 have A14 := A0_0.kp Kx12
 refine ln' A14 u22 rfl (Xb rfl (dn (cd rfl (fun h15 => ?_) (fun h15 => ?_))))
 ·
  refine sk (sq (bl (sq (sr (Xp w0_0 rfl (Xb rfl (ix' A14 u22 z5 rfl (fun ad16 es16 h0_16 h1_16 he16 ce16 ia16 => ?_))))))))
  obtain rfl := he16
  refine lc0' ce16 u5 rfl (Xb rfl (Xb rfl (ji [] (fun (y18 : Bool) e w => ∃ (s : St) (e0 : Env), w = s.w ∧ e = upd (upd (upd (upd (upd e0 0 w0_0) 4 (iI y6)) 5 (.int .u64 x12.1)) 6 (iI x12.2)) 44 (.bool y18) ∧ Kp s0 s) (fun Gj18 Kj18 => ?_) ?_)))
  ·
   rcases bft (decide ((at_ a0 x12.2) < (48 : Int))) with hb18 | hb18
   ·
    refine sbT hb18 ?_
    rw [if_pos hb18]
    exact Xi rfl (Xi rfl (Xi rfl (Xi rfl (Xi rfl (Xb rfl (Kj18 _ _ _ ⟨s13, _, rfl, (ue (ue (ue (ue (ue rfl rfl) rfl) rfl) rfl) rfl), Kx12⟩))))))
   refine sbT hb18 ?_
   rw [if_neg (by rw [hb18]; decide)]
   refine Xp w0_0 rfl (Xb rfl (ix' A14 u22 z5 rfl (fun ad19 es19 h0_19 h1_19 he19 ce19 ia19 => ?_)))
   obtain rfl := he19
   exact lc0' ce19 u5 rfl (Xb rfl (Xb rfl (Kj18 _ _ _ ⟨s13, _, rfl, (ue (ue (ue (ue (ue rfl rfl) rfl) rfl) rfl) rfl), Kx12⟩)))
  rintro y18 _ _ ⟨s21, _, rfl, rfl, Ky18⟩
  refine dn (cd rfl (fun h22 => ?_) (fun h22 => ?_))
  ·
   exact sr (Xb rfl (Xb rfl (dn (sgi (re rfl func47 rfl (Xv rfl (Xv rfl Xg)) rfl ⟨_, rfl, rfl, z.ky Ky18⟩)))))
  refine sk (rg (Xb rfl (Xb rfl (Xp w0_0 rfl (Xb rfl ?_)))))
  refine ix' (A0_0.kp Ky18) u22 z5 rfl (fun ad24 es24 h0_24 h1_24 he24 ce24 ia24 => ?_)
  obtain rfl := he24
  exact lc0' ce24 u5 rfl (Xb rfl (cv u53 u5 rfl rfl rfl rfl rfl rfl (Xb rfl (Xb rfl (dn (ib (rg (Xb rfl (Xb rfl (Xb rfl (dn (lb ih12 ⟨s21, _, rfl, (ue (ue (ue (ue rfl rfl) rfl) rfl) rfl), Ky18⟩))))))))))))
 refine xt rfl (sgb (sr (Xb rfl (cv u3 u53 rfl rfl rfl rfl rfl rfl (Xb rfl (dn (sq (sr (Xb rfl (Xb rfl (dn (jc (fun (y26 : Int) e w => ∃ (s : St) (e0 : Env), w = s.w ∧ e = upd (upd e0 0 w0_0) 7 (iI y26) ∧ Kp s0 s) (fun Gj26 Kj26 => ?_) ?_))))))))))))
 ·
  refine cd rfl (fun h27 => ?_) (fun h27 => ?_)
  ·
   exact rg (Xb rfl (Xb rfl (cv u3 u53 rfl rfl rfl rfl rfl rfl (Xb rfl (dn (Kj26 _ _ _ ⟨s13, _, rfl, (ue (ue rfl rfl) rfl), Kx12⟩))))))
  exact sk (Kj26 _ _ _ ⟨s13, _, rfl, (ue (ue rfl rfl) rfl), Kx12⟩)
 rintro y26 _ _ ⟨s28, _, rfl, rfl, Ky26⟩
 refine sq (zdraw [[], [], [1], [2], [], [4], [3, 5], [0, 2, 0], [6, 7, 0, 1, 2, 3, 4, 5, 6, 7]] [some 61, some 62, some 63, some 64, some 65, some 66, some 67, some 2, some 3] [[7], [7], [62], [63], [0], [65], [64, 66], [61], [67]] [0, 1, 2, 4, 5, 6, 7, 3, 8] ⟨by kernel_rfl, by kernel_rfl, by kernel_rfl⟩ (by kernel_rfl) (fun s29 p29 l29 tb29 zd29 => ?_))
 refine zstep 2 [some 66, some 65, some 61] tb29 ((((zd29.add 0 61 (iI y26) rfl).add 1 62 (iI y26) rfl).add 4 65 w0_0 rfl).add 5 66 (.string (str a0)) rfl) (Xc (b2s_q (A0_0.kp (Ky26.st p29 rfl)) u22 u9 u5 rfl rfl rfl rfl rfl rfl) rfl (Xc (mv_q' w0_0 rfl) rfl (Xc (pu_q' rfl) rfl (Xc (pu_q' rfl) rfl Xt)))) (by kernel_rfl) rfl (fun l36 e36 zd36 => ?_)
 refine clO 40 rfl func77 rfl (spec_l18digits.calls y26 s29.w (mm [] s29)) (fun r39 v39_0 s40 p40 A39_0 => ?_)
 refine zdone (L' := [5, 4, 0]) (D' := [1, 2]) zd36 rfl rfl rfl (fun zd42 => ?_)
 refine zfin [8] tb29 (((zd42.add 3 64 (.string (str r39)) rfl).add 6 67 (.bool ((str r39).toList == (str a0).toList)) rfl).add 7 2 (iI y26) rfl) (Xc (pu_q' rfl) rfl (Xc (pu_q' rfl) rfl (Xc (b2s_q A39_0.rd u22 u9 u5 rfl rfl rfl rfl rfl rfl) rfl (Xc (b2s_q (A0_0.kp (Ky26.st (Xo p29 p40) rfl)) u22 u9 u5 rfl rfl rfl rfl rfl rfl) rfl (Xc (mv_q' w0_0 rfl) rfl (Xc (pu_q' rfl) rfl Xt)))))) (by kernel_rfl) (by decide) (Xb rfl (dn ?_))
 exact re rfl func47 rfl (Xv rfl (Xv rfl Xg)) rfl ⟨_, rfl, rfl, z.ky (Ky26.st (Xo p29 p40) rfl)⟩
def spec_l18unhex.b0 (a0 : (List Int)) (x2 : (List Int) × Int × Int) : Option (((List Int) × Int × Int) ⊕ ((List Int) × Bool)) :=
 (if (decide (x2.2.2 < (a0.length : Int))) = true then (if 0 ≤ x2.2.2 ∧ x2.2.2 < (a0.length : Int) then ((if (decide ((at_ a0 x2.2.2) ≥ (48 : Int))) = true then (if 0 ≤ x2.2.2 ∧ x2.2.2 < (a0.length : Int) then (some (decide ((at_ a0 x2.2.2) ≤ (57 : Int)))) else none) else (some false)).bind fun y9 => ((if y9 = true then (if 0 ≤ x2.2.2 ∧ x2.2.2 < (a0.length : Int) then (some (Sum.inl (IntKind.wrap .i64 ((IntKind.wrap .i64 (at_ a0 x2.2.2)) - (48 : Int))))) else none) else (if 0 ≤ x2.2.2 ∧ x2.2.2 < (a0.length : Int) then ((if (decide ((at_ a0 x2.2.2) ≥ (97 : Int))) = true then (if 0 ≤ x2.2.2 ∧ x2.2.2 < (a0.length : Int) then (some (decide ((at_ a0 x2.2.2) ≤ (102 : Int)))) else none) else (some false)).bind fun y21 => (if y21 = true then (if 0 ≤ x2.2.2 ∧ x2.2.2 < (a0.length : Int) then (some (Sum.inl (IntKind.wrap .i64 ((IntKind.wrap .i64 (at_ a0 x2.2.2)) - (87 : Int))))) else none) else (some (Sum.inr (Sum.inr (([] : (List Int)), false)))))) else none)).bind (sel fun y13 => ((if ((x2.2.2.tmod (2 : Int)) == (1 : Int)) = true then (if x2.1.length + ([(IntKind.wrap .u8 (IntKind.wrap .i64 ((IntKind.wrap .i64 (x2.2.1 * (16 : Int))) + y13)))]).length ≤ Lim then (some ((x2.1 ++ [(IntKind.wrap .u8 (IntKind.wrap .i64 ((IntKind.wrap .i64 (x2.2.1 * (16 : Int))) + y13)))]), (0 : Int))) else none) else (some (x2.1, (IntKind.wrap .i64 ((IntKind.wrap .i64 (x2.2.1 * (16 : Int))) + y13))))).bind fun y30 => (some (Sum.inl (y30.1, y30.2, (IntKind.wrap .i64 (x2.2.2 + (1 : Int)))))))))) else none) else ((some (x2.1, (((a0.length : Int).tmod (2 : Int)) == (0 : Int)))).bind fun o => some (Sum.inr o)))
def spec_l18unhex.f (a0 : (List Int)) : Option ((List Int) × Bool) :=
 (iter (spec_l18unhex.b0 a0) (([] : (List Int)), (0 : Int), (0 : Int)))
def spec_l18unhex.Q (w : World) (F : Nat → Prop) (r : (List Int) × Bool) (v : Value) (w' : World) : Prop :=
 ∃ (v0 : Value), v = .tuple #[v0, (.bool r.2)] ∧ FO Xx w w' [v0] r.1 ∧ Ky [] w w'
theorem spec_l18unhex.calls (a0 : (List Int)) (w : World) (F : Nat → Prop) (w0_0 : Value) (h0_0 : Xx.rd w [w0_0] a0 F) (r : (List Int) × Bool) (m : spec_l18unhex.f a0 = some r) :
  Calls prog 78 #[w0_0] w (RT (spec_l18unhex.Q w F) r) := by
 obtain ⟨s0, rfl, kp0, z⟩ := Xm w F
 have A0_0 := z.rd h0_0
 refine Xd (args := [w0_0]) func78 ntmps78 rfl rfl m ?_
 unfold spec_l18unhex.f
 refine sr (Xb rfl (Xb rfl (dn (sr (Xb rfl (dn (sr (Xb rfl (dn (sq (sr (Xb rfl (dn (bl ?_))))))))))))))
 refine lpI (fun (x2 : (List Int) × Int × Int) e w => ∃ (s : St) (e0 : Env) (vx2_0 : Value), w = s.w ∧ e = upd (upd (upd (upd e0 0 w0_0) 4 vx2_0) 5 (iI x2.2.1)) 6 (iI x2.2.2) ∧ Kp s0 s ∧ OwF Xx s [vx2_0] x2.1 40) ⟨s0, _, (.slice none 0 0), rfl, (ue (ue (ue (ue rfl rfl) rfl) rfl) rfl), kp0, (Xk 5 (Kd.int .u8) _ 40)⟩ (fun g2 ih2 => ?_)
 rintro x2 _ _ ⟨s3, _, vx2_0, rfl, rfl, Kx2, Ax2_0⟩
 unfold spec_l18unhex.b0
 refine sq (sr (Xb rfl (Xp w0_0 rfl ?_)))
 have A5 := A0_0.kp Kx2
 refine ln' A5 u22 rfl (Xb rfl (dn (cd rfl (fun h6 => ?_) (fun h6 => ?_))))
 ·
  refine sk (sq (bl (sr (Xb rfl (dn (sq (bl (sr (Xp w0_0 rfl (Xb rfl (ix' A5 u22 z5 rfl (fun ad7 es7 h0_7 h1_7 he7 ce7 ia7 => ?_))))))))))))
  obtain rfl := he7
  refine lc0' ce7 u5 rfl (Xb rfl (Xb rfl (ji [12] (fun (y9 : Bool) e w => ∃ (s : St) (e0 : Env), w = s.w ∧ e = upd (upd (upd (upd (upd e0 0 w0_0) 4 vx2_0) 5 (iI x2.2.1)) 6 (iI x2.2.2)) 26 (.bool y9) ∧ Kp s0 s ∧ OwF Xx s [vx2_0] x2.1 40) (fun Gj9 Kj9 => ?_) ?_)))
  ·
   rcases bft (decide ((at_ a0 x2.2.2) ≥ (48 : Int))) with hb9 | hb9
   ·
    refine sbT hb9 ?_
    rw [if_pos hb9]
    refine Xp w0_0 rfl (Xb rfl (ix' A5 u22 z5 rfl (fun ad10 es10 h0_10 h1_10 he10 ce10 ia10 => ?_)))
    obtain rfl := he10
    exact lc0' ce10 u5 rfl (Xb rfl (Xb rfl (Kj9 _ _ _ ⟨s3, _, rfl, (ue (ue (ue (ue (ue rfl rfl) rfl) rfl) rfl) rfl), Kx2, Ax2_0⟩)))
   refine sbT hb9 ?_
   rw [if_neg (by rw [hb9]; decide)]
   exact Xi rfl (Xi rfl (Xi rfl (Xi rfl (Xi rfl (Xb rfl (Kj9 _ _ _ ⟨s3, _, rfl, (ue (ue (ue (ue (ue rfl rfl) rfl) rfl) rfl) rfl), Kx2, Ax2_0⟩))))))
  rintro y9 _ _ ⟨s12, _, rfl, rfl, Ky9, Cy9_4⟩
  refine Xb rfl (dn (jr (fun (y13 : Int) e w => ∃ (s : St) (e0 : Env), w = s.w ∧ e = upd (upd (upd (upd (upd e0 0 w0_0) 4 vx2_0) 5 (iI x2.2.1)) 6 (iI x2.2.2)) 7 (iI y13) ∧ Kp s0 s ∧ OwF Xx s [vx2_0] x2.1 40) (fun Gj13 Kj13 hG13 => ?_) ?_))
  ·
   refine cd rfl (fun h14 => ?_) (fun h14 => ?_)
   ·
    refine rg (Xp w0_0 rfl (Xb rfl ?_))
    refine ix' (A0_0.kp Ky9) u22 z5 rfl (fun ad16 es16 h0_16 h1_16 he16 ce16 ia16 => ?_)
    obtain rfl := he16
    exact lc0' ce16 u5 rfl (cv u3 u5 rfl rfl rfl rfl rfl rfl (Xb rfl (Xb rfl (dn (Kj13 _ _ _ ⟨s12, _, rfl, (ue (ue (ue (ue (ue rfl rfl) rfl) rfl) rfl) rfl), Ky9, Cy9_4⟩)))))
   refine sr (Xp w0_0 rfl (Xb rfl ?_))
   have A18 := A0_0.kp Ky9
   refine ix' A18 u22 z5 rfl (fun ad19 es19 h0_19 h1_19 he19 ce19 ia19 => ?_)
   obtain rfl := he19
   refine lc0' ce19 u5 rfl (Xb rfl (Xb rfl (ji [12] (fun (y21 : Bool) e w => ∃ (s : St) (e0 : Env), w = s.w ∧ e = upd (upd (upd (upd (upd e0 0 w0_0) 4 vx2_0) 5 (iI x2.2.1)) 6 (iI x2.2.2)) 45 (.bool y21) ∧ Kp s0 s ∧ OwF Xx s [vx2_0] x2.1 40) (fun Gj21 Kj21 => ?_) ?_)))
   ·
    rcases bft (decide ((at_ a0 x2.2.2) ≥ (97 : Int))) with hb21 | hb21
    ·
     refine sbT hb21 ?_
     rw [if_pos hb21]
     refine Xp w0_0 rfl (Xb rfl (ix' A18 u22 z5 rfl (fun ad22 es22 h0_22 h1_22 he22 ce22 ia22 => ?_)))
     obtain rfl := he22
     exact lc0' ce22 u5 rfl (Xb rfl (Xb rfl (Kj21 _ _ _ ⟨s12, _, rfl, (ue (ue (ue (ue (ue rfl rfl) rfl) rfl) rfl) rfl), Ky9, Cy9_4⟩)))
    refine sbT hb21 ?_
    rw [if_neg (by rw [hb21]; decide)]
    exact Xi rfl (Xi rfl (Xi rfl (Xi rfl (Xi rfl (Xb rfl (Kj21 _ _ _ ⟨s12, _, rfl, (ue (ue (ue (ue (ue rfl rfl) rfl) rfl) rfl) rfl), Ky9, Cy9_4⟩))))))
   rintro y21 _ _ ⟨s24, _, rfl, rfl, Ky21, Cy21_4⟩
   refine Xb rfl (dn (cd rfl (fun h25 => ?_) (fun h25 => ?_)))
   ·
    refine rg (Xp w0_0 rfl (Xb rfl ?_))
    refine ix' (A0_0.kp Ky21) u22 z5 rfl (fun ad27 es27 h0_27 h1_27 he27 ce27 ia27 => ?_)
    obtain rfl := he27
    exact lc0' ce27 u5 rfl (cv u3 u5 rfl rfl rfl rfl rfl rfl (Xb rfl (Xb rfl (dn (Kj13 _ _ _ ⟨s24, _, rfl, (ue (ue (ue (ue (ue rfl rfl) rfl) rfl) rfl) rfl), Ky21, Cy21_4⟩)))))
   exact sr (Xb rfl (Xb rfl (dn (jri hG13 (sgi (re rfl func78 rfl (Xv rfl (Xv rfl Xg)) rfl ⟨_, rfl, (.slice none 0 0), rfl, (Xk 5 (Kd.int .u8) s24 40).fo Ky21 rfl z.l, z.ky Ky21⟩))))))
  rintro y13 _ _ ⟨s29, _, rfl, rfl, Ky13, Cy13_4⟩
  refine ib (sr (Xb rfl (Xb rfl (Xb rfl (Xb rfl (Xb rfl (dn (sr (Xb rfl (remK rfl rfl rfl rfl rfl rfl rfl rfl (Xb rfl (dn (jc (fun (y30 : (List Int) × Int) e w => ∃ (s : St) (e0 : Env) (vy30_0 : Value), w = s.w ∧ e = upd (upd (upd (upd e0 0 w0_0) 4 vy30_0) 5 (iI y30.2)) 6 (iI x2.2.2) ∧ Kp s0 s ∧ OwF Xx s [vy30_0] y30.1 40) (fun Gj30 Kj30 => ?_) ?_)))))))))))))
  ·
   refine cd rfl (fun h31 => ?_) (fun h31 => ?_)
   ·
    refine sr (Xp vx2_0 rfl (Xb rfl (cv u5 u3 rfl rfl rfl rfl rfl rfl (ltF' (K := (Kd.int .u8)) (cells := [(.int .u8 (IntKind.wrap .u8 (IntKind.wrap .i64 ((IntKind.wrap .i64 (x2.2.1 * (16 : Int))) + y13))))]) [(IntKind.wrap .u8 (IntKind.wrap .i64 ((IntKind.wrap .i64 (x2.2.1 * (16 : Int))) + y13)))] 41 Xn u22 z5 o5 (fun w => (Xj _ _ _)) rfl rfl (fun v32 s32 p32 A32 => ?_)))))
    refine apF' Xn sl22 (Cy13_4.st p32 rfl) A32.rd rfl (fun v35 s35 p35 A35 => ?_)
    refine Xq v35 rfl (dn (rg (Xb rfl (dn ?_))))
    exact Kj30 _ _ _ ⟨s35, _, v35, rfl, (ue (ue (ue (ue rfl rfl) rfl) rfl) rfl), (Ky13.st (Xo p32 p35) rfl), A35⟩
   exact sk (Kj30 _ _ _ ⟨s29, _, vx2_0, rfl, (ue (ue (ue (ue rfl rfl) rfl) rfl) rfl), Ky13, Cy13_4⟩)
  rintro y30 _ _ ⟨s38, _, vy30_0, rfl, rfl, Ky30, Ay30_0⟩
  exact ib (rg (Xb rfl (Xb rfl (Xb rfl (dn (lb ih2 ⟨s38, _, vy30_0, rfl, (ue (ue (ue (ue rfl rfl) rfl) rfl) rfl), Ky30, Ay30_0⟩))))))
 exact xt rfl (sgb (sr (Xp vx2_0 rfl (Xp w0_0 rfl (ln' A5 u22 rfl (remK rfl rfl rfl rfl rfl rfl rfl rfl (Xb rfl (Xq vx2_0 rfl (Xb rfl (dn (re rfl func78 rfl (Xv rfl (Xv rfl Xg)) rfl ⟨_, rfl, vx2_0, rfl, Ax2_0.fo Kx2 rfl z.l, z.ky Kx2⟩)))))))))))
def spec_l3low.b0 (a0 : (List Int)) (x2 : Int × Int) : Option ((Int × Int) ⊕ Int) :=
 (if (decide (x2.2 < (a0.length : Int))) = true then (if 0 ≤ x2.2 ∧ x2.2 < (a0.length : Int) then (some (Sum.inl ((ior .u64 (ishl .u64 x2.1 (8 : Int)) (IntKind.wrap .u64 (at_ a0 x2.2))), (IntKind.wrap .i64 (x2.2 + (1 : Int)))))) else none) else ((some x2.1).bind fun o => some (Sum.inr o)))
def spec_l3low.f (a0 : (List Int)) : Option (Int) :=
 (iter (spec_l3low.b0 a0) ((0 : Int), (0 : Int)))
def spec_l3low.Q (w : World) (F : Nat → Prop) (r : Int) (v : Value) (w' : World) : Prop :=
 v = (.int .u64 r) ∧ Ky [] w w'
theorem spec_l3low.calls (a0 : (List Int)) (w : World) (F : Nat → Prop) (w0_0 : Value) (h0_0 : Xx.rd w [w0_0] a0 F) (r : Int) (m : spec_l3low.f a0 = some r) :
  Calls prog 80 #[w0_0] w (RT (spec_l3low.Q w F) r) := by
 obtain ⟨s0, rfl, kp0, z⟩ := Xm w F
 refine Xd (args := [w0_0]) func80 ntmps80 rfl rfl m ?_
 unfold spec_l3low.f
 refine sr (Xb rfl (dn (sr (Xb rfl (dn (sq (sr (Xb rfl (dn (bl (lpI (fun (x2 : Int × Int) e w => ∃ (s : St) (e0 : Env), w = s.w ∧ e = upd (upd (upd e0 0 w0_0) 3 (.int .u64 x2.1)) 4 (iI x2.2) ∧ Kp s0 s) ⟨s0, _, rfl, (ue (ue (ue rfl rfl) rfl) rfl), kp0⟩ (fun g2 ih2 => ?_))))))))))))
 rintro x2 _ _ ⟨s3, _, rfl, rfl, Kx2⟩
 unfold spec_l3low.b0
 refine sq (sr (Xb rfl (Xp w0_0 rfl ?_)))
 have A4 := (z.rd h0_0).kp Kx2
 refine ln' A4 u22 rfl (Xb rfl (dn (cd rfl (fun h5 => ?_) (fun h5 => ?_))))
 ·
  refine sk (sq (bl (rg (Xb rfl (shlK rfl rfl rfl rfl rfl rfl rfl rfl (Xp w0_0 rfl (Xb rfl (ix' A4 u22 z5 rfl (fun ad6 es6 h0_6 h1_6 he6 ce6 ia6 => ?_)))))))))
  obtain rfl := he6
  exact lc0' ce6 u5 rfl (cv u53 u5 rfl rfl rfl rfl rfl rfl (Xb rfl (Xb rfl (dn (ib (rg (Xb rfl (Xb rfl (Xb rfl (dn (lb ih2 ⟨s3, _, rfl, (ue (ue (ue rfl rfl) rfl) rfl), Kx2⟩)))))))))))
 exact xt rfl (sgb (sr (Xb rfl (Xb rfl (dn (re rfl func80 rfl (Xv rfl Xg) rfl ⟨_, rfl, rfl, z.ky Kx2⟩))))))
def spec_l3high.b0 (a0 : Int) (x1 : (List Int) × Int) : Option (((List Int) × Int) ⊕ (List Int)) :=
 (if (decide (x1.2 ≥ (0 : Int))) = true then (if 0 ≤ (IntKind.wrap .u64 (IntKind.wrap .i64 ((8 : Int) * x1.2))) then (if x1.1.length + ([(IntKind.wrap .u8 (iand .u64 (ishr .u64 a0 (IntKind.wrap .u64 (IntKind.wrap .i64 ((8 : Int) * x1.2)))) (255 : Int)))]).length ≤ Lim then (some (Sum.inl ((x1.1 ++ [(IntKind.wrap .u8 (iand .u64 (ishr .u64 a0 (IntKind.wrap .u64 (IntKind.wrap .i64 ((8 : Int) * x1.2)))) (255 : Int)))]), (IntKind.wrap .i64 (x1.2 - (1 : Int)))))) else none) else none) else ((some x1.1).bind fun o => some (Sum.inr o)))
def spec_l3high.f (a0 : Int) : Option ((List Int)) :=
 (iter (spec_l3high.b0 a0) (([] : (List Int)), (7 : Int)))
def spec_l3high.Q (w : World) (F : Nat → Prop) (r : (List Int)) (v : Value) (w' : World) : Prop :=
 FO Xx w w' [v] r ∧ Ky [] w w'
theorem spec_l3high.calls (a0 : Int) (w : World) (F : Nat → Prop)   (r : (List Int)) (m : spec_l3high.f a0 = some r) :
  Calls prog 102 #[(.int .u64 a0)] w (RT (spec_l3high.Q w F) r) := by
 obtain ⟨s0, rfl, kp0, z⟩ := Xm w F
 refine Xd (args := [(.int .u64 a0)]) func102 ntmps102 rfl rfl m ?_
 unfold spec_l3high.f
 refine sr (Xb rfl (dn (sr (Xb rfl (dn (sq (sr (Xb rfl (dn (bl (lpI (fun (x1 : (List Int) × Int) e w => ∃ (s : St) (e0 : Env) (vx1_0 : Value), w = s.w ∧ e = upd (upd (upd e0 0 (.int .u64 a0)) 3 vx1_0) 4 (iI x1.2) ∧ Kp s0 s ∧ OwF Xx s [vx1_0] x1.1 40) ⟨s0, _, (.slice none 0 0), rfl, (ue (ue (ue rfl rfl) rfl) rfl), kp0, (Xk 5 (Kd.int .u8) _ 40)⟩ (fun g1 ih1 => ?_))))))))))))
 rintro x1 _ _ ⟨s2, _, vx1_0, rfl, rfl, Kx1, Ax1_0⟩
 unfold spec_l3high.b0
 refine sq (sr (Xb rfl (Xb rfl (dn (cd rfl (fun h4 => ?_) (fun h4 => ?_))))))
 ·
  refine sk (sq (bl (rg (Xp vx1_0 rfl (Xb rfl (Xb rfl (Xb rfl (cv u94 u3 rfl rfl rfl rfl rfl rfl (shr_ rfl rfl rfl rfl rfl rfl rfl (Xb rfl (cv u5 u53 rfl rfl rfl rfl rfl rfl (ltF' (K := (Kd.int .u8)) (cells := [(.int .u8 (IntKind.wrap .u8 (iand .u64 (ishr .u64 a0 (IntKind.wrap .u64 (IntKind.wrap .i64 ((8 : Int) * x1.2)))) (255 : Int))))]) [(IntKind.wrap .u8 (iand .u64 (ishr .u64 a0 (IntKind.wrap .u64 (IntKind.wrap .i64 ((8 : Int) * x1.2)))) (255 : Int)))] 41 Xn u22 z5 o5 (fun w => (Xj _ _ _)) rfl rfl (fun v5 s5 p5 A5 => ?_)))))))))))))
  refine apF' Xn sl22 (Ax1_0.st p5 rfl) A5.rd rfl (fun v8 s8 p8 A8 => ?_)
  refine Xq v8 rfl (dn (ib (rg (Xb rfl (Xb rfl (Xb rfl (dn ?_)))))))
  exact lb ih1 ⟨s8, _, v8, rfl, (ue (ue (ue rfl rfl) rfl) rfl), (Kx1.st (Xo p5 p8) rfl), A8⟩
 exact xt rfl (sgb (sr (Xp vx1_0 rfl (Xq vx1_0 rfl (dn (re rfl func102 rfl (Xv rfl Xg) rfl ⟨_, rfl, Ax1_0.fo Kx1 rfl z.l, z.ky Kx1⟩))))))
def spec_l18hex.b0 (a0 : (List Int)) (x6 : (List Int) × Int) : Option (((List Int) × Int) ⊕ (List Int)) :=
 (if (decide (x6.2 < (a0.length : Int))) = true then (if 0 ≤ x6.2 ∧ x6.2 < (a0.length : Int) then (if 0 ≤ (IntKind.wrap .u8 ((at_ a0 x6.2).tdiv (16 : Int))) ∧ (IntKind.wrap .u8 ((at_ a0 x6.2).tdiv (16 : Int))) < (([(48 : Int), (49 : Int), (50 : Int), (51 : Int), (52 : Int), (53 : Int), (54 : Int), (55 : Int), (56 : Int), (57 : Int), (97 : Int), (98 : Int), (99 : Int), (100 : Int), (101 : Int), (102 : Int)]).length : Int) then (if x6.1.length + ([(at_ ([(48 : Int), (49 : Int), (50 : Int), (51 : Int), (52 : Int), (53 : Int), (54 : Int), (55 : Int), (56 : Int), (57 : Int), (97 : Int), (98 : Int), (99 : Int), (100 : Int), (101 : Int), (102 : Int)]) (IntKind.wrap .u8 ((at_ a0 x6.2).tdiv (16 : Int))))]).length ≤ Lim then (if 0 ≤ x6.2 ∧ x6.2 < (a0.length : Int) then (if 0 ≤ ((at_ a0 x6.2).tmod (16 : Int)) ∧ ((at_ a0 x6.2).tmod (16 : Int)) < (([(48 : Int), (49 : Int), (50 : Int), (51 : Int), (52 : Int), (53 : Int), (54 : Int), (55 : Int), (56 : Int), (57 : Int), (97 : Int), (98 : Int), (99 : Int), (100 : Int), (101 : Int), (102 : Int)]).length : Int) then (if (x6.1 ++ [(at_ ([(48 : Int), (49 : Int), (50 : Int), (51 : Int), (52 : Int), (53 : Int), (54 : Int), (55 : Int), (56 : Int), (57 : Int), (97 : Int), (98 : Int), (99 : Int), (100 : Int), (101 : Int), (102 : Int)]) (IntKind.wrap .u8 ((at_ a0 x6.2).tdiv (16 : Int))))]).length + ([(at_ ([(48 : Int), (49 : Int), (50 : Int), (51 : Int), (52 : Int), (53 : Int), (54 : Int), (55 : Int), (56 : Int), (57 : Int), (97 : Int), (98 : Int), (99 : Int), (100 : Int), (101 : Int), (102 : Int)]) ((at_ a0 x6.2).tmod (16 : Int)))]).length ≤ Lim then (some (Sum.inl (((x6.1 ++ [(at_ ([(48 : Int), (49 : Int), (50 : Int), (51 : Int), (52 : Int), (53 : Int), (54 : Int), (55 : Int), (56 : Int), (57 : Int), (97 : Int), (98 : Int), (99 : Int), (100 : Int), (101 : Int), (102 : Int)]) (IntKind.wrap .u8 ((at_ a0 x6.2).tdiv (16 : Int))))]) ++ [(at_ ([(48 : Int), (49 : Int), (50 : Int), (51 : Int), (52 : Int), (53 : Int), (54 : Int), (55 : Int), (56 : Int), (57 : Int), (97 : Int), (98 : Int), (99 : Int), (100 : Int), (101 : Int), (102 : Int)]) ((at_ a0 x6.2).tmod (16 : Int)))]), (IntKind.wrap .i64 (x6.2 + (1 : Int)))))) else none) else none) else none) else none) else none) else none) else ((some x6.1).bind fun o => some (Sum.inr o)))
def spec_l18hex.f (a0 : (List Int)) : Option ((List Int)) :=
 (iter (spec_l18hex.b0 a0) (([] : (List Int)), (0 : Int)))
def spec_l18hex.Q (w : World) (F : Nat → Prop) (r : (List Int)) (v : Value) (w' : World) : Prop :=
 FO Xx w w' [v] r ∧ Ky [] w w'
theorem spec_l18hex.calls (a0 : (List Int)) (w : World) (F : Nat → Prop) (w0_0 : Value) (h0_0 : Xx.rd w [w0_0] a0 F) (r : (List Int)) (m : spec_l18hex.f a0 = some r) :
  Calls prog 101 #[w0_0] w (RT (spec_l18hex.Q w F) r) := by
 obtain ⟨s0, rfl, kp0, z⟩ := Xm w F
 have A0_0 := z.rd h0_0
 refine Xd (args := [w0_0]) func101 ntmps101 rfl rfl m ?_
 unfold spec_l18hex.f
 refine sr (Xb rfl (dn (sr (Xb rfl (dn (sr (ltF' (K := (Kd.int .u8)) (cells := [(.int .u8 (48 : Int)), (.int .u8 (49 : Int)), (.int .u8 (50 : Int)), (.int .u8 (51 : Int)), (.int .u8 (52 : Int)), (.int .u8 (53 : Int)), (.int .u8 (54 : Int)), (.int .u8 (55 : Int)), (.int .u8 (56 : Int)), (.int .u8 (57 : Int)), (.int .u8 (97 : Int)), (.int .u8 (98 : Int)), (.int .u8 (99 : Int)), (.int .u8 (100 : Int)), (.int .u8 (101 : Int)), (.int .u8 (102 : Int))]) [(48 : Int), (49 : Int), (50 : Int), (51 : Int), (52 : Int), (53 : Int), (54 : Int), (55 : Int), (56 : Int), (57 : Int), (97 : Int), (98 : Int), (99 : Int), (100 : Int), (101 : Int), (102 : Int)] 40 Xn u22 z5 o5 (fun w => (Xj _ _ _)) rfl (lfill_c rfl rfl rfl rfl rfl) (fun v2 s2 p2 A2 => ?_))))))))
 refine cvm A2 rfl u22 u5 rfl rfl rfl rfl rfl rfl (fun s4 p4 A4 => ?_)
 refine Xq v2 rfl (dn (sq (sr (Xb rfl (dn (bl ?_))))))
 refine lpI (fun (x6 : (List Int) × Int) e w => ∃ (s : St) (e0 : Env) (vx6_0 : Value), w = s.w ∧ e = upd (upd (upd (upd e0 0 w0_0) 3 vx6_0) 4 v2) 5 (iI x6.2) ∧ Kp s0 s ∧ OwF Xx s [vx6_0] x6.1 41 ∧ OwF Xx s [v2] ([(48 : Int), (49 : Int), (50 : Int), (51 : Int), (52 : Int), (53 : Int), (54 : Int), (55 : Int), (56 : Int), (57 : Int), (97 : Int), (98 : Int), (99 : Int), (100 : Int), (101 : Int), (102 : Int)]) 40) ⟨s4, _, (.slice none 0 0), rfl, (ue (ue (ue (ue rfl rfl) rfl) rfl) rfl), (kp0.st (Xo p2 p4) rfl), (Xk 5 (Kd.int .u8) _ 41), A4⟩ (fun g6 ih6 => ?_)
 rintro x6 _ _ ⟨s8, _, vx6_0, rfl, rfl, Kx6, Ax6_0, Cx6_5⟩
 unfold spec_l18hex.b0
 refine sq (sr (Xb rfl (Xp w0_0 rfl ?_)))
 have A10 := A0_0.kp Kx6
 refine ln' A10 u22 rfl (Xb rfl (dn (cd rfl (fun h11 => ?_) (fun h11 => ?_))))
 ·
  refine sk (sq (bl (sr (Xp vx6_0 rfl (Xp v2 rfl (Xp w0_0 rfl (Xb rfl (ix' A10 u22 z5 rfl (fun ad12 es12 h0_12 h1_12 he12 ce12 ia12 => ?_)))))))))
  obtain rfl := he12
  refine lc0' ce12 u5 rfl (quoK rfl rfl rfl rfl rfl rfl rfl rfl (ix' Cx6_5.rd u22 z5 rfl (fun ad14 es14 h0_14 h1_14 he14 ce14 ia14 => ?_)))
  obtain rfl := he14
  refine lc0' ce14 u5 rfl (ltF' (K := (Kd.int .u8)) (cells := [(.int .u8 (at_ ([(48 : Int), (49 : Int), (50 : Int), (51 : Int), (52 : Int), (53 : Int), (54 : Int), (55 : Int), (56 : Int), (57 : Int), (97 : Int), (98 : Int), (99 : Int), (100 : Int), (101 : Int), (102 : Int)]) (IntKind.wrap .u8 ((at_ a0 x6.2).tdiv (16 : Int)))))]) [(at_ ([(48 : Int), (49 : Int), (50 : Int), (51 : Int), (52 : Int), (53 : Int), (54 : Int), (55 : Int), (56 : Int), (57 : Int), (97 : Int), (98 : Int), (99 : Int), (100 : Int), (101 : Int), (102 : Int)]) (IntKind.wrap .u8 ((at_ a0 x6.2).tdiv (16 : Int))))] 42 Xn u22 z5 o5 (fun w => (Xj _ _ _)) rfl rfl (fun v16 s16 p16 A16 => ?_))
  refine apF' Xn sl22 (Ax6_0.st p16 rfl) A16.rd rfl (fun v19 s19 p19 A19 => ?_)
  refine Xq v19 rfl (dn (rg (Xp v19 rfl (Xp v2 rfl (Xp w0_0 rfl (Xb rfl ?_))))))
  have K21 := Kx6.st (Xo p16 p19) rfl
  refine ix' (A0_0.kp K21) u22 z5 rfl (fun ad23 es23 h0_23 h1_23 he23 ce23 ia23 => ?_)
  obtain rfl := he23
  refine lc0' ce23 u5 rfl (remK rfl rfl rfl rfl rfl rfl rfl rfl ?_)
  have A25 := Cx6_5.st (Xo p16 p19) rfl
  refine ix' A25.rd u22 z5 rfl (fun ad26 es26 h0_26 h1_26 he26 ce26 ia26 => ?_)
  obtain rfl := he26
  refine lc0' ce26 u5 rfl (ltF' (K := (Kd.int .u8)) (cells := [(.int .u8 (at_ ([(48 : Int), (49 : Int), (50 : Int), (51 : Int), (52 : Int), (53 : Int), (54 : Int), (55 : Int), (56 : Int), (57 : Int), (97 : Int), (98 : Int), (99 : Int), (100 : Int), (101 : Int), (102 : Int)]) ((at_ a0 x6.2).tmod (16 : Int))))]) [(at_ ([(48 : Int), (49 : Int), (50 : Int), (51 : Int), (52 : Int), (53 : Int), (54 : Int), (55 : Int), (56 : Int), (57 : Int), (97 : Int), (98 : Int), (99 : Int), (100 : Int), (101 : Int), (102 : Int)]) ((at_ a0 x6.2).tmod (16 : Int)))] 43 Xn u22 z5 o5 (fun w => (Xj _ _ _)) rfl rfl (fun v28 s28 p28 A28 => ?_))
  refine apF' Xn sl22 (A19.st p28 rfl) A28.rd rfl (fun v31 s31 p31 A31 => ?_)
  refine Xq v31 rfl (dn (ib (rg (Xb rfl (Xb rfl (Xb rfl (dn ?_)))))))
  exact lb ih6 ⟨s31, _, v31, rfl, (ue (ue (ue (ue rfl rfl) rfl) rfl) rfl), (K21.st (Xo p28 p31) rfl), A31, (A25.st (Xo p28 p31) rfl)⟩
 exact xt rfl (sgb (sr (Xp vx6_0 rfl (Xq vx6_0 rfl (dn (re rfl func101 rfl (Xv rfl Xg) rfl ⟨_, rfl, Ax6_0.fo Kx6 rfl z.l, z.ky Kx6⟩))))))
def spec_ItemText.f (a0 : Item) : Option ((List Int)) :=
 ((spec_ItemOk.f a0).bind fun r6 => (if (!r6) = true then (some ([] : (List Int))) else (if (a0.Kind == (1 : Int)) = true then ((spec_l18digits.f a0.N).bind fun r17 => (if ([(105 : Int)]).length + r17.length ≤ Lim then (some ([(105 : Int)] ++ r17)) else none)) else (if (a0.Kind == (2 : Int)) = true then ((spec_FloatBits.f a0.F).bind fun r30 => ((spec_l3high.f r30).bind fun r32 => ((spec_l18hex.f r32).bind fun r35 => (if ([(102 : Int)]).length + r35.length ≤ Lim then (some ([(102 : Int)] ++ r35)) else none)))) else (if (a0.Kind == (3 : Int)) = true then ((spec_l18hex.f a0.T).bind fun r50 => (if ([(116 : Int)]).length + r50.length ≤ Lim then (some ([(116 : Int)] ++ r50)) else none)) else (some ([(45 : Int)])))))))
def spec_ItemText.Q (w : World) (F : Nat → Prop) (r : (List Int)) (v : Value) (w' : World) : Prop :=
 FO Xx w w' [v] r ∧ Ky [] w w'
theorem spec_ItemText.calls (a0 : Item) (w : World) (F : Nat → Prop) (w0_0 : Value) (w0_1 : Value) (h0_0 : Kd.flt.rd w [w0_0] a0.F F) (h0_1 : Xx.rd w [w0_1] a0.T F) (r : (List Int)) (m : spec_ItemText.f a0 = some r) :
  Calls prog 81 #[(.agg #[(iI a0.Kind), (iI a0.N), w0_0, w0_1])] w (RT (spec_ItemText.Q w F) r) := by
 obtain ⟨s0, rfl, kp0, z⟩ := Xm w F
 have A0_0 := fl_of h0_0
 have A0_1 := z.rd h0_1
 refine Xd (args := [(.agg #[(iI a0.Kind), (iI a0.N), w0_0, w0_1])]) func81 ntmps81 rfl rfl m ?_
 unfold spec_ItemText.f
 refine sr (bx (cs := [(iI a0.Kind), (iI a0.N), w0_0, w0_1]) 40 rfl rfl rfl rfl rfl rfl (fun b2 s2 p2 B2 => ?_))
 refine Xb rfl (dn (sq (sr (Xw (es := [(iI a0.Kind), (iI a0.N), w0_0, w0_1]) B2 u26 z26 rfl ?_))))
 have K4 := kp0.st p2 rfl
 refine clV 41 rfl func9 rfl (spec_ItemOk.calls a0 s2.w (mm [0] s2) w0_0 w0_1 ((Xh (s := s2) A0_0).sub (D := [0]) rfl) (A0_1.kp K4)) (fun r6 s7 p7 n7 => ?_)
 refine Xb rfl (dn (cd rfl (fun h8 => ?_) (fun h8 => ?_)))
 ·
  refine sr (Xb rfl (dn ?_))
  have K9 := K4.st p7 rfl
  exact re rfl func81 rfl (Xv rfl Xg) rfl ⟨_, rfl, (Xk 5 (Kd.int .u8) s7 40).fo K9 rfl z.l, z.ky K9⟩
 refine sk (sq (sr (Xs fa26_0 rfl ?_)))
 have A10 := B2.st p7 rfl
 refine ld' A10 u3 rfl (dn (bl (sr (Xb rfl (Xb rfl (dn (cd rfl (fun h11 => ?_) (fun h11 => ?_))))))))
 ·
  refine sr (ltF' (K := (Kd.int .u8)) (cells := [(.int .u8 (105 : Int))]) [(105 : Int)] 42 Xn u22 z5 o5 (fun w => (Xj _ _ _)) rfl rfl (fun v12 s12 p12 A12 => ?_))
  refine cvm A12 rfl u22 u5 rfl rfl rfl rfl rfl rfl (fun s14 p14 A14 => ?_)
  refine Xs fa26_1 rfl (ld' (A10.st (Xo p12 p14) rfl) u3 rfl (clO 43 rfl func77 rfl (spec_l18digits.calls a0.N s14.w (mm [] s14)) (fun r17 v17_0 s18 p18 A17_0 => ?_)))
  refine apF' Xn sl22 (A14.st p18 rfl) A17_0.rd rfl (fun v21 s21 p21 A21 => ?_)
  refine Xq v21 rfl (dn ?_)
  have K23 := K4.st (tr5 p7 p12 p14 p18 p21) rfl
  exact re rfl func81 rfl (Xv rfl Xg) rfl ⟨_, rfl, A21.fo K23 rfl z.l, z.ky K23⟩
 refine sr (Xb rfl (Xb rfl (dn (cd rfl (fun h24 => ?_) (fun h24 => ?_)))))
 ·
  refine sr (ltF' (K := (Kd.int .u8)) (cells := [(.int .u8 (102 : Int))]) [(102 : Int)] 44 Xn u22 z5 o5 (fun w => (Xj _ _ _)) rfl rfl (fun v25 s25 p25 A25 => ?_))
  refine cvm A25 rfl u22 u5 rfl rfl rfl rfl rfl rfl (fun s27 p27 A27 => ?_)
  refine Xs fa26_2 rfl (ld' (A10.st (Xo p25 p27) rfl) u24 rfl (clV 45 rfl func29 rfl (spec_FloatBits.calls a0.F s27.w (mm [] s27) w0_0 (Xh (s := s27) A0_0)) (fun r30 s31 p31 n31 => ?_)))
  refine clO 46 rfl func102 rfl (spec_l3high.calls r30 s31.w (mm [] s31)) (fun r32 v32_0 s33 p33 A32_0 => ?_)
  refine clO 47 rfl func101 rfl (spec_l18hex.calls r32 s33.w (mm [46] s33) v32_0 A32_0.rd) (fun r35 v35_0 s36 p36 A35_0 => ?_)
  refine apF' Xn sl22 (A27.st (tr3 p31 p33 p36) rfl) A35_0.rd rfl (fun v39 s39 p39 A39 => ?_)
  refine Xq v39 rfl (dn ?_)
  have K41 := K4.st (tr7 p7 p25 p27 p31 p33 p36 p39) rfl
  exact re rfl func81 rfl (Xv rfl Xg) rfl ⟨_, rfl, A39.fo K41 rfl z.l, z.ky K41⟩
 refine sr (Xb rfl (Xb rfl (dn (cd rfl (fun h42 => ?_) (fun h42 => ?_)))))
 ·
  refine sr (ltF' (K := (Kd.int .u8)) (cells := [(.int .u8 (116 : Int))]) [(116 : Int)] 48 Xn u22 z5 o5 (fun w => (Xj _ _ _)) rfl rfl (fun v43 s43 p43 A43 => ?_))
  refine cvm A43 rfl u22 u5 rfl rfl rfl rfl rfl rfl (fun s45 p45 A45 => ?_)
  refine Xs fa26_3 rfl (ld' (A10.st (Xo p43 p45) rfl) u22 rfl ?_)
  have K48 := K4.st (tr3 p7 p43 p45) rfl
  refine clO 49 rfl func101 rfl (spec_l18hex.calls a0.T s45.w (mm [0] s45) w0_1 (A0_1.kp K48)) (fun r50 v50_0 s51 p51 A50_0 => ?_)
  refine apF' Xn sl22 (A45.st p51 rfl) A50_0.rd rfl (fun v54 s54 p54 A54 => ?_)
  refine Xq v54 rfl (dn ?_)
  have K56 := K48.st (Xo p51 p54) rfl
  exact re rfl func81 rfl (Xv rfl Xg) rfl ⟨_, rfl, A54.fo K56 rfl z.l, z.ky K56⟩
 refine sk (ib (sr (ltF' (K := (Kd.int .u8)) (cells := [(.int .u8 (45 : Int))]) [(45 : Int)] 50 Xn u22 z5 o5 (fun w => (Xj _ _ _)) rfl rfl (fun v57 s57 p57 A57 => ?_))))
 refine cvm A57 rfl u22 u5 rfl rfl rfl rfl rfl rfl (fun s59 p59 A59 => ?_)
 refine Xq v57 rfl (dn ?_)
 have K61 := K4.st (tr3 p7 p57 p59) rfl
 exact re rfl func81 rfl (Xv rfl Xg) rfl ⟨_, rfl, A59.fo K61 rfl z.l, z.ky K61⟩
def spec_ItemRead.f (a0 : (List Int)) : Option (Item × Bool) :=
 (if ((decide ((a0.length : Int) < (1 : Int))) || (decide ((a0.length : Int) > (81 : Int)))) = true then (some ((Item.mk (0 : Int) (0 : Int) (0 : Nat) ([] : (List Int))), false)) else (if 0 ≤ (0 : Int) ∧ (0 : Int) < (a0.length : Int) then ((if ((at_ a0 (0 : Int)) == (105 : Int)) = true then (if 0 ≤ (1 : Int) ∧ (1 : Int) ≤ (a0.length : Int) then ((spec_l18number.f (a0.drop ((1 : Int)).toNat)).bind fun r26 => (some ((1 : Int), r26.1, (0 : Nat), ([] : (List Int))))) else none) else ((if ((at_ a0 (0 : Int)) == (102 : Int)) = true then (if 0 ≤ (1 : Int) ∧ (1 : Int) ≤ (a0.length : Int) then ((spec_l18unhex.f (a0.drop ((1 : Int)).toNat)).bind fun r41 => ((spec_l3low.f r41.1).bind fun r44 => ((spec_FloatOf.f r44).bind fun r46 => (some ((2 : Int), r46, ([] : (List Int))))))) else none) else ((if ((at_ a0 (0 : Int)) == (116 : Int)) = true then (if 0 ≤ (1 : Int) ∧ (1 : Int) ≤ (a0.length : Int) then ((spec_l18unhex.f (a0.drop ((1 : Int)).toNat)).bind fun r61 => (some ((3 : Int), r61.1))) else none) else (some ((0 : Int), ([] : (List Int))))).bind fun y53 => (some (y53.1, (0 : Nat), y53.2)))).bind fun y33 => (some (y33.1, (0 : Int), y33.2.1, y33.2.2)))).bind fun y18 => ((spec_ItemText.f (Item.mk y18.1 y18.2.1 y18.2.2.1 y18.2.2.2)).bind fun r95 => (if (!((str r95).toList == (str a0).toList)) = true then (some ((Item.mk (0 : Int) (0 : Int) (0 : Nat) ([] : (List Int))), false)) else (some ((Item.mk y18.1 y18.2.1 y18.2.2.1 y18.2.2.2), true))))) else none))
def spec_ItemRead.Q (w : World) (F : Nat → Prop) (r : Item × Bool) (v : Value) (w' : World) : Prop :=
 ∃ (v0 : Value) (v1 : Value), v = .tuple #[(.agg #[(iI r.1.Kind), (iI r.1.N), v0, v1]), (.bool r.2)] ∧ FO kd26 w w' [(iI r.1.Kind), (iI r.1.N), v0, v1] r.1 ∧ Ky [] w w'
theorem spec_ItemRead.calls (a0 : (List Int)) (w : World) (F : Nat → Prop) (w0_0 : Value) (h0_0 : Xx.rd w [w0_0] a0 F) (r : Item × Bool) (m : spec_ItemRead.f a0 = some r) :
  Calls prog 48 #[w0_0] w (RT (spec_ItemRead.Q w F) r) := by
 obtain ⟨s0, rfl, kp0, z⟩ := Xm w F
 have A0_0 := z.rd h0_0
 refine Xd (args := [w0_0]) func48 ntmps48 rfl rfl m ?_
 unfold spec_ItemRead.f
 refine sr (al (cs := [(iI 0), (iI 0), (.float .f64 0), (.slice none 0 0)]) 40 rfl rfl rfl rfl rfl o26 rfl (fun b2 s2 p2 B2 => ?_))
 refine Xb rfl (dn (sr (al (cs := [(iI 0), (iI 0), (.float .f64 0), (.slice none 0 0)]) 41 rfl rfl rfl rfl rfl o26 rfl (fun b4 s4 p4 B4 => ?_))))
 refine dn (sq (sr (Xp w0_0 rfl ?_)))
 have K6 := kp0.st (Xo p2 p4) rfl
 have A7 := A0_0.kp K6
 refine ln' A7 u22 rfl (Xb rfl (Xb rfl (jy [10, 11, 12, 13, 14] [] 14 (.bool ((decide ((a0.length : Int) < (1 : Int))) || (decide ((a0.length : Int) > (81 : Int))))) rfl (fun Kg8 => ?_) (fun j8 => ?_))))
 ·
  rcases bft (decide ((a0.length : Int) < (1 : Int))) with hb8 | hb8
  ·
   exact sbT hb8 (Xi rfl (Xi rfl (Xi rfl (Xb rfl (Kg8 _ (Ag.put ((Ag.put ((Ag.put ((Ag.put (Ag.base rfl) rfl)) rfl)) rfl)) rfl) (by rw [hb8]; rfl))))))
  exact sbT hb8 (Xp w0_0 rfl (ln' A7 u22 rfl (Xb rfl (Xb rfl (Kg8 _ (Ag.put ((Ag.put ((Ag.put ((Ag.put (Ag.base rfl) rfl)) rfl)) rfl)) rfl) (by rw [hb8]; rfl))))))
 refine dn (cd rfl (fun h9 => ?_) (fun h9 => ?_))
 ·
  refine sr (Xw (es := [(iI 0), (iI 0), (.float .f64 0), (.slice none 0 0)]) B4 u26 z26 rfl ?_)
  refine sva' (vs := [(iI 0), (iI 0), (.float .f64 0), (.slice none 0 0)]) (B2.st p4 rfl) z26 rfl (Xa rfl (Xa rfl (Xa (FL.one (Xl rfl)) (Xa rfl Xr)))) rfl (fun s11 p11 B11 => ?_)
  refine Xb rfl (dn ?_)
  have A13 : OwF kd26 s11 [(iI 0), (iI 0), (.float .f64 0), (.slice none 0 0)] (Item.mk (0 : Int) (0 : Int) (0 : Nat) ([] : (List Int))) 42 := ow_z _ _ (fz_iso (fun x : Item => (x.Kind, x.N, x.F, x.T)) (Item.mk (0 : Int) (0 : Int) (0 : Nat) ([] : (List Int))) (Xe (Xf .i64 (0 : Int)) (Xe (Xf .i64 (0 : Int)) (Xe (Xu (Xl rfl)) (fz_nil 5 (Kd.int .u8))))))
  have K15 := K6.st p11 rfl
  exact re rfl func48 rfl (r_b B11 u26 rfl z26 rfl (Xv rfl Xg)) rfl ⟨_, rfl, (.float .f64 0), (.slice none 0 0), rfl, A13.fo K15 rfl z.l, z.ky K15⟩
 refine sk (sq (sr (Xp w0_0 rfl (ix' A7 u22 z5 rfl (fun ad16 es16 h0_16 h1_16 he16 ce16 ia16 => ?_)))))
 obtain rfl := he16
 refine lc0' ce16 u5 rfl (dn (bl (sr (Xb rfl (Xb rfl (dn (jc (fun (y18 : Int × Int × Nat × (List Int)) e w => ∃ (s : St) (e0 : Env) (vy18_0 uy18_0 : Value), w = s.w ∧ e = upd (upd (upd e0 0 w0_0) 2 (pB b2)) 4 (pB b4) ∧ Kp s0 s ∧ OwF Xx s [vy18_0] y18.2.2.2 47 ∧ FL uy18_0 y18.2.2.1 ∧ BlF s b4 26 [(iI y18.1), (iI y18.2.1), uy18_0, vy18_0] 41 ∧ BlF s b2 26 [(iI 0), (iI 0), (.float .f64 0), (.slice none 0 0)] 40) (fun Gj18 Kj18 => ?_) ?_)))))))
 ·
  refine cd rfl (fun h19 => ?_) (fun h19 => ?_)
  ·
   refine sr (Xs fa26_0 rfl (sv B4 z3 rfl rfl rfl rfl rfl rfl rfl rfl (fun s20 p20 B20 => ?_)))
   refine dn (rg (Xp w0_0 rfl ?_))
   have K22 := K6.st p20 rfl
   refine sla (A0_0.kp K22) u22 z5 rfl rfl rfl rfl rfl rfl rfl (fun v24 A24 => ?_)
   refine clV 43 rfl func47 rfl (spec_l18number.calls (a0.drop ((1 : Int)).toNat) s20.w (mm [0] s20) v24 A24) (fun r26 s27 p27 n27 => ?_)
   refine Xb rfl (Xb (v := (iI r26.1)) rfl (Xb (v := (.bool r26.2)) rfl (Xs fa26_1 rfl ?_)))
   refine sv (B20.st p27 rfl) z3 rfl rfl rfl rfl rfl rfl rfl rfl (fun s29 p29 B29 => ?_)
   exact dn (Kj18 _ _ _ ⟨s29, _, (.slice none 0 0), (.float .f64 0), rfl, (ue (ue (ue rfl rfl) rfl) rfl), (K22.st (Xo p27 p29) rfl), (Xk 5 (Kd.int .u8) _ 47), (Xl rfl), B29, (B2.st (tr4 p4 p20 p27 p29) rfl)⟩)
  refine sr (Xb rfl (Xb rfl (dn (jc (fun (y33 : Int × Nat × (List Int)) e w => ∃ (s : St) (e0 : Env) (vy33_0 uy33_0 : Value), w = s.w ∧ e = upd (upd (upd e0 0 w0_0) 2 (pB b2)) 4 (pB b4) ∧ Kp s0 s ∧ OwF Xx s [vy33_0] y33.2.2 47 ∧ FL uy33_0 y33.2.1 ∧ BlF s b4 26 [(iI y33.1), (iI 0), uy33_0, vy33_0] 41 ∧ BlF s b2 26 [(iI 0), (iI 0), (.float .f64 0), (.slice none 0 0)] 40) (fun Gj33 Kj33 => ?_) ?_))))
  ·
   refine cd rfl (fun h34 => ?_) (fun h34 => ?_)
   ·
    refine sr (Xs fa26_0 rfl (sv B4 z3 rfl rfl rfl rfl rfl rfl rfl rfl (fun s35 p35 B35 => ?_)))
    refine dn (sr (Xp w0_0 rfl ?_))
    have K37 := K6.st p35 rfl
    refine sla (A0_0.kp K37) u22 z5 rfl rfl rfl rfl rfl rfl rfl (fun v39 A39 => ?_)
    refine cl' rfl func78 rfl (spec_l18unhex.calls (a0.drop ((1 : Int)).toNat) s35.w (mm [0] s35) v39 A39) ?_
    rintro r41 _ w41 m41 ⟨v41_0, rfl, f41_0, ky41⟩
    obtain ⟨s42, rfl, p42, n42⟩ := nwx s35 w41 44 ky41
    refine Xb rfl (Xb (v := v41_0) rfl (Xb (v := (.bool r41.2)) rfl (Xq v41_0 rfl (Xb rfl (dn (rg (Xp v41_0 rfl (clV 45 rfl func80 rfl (spec_l3low.calls r41.1 s42.w (mm [44] s42) v41_0 (f41_0.c n42).rd) (fun r44 s45 p45 n45 => ?_)))))))))
    refine cl' rfl func79 rfl (spec_FloatOf.calls r44 s45.w (mm [] s45)) ?_
    rintro r46 v46_0 w46 m46 ⟨f46_0, ky46⟩
    obtain ⟨s47, rfl, p47, n47⟩ := nwx s45 w46 46 ky46
    refine Xs fa26_2 rfl (sv (B35.st (tr3 p42 p45 p47) rfl) z24 rfl rfl rfl rfl rfl rfl (FL.one f46_0) rfl (fun s49 p49 B49 => ?_))
    exact dn (Kj33 _ _ _ ⟨s49, _, (.slice none 0 0), v46_0, rfl, (ue (ue (ue rfl rfl) rfl) rfl), (K37.st (tr4 p42 p45 p47 p49) rfl), (Xk 5 (Kd.int .u8) _ 47), f46_0, B49, (B2.st (tr6 p4 p35 p42 p45 p47 p49) rfl)⟩)
   refine sr (Xb rfl (Xb rfl (dn (jc (fun (y53 : Int × (List Int)) e w => ∃ (s : St) (e0 : Env) (vy53_0 : Value), w = s.w ∧ e = upd (upd (upd e0 0 w0_0) 2 (pB b2)) 4 (pB b4) ∧ Kp s0 s ∧ OwF Xx s [vy53_0] y53.2 47 ∧ BlF s b4 26 [(iI y53.1), (iI 0), (.float .f64 0), vy53_0] 41 ∧ BlF s b2 26 [(iI 0), (iI 0), (.float .f64 0), (.slice none 0 0)] 40) (fun Gj53 Kj53 => ?_) ?_))))
   ·
    refine cd rfl (fun h54 => ?_) (fun h54 => ?_)
    ·
     refine sr (Xs fa26_0 rfl (sv B4 z3 rfl rfl rfl rfl rfl rfl rfl rfl (fun s55 p55 B55 => ?_)))
     refine dn (rg (Xp w0_0 rfl ?_))
     have K57 := K6.st p55 rfl
     refine sla (A0_0.kp K57) u22 z5 rfl rfl rfl rfl rfl rfl rfl (fun v59 A59 => ?_)
     refine cl' rfl func78 rfl (spec_l18unhex.calls (a0.drop ((1 : Int)).toNat) s55.w (mm [0] s55) v59 A59) ?_
     rintro r61 _ w61 m61 ⟨v61_0, rfl, f61_0, ky61⟩
     obtain ⟨s62, rfl, p62, n62⟩ := nwx s55 w61 47 ky61
     have A61_0 := f61_0.c n62
     refine Xb rfl (Xb (v := v61_0) rfl (Xb (v := (.bool r61.2)) rfl (Xs fa26_3 rfl ?_)))
     refine sv (B55.st p62 rfl) z22 rfl rfl rfl rfl rfl rfl A61_0.rd.one rfl (fun s65 p65 B65 => ?_)
     exact dn (Kj53 _ _ _ ⟨s65, _, v61_0, rfl, (ue (ue (ue rfl rfl) rfl) rfl), (K57.st (Xo p62 p65) rfl), (A61_0.st p65 rfl), B65, (B2.st (tr4 p4 p55 p62 p65) rfl)⟩)
    exact sk (Kj53 _ _ _ ⟨s4, _, (.slice none 0 0), rfl, (ue (ue (ue rfl rfl) rfl) rfl), K6, (Xk 5 (Kd.int .u8) _ 47), B4, (B2.st p4 rfl)⟩)
   rintro y53 _ _ ⟨s71, _, vy53_0, rfl, rfl, Ky53, Ay53_0, By53_b4, By53_b2⟩
   exact Kj33 _ _ _ ⟨s71, _, vy53_0, (.float .f64 0), rfl, (ue (ue (ue rfl rfl) rfl) rfl), Ky53, Ay53_0, (Xl rfl), By53_b4, By53_b2⟩
  rintro y33 _ _ ⟨s75, _, vy33_0, uy33_0, rfl, rfl, Ky33, Ay33_0, Fy33_0, By33_b4, By33_b2⟩
  exact Kj18 _ _ _ ⟨s75, _, vy33_0, uy33_0, rfl, (ue (ue (ue rfl rfl) rfl) rfl), Ky33, Ay33_0, Fy33_0, By33_b4, By33_b2⟩
 rintro y18 _ _ ⟨s79, _, vy18_0, uy18_0, rfl, rfl, Ky18, Ay18_0, Fy18_0, By18_b4, By18_b2⟩
 refine ib (sq (sq (zdraw [[], [0], [1], [], [3], [2, 4]] [some 52, some 53, some 54, some 55, some 56, some 57] [[4], [52], [53], [0], [55], [54, 56]] [0, 1, 2, 3, 4, 5] ⟨by kernel_rfl, by kernel_rfl, by kernel_rfl⟩ (by kernel_rfl) (fun s83 p83 l83 tb83 zd83 => ?_))))
 refine zstep 1 [some 56, some 55] tb83 (((zd83.add 0 52 (.agg #[(iI y18.1), (iI y18.2.1), uy18_0, vy18_0]) rfl).add 3 55 w0_0 rfl).add 4 56 (.string (str a0)) rfl) (Xc (b2s_q (A0_0.kp (Ky18.st p83 rfl)) u22 u9 u5 rfl rfl rfl rfl rfl rfl) rfl (Xc (mv_q' w0_0 rfl) rfl (Xc (lda_q (es := [(iI y18.1), (iI y18.2.1), uy18_0, vy18_0]) (By18_b4.st p83 rfl) u26 z26 rfl rfl rfl rfl rfl rfl rfl rfl) rfl Xt))) (by kernel_rfl) rfl (fun l90 e90 zd90 => ?_)
 have A94 := Ay18_0.st p83 rfl
 refine clO 48 rfl func81 rfl (spec_ItemText.calls (Item.mk y18.1 y18.2.1 y18.2.2.1 y18.2.2.2) s83.w (mm [47] s83) uy18_0 vy18_0 ((Xh (s := s83) Fy18_0).sub (D := [47]) rfl) A94.rd) (fun r95 v95_0 s96 p96 A95_0 => ?_)
 refine zdone (L' := [4, 3]) (D' := [0, 1]) zd90 rfl rfl rfl (fun zd98 => ?_)
 refine zfin [5] tb83 (zd98.add 2 54 (.string (str r95)) rfl) (Xc (b2s_q A95_0.rd u22 u9 u5 rfl rfl rfl rfl rfl rfl) rfl (Xc (b2s_q (A0_0.kp (Ky18.st (Xo p83 p96) rfl)) u22 u9 u5 rfl rfl rfl rfl rfl rfl) rfl (Xc (mv_q' w0_0 rfl) rfl Xt))) (by kernel_rfl) (by decide) (Xb rfl (dn (cd rfl (fun h102 => ?_) (fun h102 => ?_))))
 ·
  refine sr (bd (cells := [(iI 0), (iI 0), (.float .f64 0), (.slice none 0 0)]) pl26 o26 rfl rfl rfl rfl rfl rfl ?_)
  refine sva' (vs := [(iI 0), (iI 0), (.float .f64 0), (.slice none 0 0)]) (By18_b2.st (Xo p83 p96) rfl) z26 rfl (Xa rfl (Xa rfl (Xa (FL.one (Xl rfl)) (Xa rfl Xr)))) rfl (fun s104 p104 B104 => ?_)
  refine Xb rfl (dn ?_)
  have A106 : OwF kd26 s104 [(iI 0), (iI 0), (.float .f64 0), (.slice none 0 0)] (Item.mk (0 : Int) (0 : Int) (0 : Nat) ([] : (List Int))) 49 := ow_z _ _ (fz_iso (fun x : Item => (x.Kind, x.N, x.F, x.T)) (Item.mk (0 : Int) (0 : Int) (0 : Nat) ([] : (List Int))) (Xe (Xf .i64 (0 : Int)) (Xe (Xf .i64 (0 : Int)) (Xe (Xu (Xl rfl)) (fz_nil 5 (Kd.int .u8))))))
  have K108 := Ky18.st (tr3 p83 p96 p104) rfl
  exact re rfl func48 rfl (r_b B104 u26 rfl z26 rfl (Xv rfl Xg)) rfl ⟨_, rfl, (.float .f64 0), (.slice none 0 0), rfl, A106.fo K108 rfl z.l, z.ky K108⟩
 refine sk (sr ?_)
 refine Xw (es := [(iI y18.1), (iI y18.2.1), uy18_0, vy18_0]) (By18_b4.st (Xo p83 p96) rfl) u26 z26 rfl ?_
 have A111 := A94.st p96 rfl
 refine sva' (vs := [(iI y18.1), (iI y18.2.1), uy18_0, vy18_0]) (By18_b2.st (Xo p83 p96) rfl) z26 rfl (Xa rfl (Xa rfl (Xa (FL.one Fy18_0) (Xa A111.rd.one Xr)))) rfl (fun s112 p112 B112 => ?_)
 refine Xb rfl (dn ?_)
 have A114 : OwF kd26 s112 [(iI y18.1), (iI y18.2.1), uy18_0, vy18_0] (Item.mk y18.1 y18.2.1 y18.2.2.1 y18.2.2.2) 47 := (ow_isoz (fun x : Item => (x.Kind, x.N, x.F, x.T)) (Item.mk y18.1 y18.2.1 y18.2.2.1 y18.2.2.2) (ow_l (Xf .i64 y18.1) (ow_l (Xf .i64 y18.2.1) (ow_l (Xu Fy18_0) (A111.st p112 rfl)))))
 have K117 := Ky18.st (tr3 p83 p96 p112) rfl
 exact re rfl func48 rfl (r_b B112 u26 rfl z26 rfl (Xv rfl Xg)) rfl ⟨_, rfl, uy18_0, vy18_0, rfl, A114.fo K117 rfl z.l, z.ky K117⟩
def spec_l18word.f (a0 : (List Int)) (a1 : (List Int)) : Option ((List Int)) :=
 (if a0.length + ([(32 : Int)]).length ≤ Lim then (if (a0 ++ [(32 : Int)]).length + a1.length ≤ Lim then (some ((a0 ++ [(32 : Int)]) ++ a1)) else none) else none)
def spec_l18word.Q (w : World) (F : Nat → Prop) (os : List Nat) (r : (List Int)) (v : Value) (w' : World) : Prop :=
 FW Xx os w w' [v] r ∧ Ky os w w'
theorem spec_l18word.calls (a0 : (List Int)) (a1 : (List Int)) (w : World) (F : Nat → Prop) (w0_0 : Value) (w1_0 : Value) (h1_0 : Xx.rd w [w1_0] a1 F) (os : List Nat) (h0 : Xx.ow w [w0_0] a0 os) (hn : os.Nodup) (hF : ∀ b, F b → b ∉ os) (r : (List Int)) (m : spec_l18word.f a0 a1 = some r) :
  Calls prog 82 #[w0_0, w1_0] w (RT (spec_l18word.Q w F os) r) := by
 obtain ⟨s0, rfl, kp0, z⟩ := startN w F [(os, 40)] (by simpa [fl_] using hn) (fun b hb => by simpa [fl_] using hF b hb) rfl
 have ez : fl_ [(os, 40)] = os := by simp [fl_]
 refine Xd (args := [w0_0, w1_0]) func82 ntmps82 rfl rfl m ?_
 unfold spec_l18word.f
 refine sr (Xb rfl (dn (sr (Xp w0_0 rfl (ltF' (K := (Kd.int .u8)) (cells := [(.int .u8 (32 : Int))]) [(32 : Int)] 41 Xn u22 z5 o5 (fun w => (Xj _ _ _)) rfl rfl (fun v3 s3 p3 A3 => ?_))))))
 refine apF' Xn sl22 ((z.ow (c := 40) (by simp) hn h0).st p3 rfl) A3.rd rfl (fun v6 s6 p6 A6 => ?_)
 refine Xq v6 rfl (dn (sr (Xp v6 rfl (Xp w1_0 rfl ?_))))
 have K8 := kp0.st (Xo p3 p6) rfl
 refine apF' Xn sl22 A6 ((z.rd h1_0).kp K8) rfl (fun v10 s10 p10 A10 => ?_)
 refine Xq v10 rfl (dn ?_)
 have K12 := K8.st p10 rfl
 exact re rfl func82 rfl (Xv rfl Xg) rfl ⟨_, rfl, z.fw' ez K12 (oc_ow A10) rfl, z.ky' ez K12⟩
def spec_OpText.b0 (a0 : Op) (x181 : (List Int) × Int) : Option (((List Int) × Int) ⊕ (List Int)) :=
 (if (decide (x181.2 < (a0.Keep.length : Int))) = true then (if 0 ≤ x181.2 ∧ x181.2 < (a0.Keep.length : Int) then ((if (at_ a0.Keep x181.2) = true then (if x181.1.length + ([(49 : Int)]).length ≤ Lim then (some (x181.1 ++ [(49 : Int)])) else none) else (if x181.1.length + ([(48 : Int)]).length ≤ Lim then (some (x181.1 ++ [(48 : Int)])) else none)).bind fun y189 => (some (Sum.inl (y189, (IntKind.wrap .i64 (x181.2 + (1 : Int))))))) else none) else ((some x181.1).bind fun o => some (Sum.inr o)))
def spec_OpText.f (a0 : Op) : Option ((List Int)) :=
 ((spec_OpOk.f a0).bind fun r12 => (if (!r12) = true then (some ([] : (List Int))) else ((spec_l18names.f).bind fun r22 => (if 0 ≤ a0.Kind ∧ a0.Kind < (r22.length : Int) then (if (at_ r22 a0.Kind).size ≤ Lim then ((if (decide (a0.Kind ≤ (8 : Int))) = true then ((spec_l18digits.f a0.Seat).bind fun r34 => ((spec_l18word.f (bts (at_ r22 a0.Kind)) r34).bind fun r37 => (some r37))) else (some (bts (at_ r22 a0.Kind)))).bind fun y32 => ((if (a0.Kind == (1 : Int)) = true then ((spec_l18digits.f a0.Level).bind fun r52 => ((spec_l18word.f y32 r52).bind fun r55 => (some r55))) else ((if (a0.Kind == (2 : Int)) = true then (some (a0.Kind == (2 : Int))) else (some (a0.Kind == (4 : Int)))).bind fun y61 => ((if y61 = true then ((spec_ItemText.f a0.Key).bind fun r68 => ((spec_l18word.f y32 r68).bind fun r71 => (some r71))) else ((if (a0.Kind == (3 : Int)) = true then ((spec_ItemText.f a0.Key).bind fun r80 => ((spec_l18word.f y32 r80).bind fun r83 => ((spec_ItemText.f a0.Value).bind fun r90 => ((spec_l18word.f r83 r90).bind fun r93 => (some r93))))) else ((if (a0.Kind == (5 : Int)) = true then ((spec_ItemText.f a0.Key).bind fun r102 => ((spec_l18word.f y32 r102).bind fun r105 => ((spec_ItemText.f a0.To).bind fun r112 => ((spec_l18word.f r105 r112).bind fun r115 => ((spec_l18digits.f a0.N).bind fun r120 => ((spec_l18word.f r115 r120).bind fun r123 => (some r123))))))) else ((if (a0.Kind == (6 : Int)) = true then ((spec_ItemText.f a0.Key).bind fun r132 => ((spec_l18word.f y32 r132).bind fun r135 => ((spec_ItemText.f a0.To).bind fun r142 => ((spec_l18word.f r135 r142).bind fun r145 => (some r145))))) else ((if (a0.Kind == (11 : Int)) = true then (some (a0.Kind == (11 : Int))) else (some (a0.Kind == (12 : Int)))).bind fun y151 => ((if y151 = true then ((spec_l18digits.f a0.N).bind fun r157 => ((spec_l18word.f y32 r157).bind fun r160 => (some r160))) else ((if (a0.Kind == (13 : Int)) = true then ((if (decide ((a0.Keep.length : Int) > (0 : Int))) = true then (if y32.length + ([(32 : Int)]).length ≤ Lim then (some (y32 ++ [(32 : Int)])) else none) else (some y32)).bind fun y169 => (iter (spec_OpText.b0 a0) (y169, (0 : Int)))) else (some y32)).bind fun y166 => (some y166))).bind fun y155 => (some y155)))).bind fun y129 => (some y129))).bind fun y99 => (some y99))).bind fun y77 => (some y77))).bind fun y65 => (some y65)))).bind fun y50 => (some y50))) else none) else none))))
def spec_OpText.Q (w : World) (F : Nat → Prop) (r : (List Int)) (v : Value) (w' : World) : Prop :=
 FO Xx w w' [v] r ∧ Ky [] w w'
theorem spec_OpText.calls (a0 : Op) (w : World) (F : Nat → Prop) (w0_0 : Value) (w0_1 : Value) (w0_2 : Value) (w0_3 : Value) (w0_4 : Value) (w0_5 : Value) (w0_6 : Value) (h0_0 : Kd.flt.rd w [w0_0] a0.Key.F F) (h0_1 : Xx.rd w [w0_1] a0.Key.T F) (h0_2 : Kd.flt.rd w [w0_2] a0.To.F F) (h0_3 : Xx.rd w [w0_3] a0.To.T F) (h0_4 : Kd.flt.rd w [w0_4] a0.Value.F F) (h0_5 : Xx.rd w [w0_5] a0.Value.T F) (h0_6 : (Kd.sl 4 Kd.bool).rd w [w0_6] a0.Keep F) (r : (List Int)) (m : spec_OpText.f a0 = some r) :
  Calls prog 49 #[(.agg #[(iI a0.Kind), (iI a0.Seat), (iI a0.Level), (iI a0.N), (iI a0.Key.Kind), (iI a0.Key.N), w0_0, w0_1, (iI a0.To.Kind), (iI a0.To.N), w0_2, w0_3, (iI a0.Value.Kind), (iI a0.Value.N), w0_4, w0_5, w0_6])] w (RT (spec_OpText.Q w F) r) := by
 obtain ⟨s0, rfl, kp0, z⟩ := Xm w F
 have A0_0 := fl_of h0_0
 have A0_1 := z.rd h0_1
 have A0_2 := fl_of h0_2
 have A0_3 := z.rd h0_3
 have A0_4 := fl_of h0_4
 have A0_5 := z.rd h0_5
 have A0_6 := z.rd h0_6
 refine Xd (args := [(.agg #[(iI a0.Kind), (iI a0.Seat), (iI a0.Level), (iI a0.N), (iI a0.Key.Kind), (iI a0.Key.N), w0_0, w0_1, (iI a0.To.Kind), (iI a0.To.N), w0_2, w0_3, (iI a0.Value.Kind), (iI a0.Value.N), w0_4, w0_5, w0_6])]) func49 ntmps49 rfl rfl m ?_
 unfold spec_OpText.f
 refine sr (bx (cs := [(iI a0.Kind), (iI a0.Seat), (iI a0.Level), (iI a0.N), (iI a0.Key.Kind), (iI a0.Key.N), w0_0, w0_1, (iI a0.To.Kind), (iI a0.To.N), w0_2, w0_3, (iI a0.Value.Kind), (iI a0.Value.N), w0_4, w0_5, w0_6]) 40 rfl rfl rfl rfl rfl rfl (fun b5 s5 p5 B5 => ?_))
 refine Xb rfl (dn (sq (sr (Xw (es := [(iI a0.Kind), (iI a0.Seat), (iI a0.Level), (iI a0.N), (iI a0.Key.Kind), (iI a0.Key.N), w0_0, w0_1, (iI a0.To.Kind), (iI a0.To.N), w0_2, w0_3, (iI a0.Value.Kind), (iI a0.Value.N), w0_4, w0_5, w0_6]) B5 u35 z35 rfl ?_))))
 have K7 := kp0.st p5 rfl
 refine clV 41 rfl func14 rfl (spec_OpOk.calls a0 s5.w (mm [0] s5) w0_0 w0_1 w0_2 w0_3 w0_4 w0_5 w0_6 ((Xh (s := s5) A0_0).sub (D := [0]) rfl) (A0_1.kp K7) ((Xh (s := s5) A0_2).sub (D := [0]) rfl) (A0_3.kp K7) ((Xh (s := s5) A0_4).sub (D := [0]) rfl) (A0_5.kp K7) (A0_6.kp K7)) (fun r12 s13 p13 n13 => ?_)
 refine Xb rfl (dn (cd rfl (fun h14 => ?_) (fun h14 => ?_)))
 ·
  refine sr (Xb rfl (dn ?_))
  have K15 := K7.st p13 rfl
  exact re rfl func49 rfl (Xv rfl Xg) rfl ⟨_, rfl, (Xk 5 (Kd.int .u8) s13 40).fo K15 rfl z.l, z.ky K15⟩
 refine sk (sq (zdraw [[], [], [1], [0, 2], [3], [4], [5, 0, 0, 1, 2, 3, 4, 5]] [some 8, some 9, some 10, some 11, some 12, some 13, some 3] [[], [1], [9], [8, 10], [11], [12], [13]] [0, 1, 2, 3, 4, 5, 6] ⟨by kernel_rfl, by kernel_rfl, by kernel_rfl⟩ (by kernel_rfl) (fun s16 p16 l16 tb16 zd16 => ?_)))
 refine zstep 0 [some 10, some 9] tb16 ((zd16.add 1 9 (pB b5) rfl).add 2 10 (iI a0.Kind) rfl) (Xc (ld_q (B5.st (Xo p13 p16) rfl) u3 rfl rfl rfl rfl rfl rfl rfl rfl) rfl (Xc (fa_q fa35_0 rfl rfl rfl rfl rfl rfl) rfl Xt)) (by kernel_rfl) rfl (fun l20 e20 zd20 => ?_)
 refine clO 42 rfl func46 rfl (spec_l18names.calls  s16.w (mm [] s16)) (fun r22 v22_0 s23 p23 A22_0 => ?_)
 refine zdone (L' := [2, 1]) (D' := [0]) zd20 rfl rfl rfl (fun zd25 => ?_)
 refine zfin [3, 4, 5, 6] tb16 zd25 (Xc (ld_q (B5.st (tr3 p13 p16 p23) rfl) u3 rfl rfl rfl rfl rfl rfl rfl rfl) rfl (Xc (fa_q fa35_0 rfl rfl rfl rfl rfl rfl) rfl Xt)) (by kernel_rfl) (by decide) (ix' A22_0.rd u59 z9 rfl (fun ad27 es27 h0_27 h1_27 he27 ce27 ia27 => ?_))
 obtain rfl := he27
 refine lc0' ce27 u9 rfl (s2b 43 u9 u22 u5 rfl rfl rfl rfl rfl rfl (fun v29 s29 p29 A29 => ?_))
 refine Xq v29 rfl (dn (sq (sr (Xs fa35_0 rfl ?_))))
 have A31 := B5.st (tr4 p13 p16 p23 p29) rfl
 refine ld' A31 u3 rfl (Xb rfl (dn (jc (fun (y32 : (List Int)) e w => ∃ (s : St) (e0 : Env) (vy32_0 : Value), w = s.w ∧ e = upd (upd e0 1 (pB b5)) 3 vy32_0 ∧ Kp s0 s ∧ OwF Xx s [vy32_0] y32 44 ∧ BlF s b5 35 [(iI a0.Kind), (iI a0.Seat), (iI a0.Level), (iI a0.N), (iI a0.Key.Kind), (iI a0.Key.N), w0_0, w0_1, (iI a0.To.Kind), (iI a0.To.N), w0_2, w0_3, (iI a0.Value.Kind), (iI a0.Value.N), w0_4, w0_5, w0_6] 40) (fun Gj32 Kj32 => ?_) ?_)))
 ·
  refine cd rfl (fun h33 => ?_) (fun h33 => ?_)
  ·
   refine rg (Xp v29 rfl (Xs fa35_1 rfl (ld' A31 u3 rfl (clO 45 rfl func77 rfl (spec_l18digits.calls a0.Seat s29.w (mm [] s29)) (fun r34 v34_0 s35 p35 A34_0 => ?_)))))
   obtain ⟨os37, ho37, hn37, hc37⟩ := A29.st p35 rfl
   refine cl' rfl func82 rfl (spec_l18word.calls (bts (at_ r22 a0.Kind)) r34 s35.w (mm [45] s35) v29 v34_0 A34_0.rd os37 ho37 hn37 (apart_of hc37 rfl)) ?_
   rintro r37 v37_0 w37 m37 ⟨f37_0, ky37⟩
   obtain ⟨s39, rfl, p39, n39⟩ := nwm 46 hc37 ky37 rfl
   refine Xq v37_0 rfl (dn ?_)
   obtain ⟨s41, hw41, p41, A41⟩ := (f37_0.m n39).rc 44 rfl
   rw [hw41]
   exact Kj32 _ _ _ ⟨s41, _, v37_0, rfl, (ue (ue rfl rfl) rfl), (K7.st (tr7 p13 p16 p23 p29 p35 p39 p41) rfl), A41, (A31.st (tr3 p35 p39 p41) rfl)⟩
  refine sk ?_
  obtain ⟨s44, hw44, p44, A44⟩ := A29.rc 44 rfl
  rw [hw44]
  exact Kj32 _ _ _ ⟨s44, _, v29, rfl, (ue (ue rfl rfl) rfl), (K7.st (tr5 p13 p16 p23 p29 p44) rfl), A44, (A31.st p44 rfl)⟩
 rintro y32 _ _ ⟨s47, _, vy32_0, rfl, rfl, Ky32, Ay32_0, By32_b5⟩
 refine sq (sr (Xs fa35_0 rfl (ld' By32_b5 u3 rfl (dn (bl (sr (Xb rfl (Xb rfl (dn (jc (fun (y50 : (List Int)) e w => ∃ (s : St) (e0 : Env) (vy50_0 : Value), w = s.w ∧ e = upd e0 3 vy50_0 ∧ Kp s0 s ∧ OwF Xx s [vy50_0] y50 47) (fun Gj50 Kj50 => ?_) ?_))))))))))
 ·
  refine cd rfl (fun h51 => ?_) (fun h51 => ?_)
  ·
   refine rg (Xp vy32_0 rfl (Xs fa35_2 rfl (ld' By32_b5 u3 rfl (clO 48 rfl func77 rfl (spec_l18digits.calls a0.Level s47.w (mm [] s47)) (fun r52 v52_0 s53 p53 A52_0 => ?_)))))
   obtain ⟨os55, ho55, hn55, hc55⟩ := Ay32_0.st p53 rfl
   refine cl' rfl func82 rfl (spec_l18word.calls y32 r52 s53.w (mm [48] s53) vy32_0 v52_0 A52_0.rd os55 ho55 hn55 (apart_of hc55 rfl)) ?_
   rintro r55 v55_0 w55 m55 ⟨f55_0, ky55⟩
   obtain ⟨s57, rfl, p57, n57⟩ := nwm 49 hc55 ky55 rfl
   refine Xq v55_0 rfl (dn ?_)
   obtain ⟨s59, hw59, p59, A59⟩ := (f55_0.m n57).rc 47 rfl
   rw [hw59]
   exact Kj50 _ _ _ ⟨s59, _, v55_0, rfl, (ue rfl rfl), (Ky32.st (tr3 p53 p57 p59) rfl), A59⟩
  refine sq (sr (Xb rfl (Xb rfl (dn (jc (fun (y61 : Bool) e w => ∃ (s : St) (e0 : Env), w = s.w ∧ e = upd (upd (upd (upd e0 1 (pB b5)) 3 vy32_0) 23 (iI a0.Kind)) 31 (.bool y61) ∧ Kp s0 s ∧ BlF s b5 35 [(iI a0.Kind), (iI a0.Seat), (iI a0.Level), (iI a0.N), (iI a0.Key.Kind), (iI a0.Key.N), w0_0, w0_1, (iI a0.To.Kind), (iI a0.To.N), w0_2, w0_3, (iI a0.Value.Kind), (iI a0.Value.N), w0_4, w0_5, w0_6] 40 ∧ OwF Xx s [vy32_0] y32 44) (fun Gj61 Kj61 => ?_) ?_)))))
  ·
   refine cd rfl (fun h62 => ?_) (fun h62 => ?_)
   ·
    exact sk (Kj61 _ _ _ ⟨s47, _, rfl, (ue (ue (ue (ue rfl rfl) rfl) rfl) rfl), Ky32, By32_b5, Ay32_0⟩)
   exact rg (Xb rfl (Xb rfl (dn (Kj61 _ _ _ ⟨s47, _, rfl, (ue (ue (ue (ue rfl rfl) rfl) rfl) rfl), Ky32, By32_b5, Ay32_0⟩))))
  rintro y61 _ _ ⟨s63, _, rfl, rfl, Ky61, By61_b5, Cy61_48⟩
  refine jc (fun (y65 : (List Int)) e w => ∃ (s : St) (e0 : Env) (vy65_0 : Value), w = s.w ∧ e = upd e0 3 vy65_0 ∧ Kp s0 s ∧ OwF Xx s [vy65_0] y65 50) (fun Gj65 Kj65 => ?_) ?_
  ·
   refine cd rfl (fun h66 => ?_) (fun h66 => ?_)
   ·
    refine rg (Xp vy32_0 rfl (Xs fa35_4 rfl (Xw (es := [(iI a0.Key.Kind), (iI a0.Key.N), w0_0, w0_1]) By61_b5 u26 z26 rfl ?_)))
    refine clO 51 rfl func81 rfl (spec_ItemText.calls a0.Key s63.w (mm [0] s63) w0_0 w0_1 ((Xh (s := s63) A0_0).sub (D := [0]) rfl) (A0_1.kp Ky61)) (fun r68 v68_0 s69 p69 A68_0 => ?_)
    obtain ⟨os71, ho71, hn71, hc71⟩ := Cy61_48.st p69 rfl
    refine cl' rfl func82 rfl (spec_l18word.calls y32 r68 s69.w (mm [51] s69) vy32_0 v68_0 A68_0.rd os71 ho71 hn71 (apart_of hc71 rfl)) ?_
    rintro r71 v71_0 w71 m71 ⟨f71_0, ky71⟩
    obtain ⟨s73, rfl, p73, n73⟩ := nwm 52 hc71 ky71 rfl
    refine Xq v71_0 rfl (dn ?_)
    obtain ⟨s75, hw75, p75, A75⟩ := (f71_0.m n73).rc 50 rfl
    rw [hw75]
    exact Kj65 _ _ _ ⟨s75, _, v71_0, rfl, (ue rfl rfl), (Ky61.st (tr3 p69 p73 p75) rfl), A75⟩
   refine sr (Xb rfl (Xb rfl (dn (jc (fun (y77 : (List Int)) e w => ∃ (s : St) (e0 : Env) (vy77_0 : Value), w = s.w ∧ e = upd e0 3 vy77_0 ∧ Kp s0 s ∧ OwF Xx s [vy77_0] y77 53) (fun Gj77 Kj77 => ?_) ?_))))
   ·
    refine cd rfl (fun h78 => ?_) (fun h78 => ?_)
    ·
     refine sr (Xp vy32_0 rfl (Xs fa35_4 rfl (Xw (es := [(iI a0.Key.Kind), (iI a0.Key.N), w0_0, w0_1]) By61_b5 u26 z26 rfl ?_)))
     refine clO 54 rfl func81 rfl (spec_ItemText.calls a0.Key s63.w (mm [0] s63) w0_0 w0_1 ((Xh (s := s63) A0_0).sub (D := [0]) rfl) (A0_1.kp Ky61)) (fun r80 v80_0 s81 p81 A80_0 => ?_)
     obtain ⟨os83, ho83, hn83, hc83⟩ := Cy61_48.st p81 rfl
     refine cl' rfl func82 rfl (spec_l18word.calls y32 r80 s81.w (mm [54] s81) vy32_0 v80_0 A80_0.rd os83 ho83 hn83 (apart_of hc83 rfl)) ?_
     rintro r83 v83_0 w83 m83 ⟨f83_0, ky83⟩
     obtain ⟨s85, rfl, p85, n85⟩ := nwm 55 hc83 ky83 rfl
     refine Xq v83_0 rfl (dn (rg (Xp v83_0 rfl (Xs fa35_6 rfl ?_))))
     refine Xw (es := [(iI a0.Value.Kind), (iI a0.Value.N), w0_4, w0_5]) (By61_b5.st (Xo p81 p85) rfl) u26 z26 rfl ?_
     have K88 := Ky61.st (Xo p81 p85) rfl
     refine clO 56 rfl func81 rfl (spec_ItemText.calls a0.Value s85.w (mm [0] s85) w0_4 w0_5 ((Xh (s := s85) A0_4).sub (D := [0]) rfl) (A0_5.kp K88)) (fun r90 v90_0 s91 p91 A90_0 => ?_)
     obtain ⟨os93, ho93, hn93, hc93⟩ := (f83_0.m n85).st p91 rfl
     refine cl' rfl func82 rfl (spec_l18word.calls r83 r90 s91.w (mm [56] s91) v83_0 v90_0 A90_0.rd os93 ho93 hn93 (apart_of hc93 rfl)) ?_
     rintro r93 v93_0 w93 m93 ⟨f93_0, ky93⟩
     obtain ⟨s95, rfl, p95, n95⟩ := nwm 57 hc93 ky93 rfl
     refine Xq v93_0 rfl (dn ?_)
     obtain ⟨s97, hw97, p97, A97⟩ := (f93_0.m n95).rc 53 rfl
     rw [hw97]
     exact Kj77 _ _ _ ⟨s97, _, v93_0, rfl, (ue rfl rfl), (K88.st (tr3 p91 p95 p97) rfl), A97⟩
    refine sr (Xb rfl (Xb rfl (dn (jc (fun (y99 : (List Int)) e w => ∃ (s : St) (e0 : Env) (vy99_0 : Value), w = s.w ∧ e = upd e0 3 vy99_0 ∧ Kp s0 s ∧ OwF Xx s [vy99_0] y99 58) (fun Gj99 Kj99 => ?_) ?_))))
    ·
     refine cd rfl (fun h100 => ?_) (fun h100 => ?_)
     ·
      refine sr (Xp vy32_0 rfl (Xs fa35_4 rfl (Xw (es := [(iI a0.Key.Kind), (iI a0.Key.N), w0_0, w0_1]) By61_b5 u26 z26 rfl ?_)))
      refine clO 59 rfl func81 rfl (spec_ItemText.calls a0.Key s63.w (mm [0] s63) w0_0 w0_1 ((Xh (s := s63) A0_0).sub (D := [0]) rfl) (A0_1.kp Ky61)) (fun r102 v102_0 s103 p103 A102_0 => ?_)
      obtain ⟨os105, ho105, hn105, hc105⟩ := Cy61_48.st p103 rfl
      refine cl' rfl func82 rfl (spec_l18word.calls y32 r102 s103.w (mm [59] s103) vy32_0 v102_0 A102_0.rd os105 ho105 hn105 (apart_of hc105 rfl)) ?_
      rintro r105 v105_0 w105 m105 ⟨f105_0, ky105⟩
      obtain ⟨s107, rfl, p107, n107⟩ := nwm 60 hc105 ky105 rfl
      refine Xq v105_0 rfl (dn (sr (Xp v105_0 rfl (Xs fa35_5 rfl ?_))))
      have A109 := By61_b5.st (Xo p103 p107) rfl
      refine Xw (es := [(iI a0.To.Kind), (iI a0.To.N), w0_2, w0_3]) A109 u26 z26 rfl ?_
      have K110 := Ky61.st (Xo p103 p107) rfl
      refine clO 61 rfl func81 rfl (spec_ItemText.calls a0.To s107.w (mm [0] s107) w0_2 w0_3 ((Xh (s := s107) A0_2).sub (D := [0]) rfl) (A0_3.kp K110)) (fun r112 v112_0 s113 p113 A112_0 => ?_)
      obtain ⟨os115, ho115, hn115, hc115⟩ := (f105_0.m n107).st p113 rfl
      refine cl' rfl func82 rfl (spec_l18word.calls r105 r112 s113.w (mm [61] s113) v105_0 v112_0 A112_0.rd os115 ho115 hn115 (apart_of hc115 rfl)) ?_
      rintro r115 v115_0 w115 m115 ⟨f115_0, ky115⟩
      obtain ⟨s117, rfl, p117, n117⟩ := nwm 62 hc115 ky115 rfl
      refine Xq v115_0 rfl (dn (rg (Xp v115_0 rfl (Xs fa35_3 rfl ?_))))
      refine ld' (A109.st (Xo p113 p117) rfl) u3 rfl (clO 63 rfl func77 rfl (spec_l18digits.calls a0.N s117.w (mm [] s117)) (fun r120 v120_0 s121 p121 A120_0 => ?_))
      obtain ⟨os123, ho123, hn123, hc123⟩ := (f115_0.m n117).st p121 rfl
      refine cl' rfl func82 rfl (spec_l18word.calls r115 r120 s121.w (mm [63] s121) v115_0 v120_0 A120_0.rd os123 ho123 hn123 (apart_of hc123 rfl)) ?_
      rintro r123 v123_0 w123 m123 ⟨f123_0, ky123⟩
      obtain ⟨s125, rfl, p125, n125⟩ := nwm 64 hc123 ky123 rfl
      refine Xq v123_0 rfl (dn ?_)
      obtain ⟨s127, hw127, p127, A127⟩ := (f123_0.m n125).rc 58 rfl
      rw [hw127]
      exact Kj99 _ _ _ ⟨s127, _, v123_0, rfl, (ue rfl rfl), (K110.st (tr5 p113 p117 p121 p125 p127) rfl), A127⟩
     refine sr (Xb rfl (Xb rfl (dn (jc (fun (y129 : (List Int)) e w => ∃ (s : St) (e0 : Env) (vy129_0 : Value), w = s.w ∧ e = upd e0 3 vy129_0 ∧ Kp s0 s ∧ OwF Xx s [vy129_0] y129 65) (fun Gj129 Kj129 => ?_) ?_))))
     ·
      refine cd rfl (fun h130 => ?_) (fun h130 => ?_)
      ·
       refine sr (Xp vy32_0 rfl (Xs fa35_4 rfl (Xw (es := [(iI a0.Key.Kind), (iI a0.Key.N), w0_0, w0_1]) By61_b5 u26 z26 rfl ?_)))
       refine clO 66 rfl func81 rfl (spec_ItemText.calls a0.Key s63.w (mm [0] s63) w0_0 w0_1 ((Xh (s := s63) A0_0).sub (D := [0]) rfl) (A0_1.kp Ky61)) (fun r132 v132_0 s133 p133 A132_0 => ?_)
       obtain ⟨os135, ho135, hn135, hc135⟩ := Cy61_48.st p133 rfl
       refine cl' rfl func82 rfl (spec_l18word.calls y32 r132 s133.w (mm [66] s133) vy32_0 v132_0 A132_0.rd os135 ho135 hn135 (apart_of hc135 rfl)) ?_
       rintro r135 v135_0 w135 m135 ⟨f135_0, ky135⟩
       obtain ⟨s137, rfl, p137, n137⟩ := nwm 67 hc135 ky135 rfl
       refine Xq v135_0 rfl (dn (rg (Xp v135_0 rfl (Xs fa35_5 rfl ?_))))
       refine Xw (es := [(iI a0.To.Kind), (iI a0.To.N), w0_2, w0_3]) (By61_b5.st (Xo p133 p137) rfl) u26 z26 rfl ?_
       have K140 := Ky61.st (Xo p133 p137) rfl
       refine clO 68 rfl func81 rfl (spec_ItemText.calls a0.To s137.w (mm [0] s137) w0_2 w0_3 ((Xh (s := s137) A0_2).sub (D := [0]) rfl) (A0_3.kp K140)) (fun r142 v142_0 s143 p143 A142_0 => ?_)
       obtain ⟨os145, ho145, hn145, hc145⟩ := (f135_0.m n137).st p143 rfl
       refine cl' rfl func82 rfl (spec_l18word.calls r135 r142 s143.w (mm [68] s143) v135_0 v142_0 A142_0.rd os145 ho145 hn145 (apart_of hc145 rfl)) ?_
       rintro r145 v145_0 w145 m145 ⟨f145_0, ky145⟩
       obtain ⟨s147, rfl, p147, n147⟩ := nwm 69 hc145 ky145 rfl
       refine Xq v145_0 rfl (dn ?_)
       obtain ⟨s149, hw149, p149, A149⟩ := (f145_0.m n147).rc 65 rfl
       rw [hw149]
       exact Kj129 _ _ _ ⟨s149, _, v145_0, rfl, (ue rfl rfl), (K140.st (tr3 p143 p147 p149) rfl), A149⟩
      refine sq (sr (Xb rfl (Xb rfl (dn (jc (fun (y151 : Bool) e w => ∃ (s : St) (e0 : Env), w = s.w ∧ e = upd (upd (upd (upd e0 1 (pB b5)) 3 vy32_0) 23 (iI a0.Kind)) 80 (.bool y151) ∧ Kp s0 s ∧ BlF s b5 35 [(iI a0.Kind), (iI a0.Seat), (iI a0.Level), (iI a0.N), (iI a0.Key.Kind), (iI a0.Key.N), w0_0, w0_1, (iI a0.To.Kind), (iI a0.To.N), w0_2, w0_3, (iI a0.Value.Kind), (iI a0.Value.N), w0_4, w0_5, w0_6] 40 ∧ OwF Xx s [vy32_0] y32 44) (fun Gj151 Kj151 => ?_) ?_)))))
      ·
       refine cd rfl (fun h152 => ?_) (fun h152 => ?_)
       ·
        exact sk (Kj151 _ _ _ ⟨s63, _, rfl, (ue (ue (ue (ue rfl rfl) rfl) rfl) rfl), Ky61, By61_b5, Cy61_48⟩)
       exact rg (Xb rfl (Xb rfl (dn (Kj151 _ _ _ ⟨s63, _, rfl, (ue (ue (ue (ue rfl rfl) rfl) rfl) rfl), Ky61, By61_b5, Cy61_48⟩))))
      rintro y151 _ _ ⟨s153, _, rfl, rfl, Ky151, By151_b5, Cy151_48⟩
      refine jc (fun (y155 : (List Int)) e w => ∃ (s : St) (e0 : Env) (vy155_0 : Value), w = s.w ∧ e = upd e0 3 vy155_0 ∧ Kp s0 s ∧ OwF Xx s [vy155_0] y155 70) (fun Gj155 Kj155 => ?_) ?_
      ·
       refine cd rfl (fun h156 => ?_) (fun h156 => ?_)
       ·
        refine rg (Xp vy32_0 rfl (Xs fa35_3 rfl (ld' By151_b5 u3 rfl (clO 71 rfl func77 rfl (spec_l18digits.calls a0.N s153.w (mm [] s153)) (fun r157 v157_0 s158 p158 A157_0 => ?_)))))
        obtain ⟨os160, ho160, hn160, hc160⟩ := Cy151_48.st p158 rfl
        refine cl' rfl func82 rfl (spec_l18word.calls y32 r157 s158.w (mm [71] s158) vy32_0 v157_0 A157_0.rd os160 ho160 hn160 (apart_of hc160 rfl)) ?_
        rintro r160 v160_0 w160 m160 ⟨f160_0, ky160⟩
        obtain ⟨s162, rfl, p162, n162⟩ := nwm 72 hc160 ky160 rfl
        refine Xq v160_0 rfl (dn ?_)
        obtain ⟨s164, hw164, p164, A164⟩ := (f160_0.m n162).rc 70 rfl
        rw [hw164]
        exact Kj155 _ _ _ ⟨s164, _, v160_0, rfl, (ue rfl rfl), (Ky151.st (tr3 p158 p162 p164) rfl), A164⟩
       refine sr (Xb rfl (Xb rfl (dn (jc (fun (y166 : (List Int)) e w => ∃ (s : St) (e0 : Env) (vy166_0 : Value), w = s.w ∧ e = upd e0 3 vy166_0 ∧ Kp s0 s ∧ OwF Xx s [vy166_0] y166 44) (fun Gj166 Kj166 => ?_) ?_))))
       ·
        refine cd rfl (fun h167 => ?_) (fun h167 => ?_)
        ·
         refine sq (sr (Xs fa35_7 rfl (ld' By151_b5 u33 rfl ?_)))
         refine ln' (A0_6.kp Ky151) u33 rfl (Xb rfl (dn (jc (fun (y169 : (List Int)) e w => ∃ (s : St) (e0 : Env) (vy169_0 : Value), w = s.w ∧ e = upd (upd e0 1 (pB b5)) 3 vy169_0 ∧ Kp s0 s ∧ OwF Xx s [vy169_0] y169 44 ∧ BlF s b5 35 [(iI a0.Kind), (iI a0.Seat), (iI a0.Level), (iI a0.N), (iI a0.Key.Kind), (iI a0.Key.N), w0_0, w0_1, (iI a0.To.Kind), (iI a0.To.N), w0_2, w0_3, (iI a0.Value.Kind), (iI a0.Value.N), w0_4, w0_5, w0_6] 40) (fun Gj169 Kj169 => ?_) ?_)))
         ·
          refine cd rfl (fun h170 => ?_) (fun h170 => ?_)
          ·
           refine rg (Xp vy32_0 rfl (ltF' (K := (Kd.int .u8)) (cells := [(.int .u8 (32 : Int))]) [(32 : Int)] 73 Xn u22 z5 o5 (fun w => (Xj _ _ _)) rfl rfl (fun v171 s171 p171 A171 => ?_)))
           refine apF' Xn sl22 (Cy151_48.st p171 rfl) A171.rd rfl (fun v174 s174 p174 A174 => ?_)
           refine Xq v174 rfl (dn ?_)
           exact Kj169 _ _ _ ⟨s174, _, v174, rfl, (ue (ue rfl rfl) rfl), (Ky151.st (Xo p171 p174) rfl), A174, (By151_b5.st (Xo p171 p174) rfl)⟩
          exact sk (Kj169 _ _ _ ⟨s153, _, vy32_0, rfl, (ue (ue rfl rfl) rfl), Ky151, Cy151_48, By151_b5⟩)
         rintro y169 _ _ ⟨s178, _, vy169_0, rfl, rfl, Ky169, Ay169_0, By169_b5⟩
         refine sr (Xb rfl (dn (bl (lpI (fun (x181 : (List Int) × Int) e w => ∃ (s : St) (e0 : Env) (vx181_0 : Value), w = s.w ∧ e = upd (upd (upd e0 1 (pB b5)) 3 vx181_0) 4 (iI x181.2) ∧ Kp s0 s ∧ OwF Xx s [vx181_0] x181.1 44 ∧ BlF s b5 35 [(iI a0.Kind), (iI a0.Seat), (iI a0.Level), (iI a0.N), (iI a0.Key.Kind), (iI a0.Key.N), w0_0, w0_1, (iI a0.To.Kind), (iI a0.To.N), w0_2, w0_3, (iI a0.Value.Kind), (iI a0.Value.N), w0_4, w0_5, w0_6] 40) ⟨s178, _, vy169_0, rfl, (ue (ue (ue rfl rfl) rfl) rfl), Ky169, Ay169_0, By169_b5⟩ (fun g181 ih181 => ?_)))))
         rintro x181 _ _ ⟨s182, _, vx181_0, rfl, rfl, Kx181, Ax181_0, Bx181_b5⟩
         unfold spec_OpText.b0
         refine sq (sr (Xb rfl (Xs fa35_7 rfl (ld' Bx181_b5 u33 rfl ?_))))
         have A185 := A0_6.kp Kx181
         refine ln' A185 u33 rfl (Xb rfl (dn (cd rfl (fun h186 => ?_) (fun h186 => ?_))))
         ·
          refine sk (sq (bl (sr (Xs fa35_7 rfl (ld' Bx181_b5 u33 rfl (Xb rfl (ix' A185 u33 z4 rfl (fun ad187 es187 h0_187 h1_187 he187 ce187 ia187 => ?_))))))))
          obtain rfl := he187
          refine lc0' ce187 u4 rfl (dn (jc (fun (y189 : (List Int)) e w => ∃ (s : St) (e0 : Env) (vy189_0 : Value), w = s.w ∧ e = upd (upd (upd e0 1 (pB b5)) 3 vy189_0) 4 (iI x181.2) ∧ Kp s0 s ∧ OwF Xx s [vy189_0] y189 44 ∧ BlF s b5 35 [(iI a0.Kind), (iI a0.Seat), (iI a0.Level), (iI a0.N), (iI a0.Key.Kind), (iI a0.Key.N), w0_0, w0_1, (iI a0.To.Kind), (iI a0.To.N), w0_2, w0_3, (iI a0.Value.Kind), (iI a0.Value.N), w0_4, w0_5, w0_6] 40) (fun Gj189 Kj189 => ?_) ?_))
          ·
           refine cd rfl (fun h190 => ?_) (fun h190 => ?_)
           ·
            refine rg (Xp vx181_0 rfl (ltF' (K := (Kd.int .u8)) (cells := [(.int .u8 (49 : Int))]) [(49 : Int)] 74 Xn u22 z5 o5 (fun w => (Xj _ _ _)) rfl rfl (fun v191 s191 p191 A191 => ?_)))
            refine apF' Xn sl22 (Ax181_0.st p191 rfl) A191.rd rfl (fun v194 s194 p194 A194 => ?_)
            refine Xq v194 rfl (dn ?_)
            exact Kj189 _ _ _ ⟨s194, _, v194, rfl, (ue (ue (ue rfl rfl) rfl) rfl), (Kx181.st (Xo p191 p194) rfl), A194, (Bx181_b5.st (Xo p191 p194) rfl)⟩
           refine rg (Xp vx181_0 rfl (ltF' (K := (Kd.int .u8)) (cells := [(.int .u8 (48 : Int))]) [(48 : Int)] 75 Xn u22 z5 o5 (fun w => (Xj _ _ _)) rfl rfl (fun v198 s198 p198 A198 => ?_)))
           refine apF' Xn sl22 (Ax181_0.st p198 rfl) A198.rd rfl (fun v201 s201 p201 A201 => ?_)
           refine Xq v201 rfl (dn ?_)
           exact Kj189 _ _ _ ⟨s201, _, v201, rfl, (ue (ue (ue rfl rfl) rfl) rfl), (Kx181.st (Xo p198 p201) rfl), A201, (Bx181_b5.st (Xo p198 p201) rfl)⟩
          rintro y189 _ _ ⟨s205, _, vy189_0, rfl, rfl, Ky189, Ay189_0, By189_b5⟩
          exact ib (rg (Xb rfl (Xb rfl (Xb rfl (dn (lb ih181 ⟨s205, _, vy189_0, rfl, (ue (ue (ue rfl rfl) rfl) rfl), Ky189, Ay189_0, By189_b5⟩))))))
         exact xt rfl (sgb (Kj166 _ _ _ ⟨s182, _, vx181_0, rfl, (ue rfl rfl), Kx181, Ax181_0⟩))
        exact sk (Kj166 _ _ _ ⟨s153, _, vy32_0, rfl, (ue rfl rfl), Ky151, Cy151_48⟩)
       rintro y166 _ _ ⟨s208, _, vy166_0, rfl, rfl, Ky166, Ay166_0⟩
       obtain ⟨s210, hw210, p210, A210⟩ := Ay166_0.rc 70 rfl
       rw [hw210]
       exact Kj155 _ _ _ ⟨s210, _, vy166_0, rfl, (ue rfl rfl), (Ky166.st p210 rfl), A210⟩
      rintro y155 _ _ ⟨s212, _, vy155_0, rfl, rfl, Ky155, Ay155_0⟩
      obtain ⟨s214, hw214, p214, A214⟩ := Ay155_0.rc 65 rfl
      rw [hw214]
      exact Kj129 _ _ _ ⟨s214, _, vy155_0, rfl, (ue rfl rfl), (Ky155.st p214 rfl), A214⟩
     rintro y129 _ _ ⟨s216, _, vy129_0, rfl, rfl, Ky129, Ay129_0⟩
     obtain ⟨s218, hw218, p218, A218⟩ := Ay129_0.rc 58 rfl
     rw [hw218]
     exact Kj99 _ _ _ ⟨s218, _, vy129_0, rfl, (ue rfl rfl), (Ky129.st p218 rfl), A218⟩
    rintro y99 _ _ ⟨s220, _, vy99_0, rfl, rfl, Ky99, Ay99_0⟩
    obtain ⟨s222, hw222, p222, A222⟩ := Ay99_0.rc 53 rfl
    rw [hw222]
    exact Kj77 _ _ _ ⟨s222, _, vy99_0, rfl, (ue rfl rfl), (Ky99.st p222 rfl), A222⟩
   rintro y77 _ _ ⟨s224, _, vy77_0, rfl, rfl, Ky77, Ay77_0⟩
   obtain ⟨s226, hw226, p226, A226⟩ := Ay77_0.rc 50 rfl
   rw [hw226]
   exact Kj65 _ _ _ ⟨s226, _, vy77_0, rfl, (ue rfl rfl), (Ky77.st p226 rfl), A226⟩
  rintro y65 _ _ ⟨s228, _, vy65_0, rfl, rfl, Ky65, Ay65_0⟩
  obtain ⟨s230, hw230, p230, A230⟩ := Ay65_0.rc 47 rfl
  rw [hw230]
  exact Kj50 _ _ _ ⟨s230, _, vy65_0, rfl, (ue rfl rfl), (Ky65.st p230 rfl), A230⟩
 rintro y50 _ _ ⟨s232, _, vy50_0, rfl, rfl, Ky50, Ay50_0⟩
 exact ib (sr (Xp vy50_0 rfl (Xq vy50_0 rfl (dn (re rfl func49 rfl (Xv rfl Xg) rfl ⟨_, rfl, Ay50_0.fo Ky50 rfl z.l, z.ky Ky50⟩)))))
def spec_OpRead.b2 (x65 : Int × (List (List Int))) (y88 : Int × Int) (x248 : Int × (List Bool)) : Option ((Int × (List Bool)) ⊕ (List Bool)) :=
 (if 0 ≤ y88.1 ∧ y88.1 < (x65.2.length : Int) then (if (decide (x248.1 < ((at_ x65.2 y88.1).length : Int))) = true then (if 0 ≤ y88.1 ∧ y88.1 < (x65.2.length : Int) then (if 0 ≤ x248.1 ∧ x248.1 < ((at_ x65.2 y88.1).length : Int) then (if x248.2.length + ([((at_ (at_ x65.2 y88.1) x248.1) == (49 : Int))]).length ≤ Lim then (some (Sum.inl ((IntKind.wrap .i64 (x248.1 + (1 : Int))), (x248.2 ++ [((at_ (at_ x65.2 y88.1) x248.1) == (49 : Int))])))) else none) else none) else none) else ((some x248.2).bind fun o => some (Sum.inr o))) else none)
def spec_OpRead.b1 (a0 : (List Int)) (r15 : (List (List Int))) (x21 : Int × Int) (x65 : Int × (List (List Int))) : Option ((Int × (List (List Int))) ⊕ (Op × Bool)) :=
 (if ((decide (x65.1 < (5 : Int))) && (decide (x65.1 < (r15.length : Int)))) = true then (if 0 ≤ x65.1 ∧ x65.1 < (r15.length : Int) then (if 0 ≤ x65.1 ∧ x65.1 < (x65.2.length : Int) then (some (Sum.inl ((IntKind.wrap .i64 (x65.1 + (1 : Int))), (x65.2.set (x65.1).toNat (at_ r15 x65.1))))) else none) else none) else (((if (decide (x21.2 ≤ (8 : Int))) = true then (if 0 ≤ (1 : Int) ∧ (1 : Int) < (x65.2.length : Int) then ((spec_l18number.f (at_ x65.2 (1 : Int))).bind fun r93 => (some ((2 : Int), r93.1))) else none) else (some ((1 : Int), (0 : Int)))).bind fun y88 => ((if (x21.2 == (1 : Int)) = true then (if 0 ≤ y88.1 ∧ y88.1 < (x65.2.length : Int) then ((spec_l18number.f (at_ x65.2 y88.1)).bind fun r109 => (some (r109.1, (0 : Int), (0 : Int), (0 : Int), (0 : Nat), ([] : (List Int)), (0 : Int), (0 : Int), (0 : Nat), ([] : (List Int)), (0 : Int), (0 : Int), (0 : Nat), ([] : (List Int)), ([] : (List Bool))))) else none) else ((if (x21.2 == (2 : Int)) = true then (some (x21.2 == (2 : Int))) else (some (x21.2 == (4 : Int)))).bind fun y116 => ((if y116 = true then (if 0 ≤ y88.1 ∧ y88.1 < (x65.2.length : Int) then ((spec_ItemRead.f (at_ x65.2 y88.1)).bind fun r126 => (some ((0 : Int), r126.1.Kind, r126.1.N, r126.1.F, r126.1.T, (0 : Int), (0 : Int), (0 : Nat), ([] : (List Int)), (0 : Int), (0 : Int), (0 : Nat), ([] : (List Int)), ([] : (List Bool))))) else none) else ((if (x21.2 == (3 : Int)) = true then (if 0 ≤ y88.1 ∧ y88.1 < (x65.2.length : Int) then ((spec_ItemRead.f (at_ x65.2 y88.1)).bind fun r142 => (if 0 ≤ (IntKind.wrap .i64 (y88.1 + (1 : Int))) ∧ (IntKind.wrap .i64 (y88.1 + (1 : Int))) < (x65.2.length : Int) then ((spec_ItemRead.f (at_ x65.2 (IntKind.wrap .i64 (y88.1 + (1 : Int))))).bind fun r152 => (some ((0 : Int), r142.1.Kind, r142.1.N, r142.1.F, r142.1.T, (0 : Int), (0 : Int), (0 : Nat), ([] : (List Int)), r152.1.Kind, r152.1.N, r152.1.F, r152.1.T, ([] : (List Bool))))) else none)) else none) else ((if (x21.2 == (5 : Int)) = true then (if 0 ≤ y88.1 ∧ y88.1 < (x65.2.length : Int) then ((spec_ItemRead.f (at_ x65.2 y88.1)).bind fun r171 => (if 0 ≤ (IntKind.wrap .i64 (y88.1 + (1 : Int))) ∧ (IntKind.wrap .i64 (y88.1 + (1 : Int))) < (x65.2.length : Int) then ((spec_ItemRead.f (at_ x65.2 (IntKind.wrap .i64 (y88.1 + (1 : Int))))).bind fun r181 => (if 0 ≤ (IntKind.wrap .i64 (y88.1 + (2 : Int))) ∧ (IntKind.wrap .i64 (y88.1 + (2 : Int))) < (x65.2.length : Int) then ((spec_l18number.f (at_ x65.2 (IntKind.wrap .i64 (y88.1 + (2 : Int))))).bind fun r191 => (some (r191.1, r171.1.Kind, r171.1.N, r171.1.F, r171.1.T, r181.1.Kind, r181.1.N, r181.1.F, r181.1.T, ([] : (List Bool))))) else none)) else none)) else none) else ((if (x21.2 == (6 : Int)) = true then (if 0 ≤ y88.1 ∧ y88.1 < (x65.2.length : Int) then ((spec_ItemRead.f (at_ x65.2 y88.1)).bind fun r209 => (if 0 ≤ (IntKind.wrap .i64 (y88.1 + (1 : Int))) ∧ (IntKind.wrap .i64 (y88.1 + (1 : Int))) < (x65.2.length : Int) then ((spec_ItemRead.f (at_ x65.2 (IntKind.wrap .i64 (y88.1 + (1 : Int))))).bind fun r219 => (some ((0 : Int), r209.1.Kind, r209.1.N, r209.1.F, r209.1.T, r219.1.Kind, r219.1.N, r219.1.F, r219.1.T, ([] : (List Bool))))) else none)) else none) else ((if (x21.2 == (11 : Int)) = true then (some (x21.2 == (11 : Int))) else (some (x21.2 == (12 : Int)))).bind fun y229 => ((if y229 = true then (if 0 ≤ y88.1 ∧ y88.1 < (x65.2.length : Int) then ((spec_l18number.f (at_ x65.2 y88.1)).bind fun r239 => (some (r239.1, ([] : (List Bool))))) else none) else ((if (x21.2 == (13 : Int)) = true then (iter (spec_OpRead.b2 x65 y88) ((0 : Int), ([] : (List Bool)))) else (some ([] : (List Bool)))).bind fun y246 => (some ((0 : Int), y246)))).bind fun y234 => (some (y234.1, (0 : Int), (0 : Int), (0 : Nat), ([] : (List Int)), (0 : Int), (0 : Int), (0 : Nat), ([] : (List Int)), y234.2))))).bind fun y204 => (some (y204.1, y204.2.1, y204.2.2.1, y204.2.2.2.1, y204.2.2.2.2.1, y204.2.2.2.2.2.1, y204.2.2.2.2.2.2.1, y204.2.2.2.2.2.2.2.1, y204.2.2.2.2.2.2.2.2.1, y204.2.2.2.2.2.2.2.2.2)))).bind fun y166 => (some (y166.1, y166.2.1, y166.2.2.1, y166.2.2.2.1, y166.2.2.2.2.1, y166.2.2.2.2.2.1, y166.2.2.2.2.2.2.1, y166.2.2.2.2.2.2.2.1, y166.2.2.2.2.2.2.2.2.1, (0 : Int), (0 : Int), (0 : Nat), ([] : (List Int)), y166.2.2.2.2.2.2.2.2.2)))).bind fun y137 => (some (y137.1, y137.2.1, y137.2.2.1, y137.2.2.2.1, y137.2.2.2.2.1, y137.2.2.2.2.2.1, y137.2.2.2.2.2.2.1, y137.2.2.2.2.2.2.2.1, y137.2.2.2.2.2.2.2.2.1, y137.2.2.2.2.2.2.2.2.2.1, y137.2.2.2.2.2.2.2.2.2.2.1, y137.2.2.2.2.2.2.2.2.2.2.2.1, y137.2.2.2.2.2.2.2.2.2.2.2.2.1, y137.2.2.2.2.2.2.2.2.2.2.2.2.2)))).bind fun y121 => (some ((0 : Int), y121.1, y121.2.1, y121.2.2.1, y121.2.2.2.1, y121.2.2.2.2.1, y121.2.2.2.2.2.1, y121.2.2.2.2.2.2.1, y121.2.2.2.2.2.2.2.1, y121.2.2.2.2.2.2.2.2.1, y121.2.2.2.2.2.2.2.2.2.1, y121.2.2.2.2.2.2.2.2.2.2.1, y121.2.2.2.2.2.2.2.2.2.2.2.1, y121.2.2.2.2.2.2.2.2.2.2.2.2.1, y121.2.2.2.2.2.2.2.2.2.2.2.2.2))))).bind fun y104 => ((if (x21.2 == (0 : Int)) = true then (some true) else ((spec_OpText.f (Op.mk x21.2 y88.2 y104.1 y104.2.1 (Item.mk y104.2.2.1 y104.2.2.2.1 y104.2.2.2.2.1 y104.2.2.2.2.2.1) (Item.mk y104.2.2.2.2.2.2.1 y104.2.2.2.2.2.2.2.1 y104.2.2.2.2.2.2.2.2.1 y104.2.2.2.2.2.2.2.2.2.1) (Item.mk y104.2.2.2.2.2.2.2.2.2.2.1 y104.2.2.2.2.2.2.2.2.2.2.2.1 y104.2.2.2.2.2.2.2.2.2.2.2.2.1 y104.2.2.2.2.2.2.2.2.2.2.2.2.2.1) y104.2.2.2.2.2.2.2.2.2.2.2.2.2.2)).bind fun r401 => (some (!((str r401).toList == (str a0).toList))))).bind fun y372 => (if y372 = true then (some ((Op.mk (0 : Int) (0 : Int) (0 : Int) (0 : Int) (Item.mk (0 : Int) (0 : Int) (0 : Nat) ([] : (List Int))) (Item.mk (0 : Int) (0 : Int) (0 : Nat) ([] : (List Int))) (Item.mk (0 : Int) (0 : Int) (0 : Nat) ([] : (List Int))) ([] : (List Bool))), false)) else (some ((Op.mk x21.2 y88.2 y104.1 y104.2.1 (Item.mk y104.2.2.1 y104.2.2.2.1 y104.2.2.2.2.1 y104.2.2.2.2.2.1) (Item.mk y104.2.2.2.2.2.2.1 y104.2.2.2.2.2.2.2.1 y104.2.2.2.2.2.2.2.2.1 y104.2.2.2.2.2.2.2.2.2.1) (Item.mk y104.2.2.2.2.2.2.2.2.2.2.1 y104.2.2.2.2.2.2.2.2.2.2.2.1 y104.2.2.2.2.2.2.2.2.2.2.2.2.1 y104.2.2.2.2.2.2.2.2.2.2.2.2.2.1) y104.2.2.2.2.2.2.2.2.2.2.2.2.2.2), true)))))).bind fun o => some (Sum.inr o)))
def spec_OpRead.b0 (a0 : (List Int)) (r15 : (List (List Int))) (r18 : (List ByteArray)) (x21 : Int × Int) : Option ((Int × Int) ⊕ (Op × Bool)) :=
 (if (decide (x21.1 < (r18.length : Int))) = true then (if 0 ≤ x21.1 ∧ x21.1 < (r18.length : Int) then (if 0 ≤ (0 : Int) ∧ (0 : Int) < (r15.length : Int) then ((if ((at_ r18 x21.1).toList == (str (at_ r15 (0 : Int))).toList) = true then (some x21.1) else (some x21.2)).bind fun y46 => (some (Sum.inl ((IntKind.wrap .i64 (x21.1 + (1 : Int))), y46)))) else none) else none) else ((iter (spec_OpRead.b1 a0 r15 x21) ((0 : Int), (List.replicate 5 ([] : (List Int))))).bind fun o => some (Sum.inr o)))
def spec_OpRead.f (a0 : (List Int)) : Option (Op × Bool) :=
 (if (decide ((a0.length : Int) > (20000 : Int))) = true then (some ((Op.mk (0 : Int) (0 : Int) (0 : Int) (0 : Int) (Item.mk (0 : Int) (0 : Int) (0 : Nat) ([] : (List Int))) (Item.mk (0 : Int) (0 : Int) (0 : Nat) ([] : (List Int))) (Item.mk (0 : Int) (0 : Int) (0 : Nat) ([] : (List Int))) ([] : (List Bool))), false)) else ((spec_l18split.f a0 (32 : Int)).bind fun r15 => ((spec_l18names.f).bind fun r18 => (iter (spec_OpRead.b0 a0 r15 r18) ((1 : Int), (0 : Int))))))
def spec_OpRead.Q (w : World) (F : Nat → Prop) (r : Op × Bool) (v : Value) (w' : World) : Prop :=
 ∃ (v0 : Value) (v1 : Value) (v2 : Value) (v3 : Value) (v4 : Value) (v5 : Value) (v6 : Value), v = .tuple #[(.agg #[(iI r.1.Kind), (iI r.1.Seat), (iI r.1.Level), (iI r.1.N), (iI r.1.Key.Kind), (iI r.1.Key.N), v0, v1, (iI r.1.To.Kind), (iI r.1.To.N), v2, v3, (iI r.1.Value.Kind), (iI r.1.Value.N), v4, v5, v6]), (.bool r.2)] ∧ FO kd35 w w' [(iI r.1.Kind), (iI r.1.Seat), (iI r.1.Level), (iI r.1.N), (iI r.1.Key.Kind), (iI r.1.Key.N), v0, v1, (iI r.1.To.Kind), (iI r.1.To.N), v2, v3, (iI r.1.Value.Kind), (iI r.1.Value.N), v4, v5, v6] r.1 ∧ Ky [] w w'
theorem spec_OpRead.calls (a0 : (List Int)) (w : World) (F : Nat → Prop) (w0_0 : Value) (h0_0 : Xx.rd w [w0_0] a0 F) (r : Op × Bool) (m : spec_OpRead.f a0 = some r) :
  Calls prog 15 #[w0_0] w (RT (spec_OpRead.Q w F) r) := by
 obtain ⟨s0, rfl, kp0, z⟩ := Xm w F
 have A0_0 := z.rd h0_0
 refine Xd (args := [w0_0]) func15 ntmps15 rfl rfl m ?_
 unfold spec_OpRead.f
 refine sr (al (cs := [(iI 0), (iI 0), (iI 0), (iI 0), (iI 0), (iI 0), (.float .f64 0), (.slice none 0 0), (iI 0), (iI 0), (.float .f64 0), (.slice none 0 0), (iI 0), (iI 0), (.float .f64 0), (.slice none 0 0), (.slice none 0 0)]) 40 rfl rfl rfl rfl rfl o35 rfl (fun b2 s2 p2 B2 => ?_))
 refine Xb rfl (dn (sr (al (cs := [(iI 0), (iI 0), (iI 0), (iI 0), (iI 0), (iI 0), (.float .f64 0), (.slice none 0 0), (iI 0), (iI 0), (.float .f64 0), (.slice none 0 0), (iI 0), (iI 0), (.float .f64 0), (.slice none 0 0), (.slice none 0 0)]) 41 rfl rfl rfl rfl rfl o35 rfl (fun b4 s4 p4 B4 => ?_))))
 refine dn (sq (sr (Xp w0_0 rfl ?_)))
 have K6 := kp0.st (Xo p2 p4) rfl
 have A7 := A0_0.kp K6
 refine ln' A7 u22 rfl (Xb rfl (dn (cd rfl (fun h8 => ?_) (fun h8 => ?_))))
 ·
  refine sr (Xw (es := [(iI 0), (iI 0), (iI 0), (iI 0), (iI 0), (iI 0), (.float .f64 0), (.slice none 0 0), (iI 0), (iI 0), (.float .f64 0), (.slice none 0 0), (iI 0), (iI 0), (.float .f64 0), (.slice none 0 0), (.slice none 0 0)]) B4 u35 z35 rfl ?_)
  refine sva' (vs := [(iI 0), (iI 0), (iI 0), (iI 0), (iI 0), (iI 0), (.float .f64 0), (.slice none 0 0), (iI 0), (iI 0), (.float .f64 0), (.slice none 0 0), (iI 0), (iI 0), (.float .f64 0), (.slice none 0 0), (.slice none 0 0)]) (B2.st p4 rfl) z35 rfl (Xa rfl (Xa rfl (Xa rfl (Xa rfl (Xa rfl (Xa rfl (Xa (FL.one (Xl rfl)) (Xa rfl (Xa rfl (Xa rfl (Xa (FL.one (Xl rfl)) (Xa rfl (Xa rfl (Xa rfl (Xa (FL.one (Xl rfl)) (Xa rfl (Xa rfl Xr))))))))))))))))) rfl (fun s10 p10 B10 => ?_)
  replace B10 : BlF s10 b2 35 [(iI 0), (iI 0), (iI 0), (iI 0), (iI 0), (iI 0), (.float .f64 0), (.slice none 0 0), (iI 0), (iI 0), (.float .f64 0), (.slice none 0 0), (iI 0), (iI 0), (.float .f64 0), (.slice none 0 0), (.slice none 0 0)] 40 := B10
  refine Xb rfl (dn ?_)
  have A12 : OwF kd35 s10 [(iI 0), (iI 0), (iI 0), (iI 0), (iI 0), (iI 0), (.float .f64 0), (.slice none 0 0), (iI 0), (iI 0), (.float .f64 0), (.slice none 0 0), (iI 0), (iI 0), (.float .f64 0), (.slice none 0 0), (.slice none 0 0)] (Op.mk (0 : Int) (0 : Int) (0 : Int) (0 : Int) (Item.mk (0 : Int) (0 : Int) (0 : Nat) ([] : (List Int))) (Item.mk (0 : Int) (0 : Int) (0 : Nat) ([] : (List Int))) (Item.mk (0 : Int) (0 : Int) (0 : Nat) ([] : (List Int))) ([] : (List Bool))) 42 := ow_z _ _ (fz_iso (fun x : Op => (x.Kind, x.Seat, x.Level, x.N, x.Key, x.To, x.Value, x.Keep)) (Op.mk (0 : Int) (0 : Int) (0 : Int) (0 : Int) (Item.mk (0 : Int) (0 : Int) (0 : Nat) ([] : (List Int))) (Item.mk (0 : Int) (0 : Int) (0 : Nat) ([] : (List Int))) (Item.mk (0 : Int) (0 : Int) (0 : Nat) ([] : (List Int))) ([] : (List Bool))) (Xe (Xf .i64 (0 : Int)) (Xe (Xf .i64 (0 : Int)) (Xe (Xf .i64 (0 : Int)) (Xe (Xf .i64 (0 : Int)) (Xe (fz_iso (fun x : Item => (x.Kind, x.N, x.F, x.T)) (Item.mk (0 : Int) (0 : Int) (0 : Nat) ([] : (List Int))) (Xe (Xf .i64 (0 : Int)) (Xe (Xf .i64 (0 : Int)) (Xe (Xu (Xl rfl)) (fz_nil 5 (Kd.int .u8)))))) (Xe (fz_iso (fun x : Item => (x.Kind, x.N, x.F, x.T)) (Item.mk (0 : Int) (0 : Int) (0 : Nat) ([] : (List Int))) (Xe (Xf .i64 (0 : Int)) (Xe (Xf .i64 (0 : Int)) (Xe (Xu (Xl rfl)) (fz_nil 5 (Kd.int .u8)))))) (Xe (fz_iso (fun x : Item => (x.Kind, x.N, x.F, x.T)) (Item.mk (0 : Int) (0 : Int) (0 : Nat) ([] : (List Int))) (Xe (Xf .i64 (0 : Int)) (Xe (Xf .i64 (0 : Int)) (Xe (Xu (Xl rfl)) (fz_nil 5 (Kd.int .u8)))))) (fz_nil 4 Kd.bool)))))))))
  have K14 := K6.st p10 rfl
  exact re rfl func15 rfl (r_b B10 u35 rfl z35 rfl (Xv rfl Xg)) rfl ⟨_, rfl, (.float .f64 0), (.slice none 0 0), (.float .f64 0), (.slice none 0 0), (.float .f64 0), (.slice none 0 0), (.slice none 0 0), rfl, A12.fo K14 rfl z.l, z.ky K14⟩
 refine sk (sr (Xp w0_0 rfl (clO 43 rfl func45 rfl (spec_l18split.calls a0 (32 : Int) s4.w (mm [0] s4) w0_0 A7) (fun r15 v15_0 s16 p16 A15_0 => ?_))))
 refine Xq v15_0 rfl (dn (sr (clO 44 rfl func46 rfl (spec_l18names.calls  s16.w (mm [] s16)) (fun r18 v18_0 s19 p19 A18_0 => ?_))))
 refine Xq v18_0 rfl (dn (sq (sr (Xb rfl (dn (bl ?_))))))
 refine lpI (fun (x21 : Int × Int) e w => ∃ (s : St) (e0 : Env), w = s.w ∧ e = upd (upd (upd (upd (upd (upd e0 0 w0_0) 2 (pB b2)) 4 (pB b4)) 5 v15_0) 6 v18_0) 7 (iI x21.1) ∧ Kp s0 s ∧ BlF s b4 35 [(iI x21.2), (iI 0), (iI 0), (iI 0), (iI 0), (iI 0), (.float .f64 0), (.slice none 0 0), (iI 0), (iI 0), (.float .f64 0), (.slice none 0 0), (iI 0), (iI 0), (.float .f64 0), (.slice none 0 0), (.slice none 0 0)] 41 ∧ BlF s b2 35 [(iI 0), (iI 0), (iI 0), (iI 0), (iI 0), (iI 0), (.float .f64 0), (.slice none 0 0), (iI 0), (iI 0), (.float .f64 0), (.slice none 0 0), (iI 0), (iI 0), (.float .f64 0), (.slice none 0 0), (.slice none 0 0)] 40 ∧ OwF (Kd.sl 22 Xx) s [v15_0] r15 43 ∧ OwF (Kd.sl 9 Kd.str) s [v18_0] r18 44) ⟨s19, _, rfl, (ue (ue (ue (ue (ue (ue rfl rfl) rfl) rfl) rfl) rfl) rfl), (K6.st (Xo p16 p19) rfl), (B4.st (Xo p16 p19) rfl), (B2.st (tr3 p4 p16 p19) rfl), (A15_0.st p19 rfl), A18_0⟩ (fun g21 ih21 => ?_)
 rintro x21 _ _ ⟨s26, _, rfl, rfl, Kx21, Bx21_b4, Bx21_b2, Cx21_17, Cx21_20⟩
 unfold spec_OpRead.b0
 refine sq (sr (Xb rfl (Xp v18_0 rfl (ln' Cx21_20.rd u59 rfl (Xb rfl (dn (cd rfl (fun h29 => ?_) (fun h29 => ?_))))))))
 ·
  refine sk (sq (bl (sq (zdraw [[], [], [0, 1], [2], [], [4], [5], [6], [3, 7]] [some 25, some 26, some 27, some 28, some 29, some 30, some 31, some 32, some 33] [[6], [7], [25, 26], [27], [5], [29], [30], [31], [28, 32]] [0, 1, 2, 3, 4, 5, 6, 7, 8] ⟨by kernel_rfl, by kernel_rfl, by kernel_rfl⟩ (by kernel_rfl) (fun s30 p30 l30 tb30 zd30 => ?_)))))
  have A33 := Cx21_20.st p30 rfl
  refine mg fun hg34 => ?_
  obtain ⟨ad34, es34, he34, ce34, ia34⟩ := ix_e A33.rd rfl hg34.1 hg34.2
  obtain rfl := he34
  have A39 := Cx21_17.st p30 rfl
  refine mg fun hg40 => ?_
  obtain ⟨ad40, es40, he40, ce40, ia40⟩ := ix_e A39.rd rfl hg40.1 hg40.2
  obtain ⟨v40, rfl, he40'⟩ := he40
  have A40 : RdF Xx s30 [v40] (at_ r15 (0 : Int)) [43] := ⟨v40, rfl, he40'⟩
  have zd45 := (((((((zd30.add 0 25 v18_0 rfl).add 1 26 (iI x21.1) rfl).add 2 27 (.pointer (some ad34)) rfl).add 3 28 (.string (at_ r18 x21.1)) rfl).add 4 29 v15_0 rfl).add 5 30 (.pointer (some ad40)) rfl).add 6 31 v40 rfl).add 7 32 (.string (str (at_ r15 (0 : Int)))) rfl
  refine zfin [8] tb30 zd45 (Xc (b2s_q A40 u22 u9 u5 rfl rfl rfl rfl rfl rfl) rfl (Xc (lc0_q ce40 u22 rfl rfl rfl rfl rfl rfl rfl rfl) rfl (Xc (ix_q A39.rd u71 z22 hg40.1 hg40.2 ia40 rfl rfl rfl rfl rfl rfl rfl) rfl (Xc (mv_q' v15_0 rfl) rfl (Xc (lc0_q ce34 u9 rfl rfl rfl rfl rfl rfl rfl rfl) rfl (Xc (ix_q A33.rd u59 z9 hg34.1 hg34.2 ia34 rfl rfl rfl rfl rfl rfl rfl) rfl (Xc (pu_q' rfl) rfl (Xc (mv_q' v18_0 rfl) rfl Xt)))))))) (by kernel_rfl) (by decide) (Xb rfl (dn (jc (fun (y46 : Int) e w => ∃ (s : St) (e0 : Env), w = s.w ∧ e = upd (upd (upd (upd (upd (upd e0 0 w0_0) 2 (pB b2)) 4 (pB b4)) 5 v15_0) 6 v18_0) 7 (iI x21.1) ∧ Kp s0 s ∧ BlF s b4 35 [(iI y46), (iI 0), (iI 0), (iI 0), (iI 0), (iI 0), (.float .f64 0), (.slice none 0 0), (iI 0), (iI 0), (.float .f64 0), (.slice none 0 0), (iI 0), (iI 0), (.float .f64 0), (.slice none 0 0), (.slice none 0 0)] 41 ∧ BlF s b2 35 [(iI 0), (iI 0), (iI 0), (iI 0), (iI 0), (iI 0), (.float .f64 0), (.slice none 0 0), (iI 0), (iI 0), (.float .f64 0), (.slice none 0 0), (iI 0), (iI 0), (.float .f64 0), (.slice none 0 0), (.slice none 0 0)] 40 ∧ OwF (Kd.sl 22 Xx) s [v15_0] r15 43 ∧ OwF (Kd.sl 9 Kd.str) s [v18_0] r18 44) (fun Gj46 Kj46 => ?_) ?_)))
  ·
   refine cd rfl (fun h47 => ?_) (fun h47 => ?_)
   ·
    refine rg (Xb rfl (Xs fa35_0 rfl ?_))
    refine sv (Bx21_b4.st p30 rfl) z3 rfl rfl rfl rfl rfl rfl rfl rfl (fun s49 p49 B49 => ?_)
    replace B49 : BlF s49 b4 35 [(iI x21.1), (iI 0), (iI 0), (iI 0), (iI 0), (iI 0), (.float .f64 0), (.slice none 0 0), (iI 0), (iI 0), (.float .f64 0), (.slice none 0 0), (iI 0), (iI 0), (.float .f64 0), (.slice none 0 0), (.slice none 0 0)] 41 := B49
    exact dn (Kj46 _ _ _ ⟨s49, _, rfl, (ue (ue (ue (ue (ue (ue rfl rfl) rfl) rfl) rfl) rfl) rfl), (Kx21.st (Xo p30 p49) rfl), B49, (Bx21_b2.st (Xo p30 p49) rfl), (A39.st p49 rfl), (A33.st p49 rfl)⟩)
   exact sk (Kj46 _ _ _ ⟨s30, _, rfl, (ue (ue (ue (ue (ue (ue rfl rfl) rfl) rfl) rfl) rfl) rfl), (Kx21.st p30 rfl), (Bx21_b4.st p30 rfl), (Bx21_b2.st p30 rfl), A39, A33⟩)
  rintro y46 _ _ ⟨s58, _, rfl, rfl, Ky46, By46_b4, By46_b2, Cy46_17, Cy46_20⟩
  exact ib (rg (Xb rfl (Xb rfl (Xb rfl (dn (lb ih21 ⟨s58, _, rfl, (ue (ue (ue (ue (ue (ue rfl rfl) rfl) rfl) rfl) rfl) rfl), Ky46, By46_b4, By46_b2, Cy46_17, Cy46_20⟩))))))
 refine xt rfl (sgb (sr (ala (K := Xx) (v0 := (.slice none 0 0)) (x0 := ([] : (List Int))) (cnt := 5) 45 o73 (fun _ => ⟨_, rfl, [], [], [], rfl, ⟨by simp, .inl ⟨rfl, rfl, rfl⟩⟩, ⟨rfl, rfl⟩⟩) rfl rfl rfl rfl rfl rfl rfl rfl (fun b61 s61 p61 A61 => ?_))))
 obtain ⟨s63, hw63, p63, A63, L63⟩ := lsn 46 A61 rfl
 rw [hw63]
 refine dn (sq (sr (Xb rfl (dn (bl ?_)))))
 refine lpI (fun (x65 : Int × (List (List Int))) e w => ∃ (s : St) (e0 : Env), w = s.w ∧ e = upd (upd (upd (upd (upd (upd e0 0 w0_0) 2 (pB b2)) 4 (pB b4)) 5 v15_0) 8 (pB b61)) 9 (iI x65.1) ∧ Kp s0 s ∧ RwF 73 Xx s (.slice (some ⟨b61, 0, none⟩) 5 5) x65.2 45 [46, 43] ∧ BlF s b4 35 [(iI x21.2), (iI 0), (iI 0), (iI 0), (iI 0), (iI 0), (.float .f64 0), (.slice none 0 0), (iI 0), (iI 0), (.float .f64 0), (.slice none 0 0), (iI 0), (iI 0), (.float .f64 0), (.slice none 0 0), (.slice none 0 0)] 41 ∧ BlF s b2 35 [(iI 0), (iI 0), (iI 0), (iI 0), (iI 0), (iI 0), (.float .f64 0), (.slice none 0 0), (iI 0), (iI 0), (.float .f64 0), (.slice none 0 0), (iI 0), (iI 0), (.float .f64 0), (.slice none 0 0), (.slice none 0 0)] 40 ∧ OwF (Kd.sl 22 Xx) s [v15_0] r15 43) ⟨s63, _, rfl, (ue (ue (ue (ue (ue (ue rfl rfl) rfl) rfl) rfl) rfl) rfl), (Kx21.st (Xo p61 p63) rfl), (A63.sub rfl), (Bx21_b4.st (Xo p61 p63) rfl), (Bx21_b2.st (Xo p61 p63) rfl), (Cx21_17.st (Xo p61 p63) rfl)⟩ (fun g65 ih65 => ?_)
 rintro x65 _ _ ⟨s70, _, rfl, rfl, Kx65, Ax65_0, Bx65_b4, Bx65_b2, Cx65_17⟩
 unfold spec_OpRead.b1
 refine sq (sr (Xb rfl (Xb rfl (Xb rfl (jy [38, 39, 40, 41, 42, 43] [] 43 (.bool ((decide (x65.1 < (5 : Int))) && (decide (x65.1 < (r15.length : Int))))) rfl (fun Kg74 => ?_) (fun j74 => ?_))))))
 ·
  rcases bft (decide (x65.1 < (5 : Int))) with hb74 | hb74
  ·
   exact sbT hb74 (Xb rfl (Xp v15_0 rfl (ln' Cx65_17.rd u71 rfl (Xb rfl (Xb rfl (Kg74 _ (Ag.put ((Ag.put ((Ag.put ((Ag.put ((Ag.put (Ag.base rfl) rfl)) rfl)) rfl)) rfl)) rfl) (by rw [hb74]; rfl)))))))
  exact sbT hb74 (Xi rfl (Xi rfl (Xi rfl (Xi rfl (Xb rfl (Kg74 _ (Ag.put ((Ag.put ((Ag.put ((Ag.put ((Ag.put (Ag.base rfl) rfl)) rfl)) rfl)) rfl)) rfl) (by rw [hb74]; rfl)))))))
 refine dn (cd rfl (fun h75 => ?_) (fun h75 => ?_))
 ·
  refine sk (sq (bl (rg (Xb rfl (Xp v15_0 rfl (Xb rfl (ix' Cx65_17.rd u71 z22 rfl (fun ad76 es76 h0_76 h1_76 he76 ce76 ia76 => ?_))))))))
  obtain ⟨v76, rfl, he76'⟩ := he76
  have A76 : RdF Xx s70 [v76] (at_ r15 x65.1) [43] := ⟨v76, rfl, he76'⟩
  refine lc0' ce76 u22 rfl (ixp Ax65_0.rd u73 z22 rfl rfl rfl rfl rfl rfl rfl rfl (fun ad79 es79 h0_79 h1_79 he79 ce79 ia79 => ?_))
  replace he79 := rw_sharp Ax65_0 h0_79 h1_79 ia79 ce79 he79
  obtain ⟨v79, rfl, he79'⟩ := he79
  have A79 : RdF Xx s70 [v79] (at_ x65.2 x65.1) [46, 43] := ⟨v79, rfl, he79'⟩
  refine sorl (x' := (at_ r15 x65.1)) Ax65_0 ia79 h0_79 h1_79 A76 rfl z22 rfl rfl rfl rfl rfl rfl (fun s82 p82 A82 => ?_)
  refine dn (ib (rg (Xb rfl (Xb rfl (Xb rfl (dn ?_))))))
  exact lb ih65 ⟨s82, _, rfl, (ue (ue (ue (ue (ue (ue rfl rfl) rfl) rfl) rfl) rfl) rfl), (Kx65.st p82 rfl), (A82.sub (D := [46, 43]) rfl), (Bx65_b4.st p82 rfl), (Bx65_b2.st p82 rfl), (Cx65_17.st p82 rfl)⟩
 refine xt rfl (sgb (sr (Xb rfl (dn (sq (sr (Xs fa35_0 rfl (ld' Bx65_b4 u3 rfl (Xb rfl (dn (jc (fun (y88 : Int × Int) e w => ∃ (s : St) (e0 : Env), w = s.w ∧ e = upd (upd (upd (upd (upd e0 0 w0_0) 2 (pB b2)) 4 (pB b4)) 8 (pB b61)) 10 (iI y88.1) ∧ Kp s0 s ∧ BlF s b4 35 [(iI x21.2), (iI y88.2), (iI 0), (iI 0), (iI 0), (iI 0), (.float .f64 0), (.slice none 0 0), (iI 0), (iI 0), (.float .f64 0), (.slice none 0 0), (iI 0), (iI 0), (.float .f64 0), (.slice none 0 0), (.slice none 0 0)] 41 ∧ BlF s b2 35 [(iI 0), (iI 0), (iI 0), (iI 0), (iI 0), (iI 0), (.float .f64 0), (.slice none 0 0), (iI 0), (iI 0), (.float .f64 0), (.slice none 0 0), (iI 0), (iI 0), (.float .f64 0), (.slice none 0 0), (.slice none 0 0)] 40 ∧ RwF 73 Xx s (.slice (some ⟨b61, 0, none⟩) 5 5) x65.2 45 [46, 43]) (fun Gj88 Kj88 => ?_) ?_)))))))))))
 ·
  refine cd rfl (fun h89 => ?_) (fun h89 => ?_)
  ·
   refine sr (ixp Ax65_0.rd u73 z22 rfl rfl rfl rfl rfl rfl rfl rfl (fun ad90 es90 h0_90 h1_90 he90 ce90 ia90 => ?_))
   replace he90 := rw_sharp Ax65_0 h0_90 h1_90 ia90 ce90 he90
   obtain ⟨v90, rfl, he90'⟩ := he90
   have A90 : RdF Xx s70 [v90] (at_ x65.2 (1 : Int)) [46, 43] := ⟨v90, rfl, he90'⟩
   refine lc0' ce90 u22 rfl (clV 47 rfl func47 rfl (spec_l18number.calls (at_ x65.2 (1 : Int)) s70.w (mm [46, 43] s70) v90 A90) (fun r93 s94 p94 n94 => ?_))
   refine Xb rfl (Xb (v := (iI r93.1)) rfl (Xb (v := (.bool r93.2)) rfl (Xs fa35_1 rfl ?_)))
   refine sv (Bx65_b4.st p94 rfl) z3 rfl rfl rfl rfl rfl rfl rfl rfl (fun s96 p96 B96 => ?_)
   replace B96 : BlF s96 b4 35 [(iI x21.2), (iI r93.1), (iI 0), (iI 0), (iI 0), (iI 0), (.float .f64 0), (.slice none 0 0), (iI 0), (iI 0), (.float .f64 0), (.slice none 0 0), (iI 0), (iI 0), (.float .f64 0), (.slice none 0 0), (.slice none 0 0)] 41 := B96
   refine dn (rg (Xb rfl (dn ?_)))
   exact Kj88 _ _ _ ⟨s96, _, rfl, (ue (ue (ue (ue (ue rfl rfl) rfl) rfl) rfl) rfl), (Kx65.st (Xo p94 p96) rfl), B96, (Bx65_b2.st (Xo p94 p96) rfl), (Ax65_0.st (Xo p94 p96) rfl rfl)⟩
  exact sk (Kj88 _ _ _ ⟨s70, _, rfl, (ue (ue (ue (ue (ue rfl rfl) rfl) rfl) rfl) rfl), Kx65, Bx65_b4, Bx65_b2, Ax65_0⟩)
 rintro y88 _ _ ⟨s101, _, rfl, rfl, Ky88, By88_b4, By88_b2, Cy88_71⟩
 refine sq (sr (Xs fa35_0 rfl (ld' By88_b4 u3 rfl (dn (bl (sr (Xb rfl (Xb rfl (dn (jc (fun (y104 : Int × Int × Int × Int × Nat × (List Int) × Int × Int × Nat × (List Int) × Int × Int × Nat × (List Int) × (List Bool)) e w => ∃ (s : St) (e0 : Env) (vy104_0 vy104_1 vy104_2 vy104_3 uy104_0 uy104_1 uy104_2 : Value), w = s.w ∧ e = upd (upd (upd e0 0 w0_0) 2 (pB b2)) 4 (pB b4) ∧ Kp s0 s ∧ OwF Xx s [vy104_0] y104.2.2.2.2.2.1 49 ∧ OwF Xx s [vy104_1] y104.2.2.2.2.2.2.2.2.2.1 53 ∧ OwF Xx s [vy104_2] y104.2.2.2.2.2.2.2.2.2.2.2.2.2.1 51 ∧ OwF (Kd.sl 4 Kd.bool) s [vy104_3] y104.2.2.2.2.2.2.2.2.2.2.2.2.2.2 58 ∧ FL uy104_0 y104.2.2.2.2.1 ∧ FL uy104_1 y104.2.2.2.2.2.2.2.2.1 ∧ FL uy104_2 y104.2.2.2.2.2.2.2.2.2.2.2.2.1 ∧ BlF s b4 35 [(iI x21.2), (iI y88.2), (iI y104.1), (iI y104.2.1), (iI y104.2.2.1), (iI y104.2.2.2.1), uy104_0, vy104_0, (iI y104.2.2.2.2.2.2.1), (iI y104.2.2.2.2.2.2.2.1), uy104_1, vy104_1, (iI y104.2.2.2.2.2.2.2.2.2.2.1), (iI y104.2.2.2.2.2.2.2.2.2.2.2.1), uy104_2, vy104_2, vy104_3] 41 ∧ BlF s b2 35 [(iI 0), (iI 0), (iI 0), (iI 0), (iI 0), (iI 0), (.float .f64 0), (.slice none 0 0), (iI 0), (iI 0), (.float .f64 0), (.slice none 0 0), (iI 0), (iI 0), (.float .f64 0), (.slice none 0 0), (.slice none 0 0)] 40) (fun Gj104 Kj104 => ?_) ?_))))))))))
 ·
  refine cd rfl (fun h105 => ?_) (fun h105 => ?_)
  ·
   refine rg (Xb rfl (ixp Cy88_71.rd u73 z22 rfl rfl rfl rfl rfl rfl rfl rfl (fun ad106 es106 h0_106 h1_106 he106 ce106 ia106 => ?_)))
   replace he106 := rw_sharp Cy88_71 h0_106 h1_106 ia106 ce106 he106
   obtain ⟨v106, rfl, he106'⟩ := he106
   have A106 : RdF Xx s101 [v106] (at_ x65.2 y88.1) [46, 43] := ⟨v106, rfl, he106'⟩
   refine lc0' ce106 u22 rfl (clV 48 rfl func47 rfl (spec_l18number.calls (at_ x65.2 y88.1) s101.w (mm [46, 43] s101) v106 A106) (fun r109 s110 p110 n110 => ?_))
   refine Xb rfl (Xb (v := (iI r109.1)) rfl (Xb (v := (.bool r109.2)) rfl (Xs fa35_2 rfl ?_)))
   refine sv (By88_b4.st p110 rfl) z3 rfl rfl rfl rfl rfl rfl rfl rfl (fun s112 p112 B112 => ?_)
   replace B112 : BlF s112 b4 35 [(iI x21.2), (iI y88.2), (iI r109.1), (iI 0), (iI 0), (iI 0), (.float .f64 0), (.slice none 0 0), (iI 0), (iI 0), (.float .f64 0), (.slice none 0 0), (iI 0), (iI 0), (.float .f64 0), (.slice none 0 0), (.slice none 0 0)] 41 := B112
   exact dn (Kj104 _ _ _ ⟨s112, _, (.slice none 0 0), (.slice none 0 0), (.slice none 0 0), (.slice none 0 0), (.float .f64 0), (.float .f64 0), (.float .f64 0), rfl, (ue (ue (ue rfl rfl) rfl) rfl), (Ky88.st (Xo p110 p112) rfl), (Xk 5 (Kd.int .u8) _ 49), (Xk 5 (Kd.int .u8) _ 53), (Xk 5 (Kd.int .u8) _ 51), (Xk 4 Kd.bool _ 58), (Xl rfl), (Xl rfl), (Xl rfl), B112, (By88_b2.st (Xo p110 p112) rfl)⟩)
  refine sq (sr (Xb rfl (Xb rfl (dn (jc (fun (y116 : Bool) e w => ∃ (s : St) (e0 : Env), w = s.w ∧ e = upd (upd (upd (upd (upd (upd (upd e0 0 w0_0) 2 (pB b2)) 4 (pB b4)) 8 (pB b61)) 10 (iI y88.1)) 63 (iI x21.2)) 74 (.bool y116) ∧ Kp s0 s ∧ BlF s b4 35 [(iI x21.2), (iI y88.2), (iI 0), (iI 0), (iI 0), (iI 0), (.float .f64 0), (.slice none 0 0), (iI 0), (iI 0), (.float .f64 0), (.slice none 0 0), (iI 0), (iI 0), (.float .f64 0), (.slice none 0 0), (.slice none 0 0)] 41 ∧ BlF s b2 35 [(iI 0), (iI 0), (iI 0), (iI 0), (iI 0), (iI 0), (.float .f64 0), (.slice none 0 0), (iI 0), (iI 0), (.float .f64 0), (.slice none 0 0), (iI 0), (iI 0), (.float .f64 0), (.slice none 0 0), (.slice none 0 0)] 40 ∧ RwF 73 Xx s (.slice (some ⟨b61, 0, none⟩) 5 5) x65.2 45 [46, 43]) (fun Gj116 Kj116 => ?_) ?_)))))
  ·
   refine cd rfl (fun h117 => ?_) (fun h117 => ?_)
   ·
    exact sk (Kj116 _ _ _ ⟨s101, _, rfl, (ue (ue (ue (ue (ue (ue (ue rfl rfl) rfl) rfl) rfl) rfl) rfl) rfl), Ky88, By88_b4, By88_b2, Cy88_71⟩)
   exact rg (Xb rfl (Xb rfl (dn (Kj116 _ _ _ ⟨s101, _, rfl, (ue (ue (ue (ue (ue (ue (ue rfl rfl) rfl) rfl) rfl) rfl) rfl) rfl), Ky88, By88_b4, By88_b2, Cy88_71⟩))))
  rintro y116 _ _ ⟨s118, _, rfl, rfl, Ky116, By116_b4, By116_b2, Cy116_71⟩
  refine jc (fun (y121 : Int × Int × Int × Nat × (List Int) × Int × Int × Nat × (List Int) × Int × Int × Nat × (List Int) × (List Bool)) e w => ∃ (s : St) (e0 : Env) (vy121_0 vy121_1 vy121_2 vy121_3 uy121_0 uy121_1 uy121_2 : Value), w = s.w ∧ e = upd (upd (upd e0 0 w0_0) 2 (pB b2)) 4 (pB b4) ∧ Kp s0 s ∧ OwF Xx s [vy121_0] y121.2.2.2.2.1 49 ∧ OwF Xx s [vy121_1] y121.2.2.2.2.2.2.2.2.1 53 ∧ OwF Xx s [vy121_2] y121.2.2.2.2.2.2.2.2.2.2.2.2.1 51 ∧ OwF (Kd.sl 4 Kd.bool) s [vy121_3] y121.2.2.2.2.2.2.2.2.2.2.2.2.2 58 ∧ FL uy121_0 y121.2.2.2.1 ∧ FL uy121_1 y121.2.2.2.2.2.2.2.1 ∧ FL uy121_2 y121.2.2.2.2.2.2.2.2.2.2.2.1 ∧ BlF s b4 35 [(iI x21.2), (iI y88.2), (iI 0), (iI y121.1), (iI y121.2.1), (iI y121.2.2.1), uy121_0, vy121_0, (iI y121.2.2.2.2.2.1), (iI y121.2.2.2.2.2.2.1), uy121_1, vy121_1, (iI y121.2.2.2.2.2.2.2.2.2.1), (iI y121.2.2.2.2.2.2.2.2.2.2.1), uy121_2, vy121_2, vy121_3] 41 ∧ BlF s b2 35 [(iI 0), (iI 0), (iI 0), (iI 0), (iI 0), (iI 0), (.float .f64 0), (.slice none 0 0), (iI 0), (iI 0), (.float .f64 0), (.slice none 0 0), (iI 0), (iI 0), (.float .f64 0), (.slice none 0 0), (.slice none 0 0)] 40) (fun Gj121 Kj121 => ?_) ?_
  ·
   refine cd rfl (fun h122 => ?_) (fun h122 => ?_)
   ·
    refine rg (Xb rfl (ixp Cy116_71.rd u73 z22 rfl rfl rfl rfl rfl rfl rfl rfl (fun ad123 es123 h0_123 h1_123 he123 ce123 ia123 => ?_)))
    replace he123 := rw_sharp Cy116_71 h0_123 h1_123 ia123 ce123 he123
    obtain ⟨v123, rfl, he123'⟩ := he123
    have A123 : RdF Xx s118 [v123] (at_ x65.2 y88.1) [46, 43] := ⟨v123, rfl, he123'⟩
    refine lc0' ce123 u22 rfl (cl' rfl func48 rfl (spec_ItemRead.calls (at_ x65.2 y88.1) s118.w (mm [46, 43] s118) v123 A123) ?_)
    rintro r126 _ w126 m126 ⟨v126_0, v126_1, rfl, f126_0, ky126⟩
    obtain ⟨s127, rfl, p127, n127⟩ := nwx s118 w126 50 ky126
    obtain ⟨hu126_0_0, Au126_0_1⟩ := ap26 (f126_0.c n127)
    refine Xb rfl (Xb (v := (.agg #[(iI r126.1.Kind), (iI r126.1.N), v126_0, v126_1])) rfl (Xb (v := (.bool r126.2)) rfl (Xs fa35_4 rfl ?_)))
    refine sva' (vs := [(iI r126.1.Kind), (iI r126.1.N), v126_0, v126_1]) (By116_b4.st p127 rfl) z26 rfl (Xa rfl (Xa rfl (Xa (FL.one hu126_0_0) (Xa Au126_0_1.rd.one Xr)))) rfl (fun s130 p130 B130 => ?_)
    replace B130 : BlF s130 b4 35 [(iI x21.2), (iI y88.2), (iI 0), (iI 0), (iI r126.1.Kind), (iI r126.1.N), v126_0, v126_1, (iI 0), (iI 0), (.float .f64 0), (.slice none 0 0), (iI 0), (iI 0), (.float .f64 0), (.slice none 0 0), (.slice none 0 0)] 41 := B130
    refine dn ?_
    obtain ⟨s133, hw133, p133, A133⟩ := (Au126_0_1.st p130 rfl).rc 49 rfl
    rw [hw133]
    exact Kj121 _ _ _ ⟨s133, _, v126_1, (.slice none 0 0), (.slice none 0 0), (.slice none 0 0), v126_0, (.float .f64 0), (.float .f64 0), rfl, (ue (ue (ue rfl rfl) rfl) rfl), (Ky116.st (tr3 p127 p130 p133) rfl), A133, (Xk 5 (Kd.int .u8) _ 53), (Xk 5 (Kd.int .u8) _ 51), (Xk 4 Kd.bool _ 58), hu126_0_0, (Xl rfl), (Xl rfl), (B130.st p133 rfl), (By116_b2.st (tr3 p127 p130 p133) rfl)⟩
   refine sr (Xb rfl (Xb rfl (dn (jc (fun (y137 : Int × Int × Int × Nat × (List Int) × Int × Int × Nat × (List Int) × Int × Int × Nat × (List Int) × (List Bool)) e w => ∃ (s : St) (e0 : Env) (vy137_0 vy137_1 vy137_2 vy137_3 uy137_0 uy137_1 uy137_2 : Value), w = s.w ∧ e = upd (upd (upd e0 0 w0_0) 2 (pB b2)) 4 (pB b4) ∧ Kp s0 s ∧ OwF Xx s [vy137_0] y137.2.2.2.2.1 51 ∧ OwF Xx s [vy137_1] y137.2.2.2.2.2.2.2.2.1 54 ∧ OwF Xx s [vy137_2] y137.2.2.2.2.2.2.2.2.2.2.2.2.1 52 ∧ OwF (Kd.sl 4 Kd.bool) s [vy137_3] y137.2.2.2.2.2.2.2.2.2.2.2.2.2 59 ∧ FL uy137_0 y137.2.2.2.1 ∧ FL uy137_1 y137.2.2.2.2.2.2.2.1 ∧ FL uy137_2 y137.2.2.2.2.2.2.2.2.2.2.2.1 ∧ BlF s b4 35 [(iI x21.2), (iI y88.2), (iI 0), (iI y137.1), (iI y137.2.1), (iI y137.2.2.1), uy137_0, vy137_0, (iI y137.2.2.2.2.2.1), (iI y137.2.2.2.2.2.2.1), uy137_1, vy137_1, (iI y137.2.2.2.2.2.2.2.2.2.1), (iI y137.2.2.2.2.2.2.2.2.2.2.1), uy137_2, vy137_2, vy137_3] 41 ∧ BlF s b2 35 [(iI 0), (iI 0), (iI 0), (iI 0), (iI 0), (iI 0), (.float .f64 0), (.slice none 0 0), (iI 0), (iI 0), (.float .f64 0), (.slice none 0 0), (iI 0), (iI 0), (.float .f64 0), (.slice none 0 0), (.slice none 0 0)] 40) (fun Gj137 Kj137 => ?_) ?_))))
   ·
    refine cd rfl (fun h138 => ?_) (fun h138 => ?_)
    ·
     refine sr (Xb rfl (ixp Cy116_71.rd u73 z22 rfl rfl rfl rfl rfl rfl rfl rfl (fun ad139 es139 h0_139 h1_139 he139 ce139 ia139 => ?_)))
     replace he139 := rw_sharp Cy116_71 h0_139 h1_139 ia139 ce139 he139
     obtain ⟨v139, rfl, he139'⟩ := he139
     have A139 : RdF Xx s118 [v139] (at_ x65.2 y88.1) [46, 43] := ⟨v139, rfl, he139'⟩
     refine lc0' ce139 u22 rfl (cl' rfl func48 rfl (spec_ItemRead.calls (at_ x65.2 y88.1) s118.w (mm [46, 43] s118) v139 A139) ?_)
     rintro r142 _ w142 m142 ⟨v142_0, v142_1, rfl, f142_0, ky142⟩
     obtain ⟨s143, rfl, p143, n143⟩ := nwx s118 w142 52 ky142
     obtain ⟨hu142_0_0, Au142_0_1⟩ := ap26 (f142_0.c n143)
     refine Xb rfl (Xb (v := (.agg #[(iI r142.1.Kind), (iI r142.1.N), v142_0, v142_1])) rfl (Xb (v := (.bool r142.2)) rfl (Xs fa35_4 rfl ?_)))
     refine sva' (vs := [(iI r142.1.Kind), (iI r142.1.N), v142_0, v142_1]) (By116_b4.st p143 rfl) z26 rfl (Xa rfl (Xa rfl (Xa (FL.one hu142_0_0) (Xa Au142_0_1.rd.one Xr)))) rfl (fun s146 p146 B146 => ?_)
     replace B146 : BlF s146 b4 35 [(iI x21.2), (iI y88.2), (iI 0), (iI 0), (iI r142.1.Kind), (iI r142.1.N), v142_0, v142_1, (iI 0), (iI 0), (.float .f64 0), (.slice none 0 0), (iI 0), (iI 0), (.float .f64 0), (.slice none 0 0), (.slice none 0 0)] 41 := B146
     refine dn (rg (Xb rfl (Xb rfl ?_)))
     have A148 := Cy116_71.st (Xo p143 p146) rfl rfl
     refine ixp A148.rd u73 z22 rfl rfl rfl rfl rfl rfl rfl rfl (fun ad149 es149 h0_149 h1_149 he149 ce149 ia149 => ?_)
     replace he149 := rw_sharp A148 h0_149 h1_149 ia149 ce149 he149
     obtain ⟨v149, rfl, he149'⟩ := he149
     have A149 : RdF Xx s146 [v149] (at_ x65.2 (IntKind.wrap .i64 (y88.1 + (1 : Int)))) [46, 43] := ⟨v149, rfl, he149'⟩
     refine lc0' ce149 u22 rfl (cl' rfl func48 rfl (spec_ItemRead.calls (at_ x65.2 (IntKind.wrap .i64 (y88.1 + (1 : Int)))) s146.w (mm [46, 43] s146) v149 A149) ?_)
     rintro r152 _ w152 m152 ⟨v152_0, v152_1, rfl, f152_0, ky152⟩
     obtain ⟨s153, rfl, p153, n153⟩ := nwx s146 w152 53 ky152
     obtain ⟨hu152_0_0, Au152_0_1⟩ := ap26 (f152_0.c n153)
     refine Xb rfl (Xb (v := (.agg #[(iI r152.1.Kind), (iI r152.1.N), v152_0, v152_1])) rfl (Xb (v := (.bool r152.2)) rfl (Xs fa35_6 rfl ?_)))
     refine sva' (vs := [(iI r152.1.Kind), (iI r152.1.N), v152_0, v152_1]) (B146.st p153 rfl) z26 rfl (Xa rfl (Xa rfl (Xa (FL.one hu152_0_0) (Xa Au152_0_1.rd.one Xr)))) rfl (fun s156 p156 B156 => ?_)
     replace B156 : BlF s156 b4 35 [(iI x21.2), (iI y88.2), (iI 0), (iI 0), (iI r142.1.Kind), (iI r142.1.N), v142_0, v142_1, (iI 0), (iI 0), (.float .f64 0), (.slice none 0 0), (iI r152.1.Kind), (iI r152.1.N), v152_0, v152_1, (.slice none 0 0)] 41 := B156
     refine dn ?_
     obtain ⟨s159, hw159, p159, A159⟩ := (Au142_0_1.st (tr3 p146 p153 p156) rfl).rc 51 rfl
     rw [hw159]
     obtain ⟨s161, hw161, p161, A161⟩ := (Au152_0_1.st (Xo p156 p159) rfl).rc 52 rfl
     rw [hw161]
     exact Kj137 _ _ _ ⟨s161, _, v142_1, (.slice none 0 0), v152_1, (.slice none 0 0), v142_0, (.float .f64 0), v152_0, rfl, (ue (ue (ue rfl rfl) rfl) rfl), (Ky116.st (tr6 p143 p146 p153 p156 p159 p161) rfl), (A159.st p161 rfl), (Xk 5 (Kd.int .u8) _ 54), A161, (Xk 4 Kd.bool _ 59), hu142_0_0, (Xl rfl), hu152_0_0, (B156.st (Xo p159 p161) rfl), (By116_b2.st (tr6 p143 p146 p153 p156 p159 p161) rfl)⟩
    refine sr (Xb rfl (Xb rfl (dn (jc (fun (y166 : Int × Int × Int × Nat × (List Int) × Int × Int × Nat × (List Int) × (List Bool)) e w => ∃ (s : St) (e0 : Env) (vy166_0 vy166_1 vy166_2 uy166_0 uy166_1 : Value), w = s.w ∧ e = upd (upd (upd e0 0 w0_0) 2 (pB b2)) 4 (pB b4) ∧ Kp s0 s ∧ OwF Xx s [vy166_0] y166.2.2.2.2.1 54 ∧ OwF Xx s [vy166_1] y166.2.2.2.2.2.2.2.2.1 55 ∧ OwF (Kd.sl 4 Kd.bool) s [vy166_2] y166.2.2.2.2.2.2.2.2.2 60 ∧ FL uy166_0 y166.2.2.2.1 ∧ FL uy166_1 y166.2.2.2.2.2.2.2.1 ∧ BlF s b4 35 [(iI x21.2), (iI y88.2), (iI 0), (iI y166.1), (iI y166.2.1), (iI y166.2.2.1), uy166_0, vy166_0, (iI y166.2.2.2.2.2.1), (iI y166.2.2.2.2.2.2.1), uy166_1, vy166_1, (iI 0), (iI 0), (.float .f64 0), (.slice none 0 0), vy166_2] 41 ∧ BlF s b2 35 [(iI 0), (iI 0), (iI 0), (iI 0), (iI 0), (iI 0), (.float .f64 0), (.slice none 0 0), (iI 0), (iI 0), (.float .f64 0), (.slice none 0 0), (iI 0), (iI 0), (.float .f64 0), (.slice none 0 0), (.slice none 0 0)] 40) (fun Gj166 Kj166 => ?_) ?_))))
    ·
     refine cd rfl (fun h167 => ?_) (fun h167 => ?_)
     ·
      refine sr (Xb rfl (ixp Cy116_71.rd u73 z22 rfl rfl rfl rfl rfl rfl rfl rfl (fun ad168 es168 h0_168 h1_168 he168 ce168 ia168 => ?_)))
      replace he168 := rw_sharp Cy116_71 h0_168 h1_168 ia168 ce168 he168
      obtain ⟨v168, rfl, he168'⟩ := he168
      have A168 : RdF Xx s118 [v168] (at_ x65.2 y88.1) [46, 43] := ⟨v168, rfl, he168'⟩
      refine lc0' ce168 u22 rfl (cl' rfl func48 rfl (spec_ItemRead.calls (at_ x65.2 y88.1) s118.w (mm [46, 43] s118) v168 A168) ?_)
      rintro r171 _ w171 m171 ⟨v171_0, v171_1, rfl, f171_0, ky171⟩
      obtain ⟨s172, rfl, p172, n172⟩ := nwx s118 w171 56 ky171
      obtain ⟨hu171_0_0, Au171_0_1⟩ := ap26 (f171_0.c n172)
      refine Xb rfl (Xb (v := (.agg #[(iI r171.1.Kind), (iI r171.1.N), v171_0, v171_1])) rfl (Xb (v := (.bool r171.2)) rfl (Xs fa35_4 rfl ?_)))
      refine sva' (vs := [(iI r171.1.Kind), (iI r171.1.N), v171_0, v171_1]) (By116_b4.st p172 rfl) z26 rfl (Xa rfl (Xa rfl (Xa (FL.one hu171_0_0) (Xa Au171_0_1.rd.one Xr)))) rfl (fun s175 p175 B175 => ?_)
      replace B175 : BlF s175 b4 35 [(iI x21.2), (iI y88.2), (iI 0), (iI 0), (iI r171.1.Kind), (iI r171.1.N), v171_0, v171_1, (iI 0), (iI 0), (.float .f64 0), (.slice none 0 0), (iI 0), (iI 0), (.float .f64 0), (.slice none 0 0), (.slice none 0 0)] 41 := B175
      refine dn (sr (Xb rfl (Xb rfl ?_)))
      have A177 := Cy116_71.st (Xo p172 p175) rfl rfl
      refine ixp A177.rd u73 z22 rfl rfl rfl rfl rfl rfl rfl rfl (fun ad178 es178 h0_178 h1_178 he178 ce178 ia178 => ?_)
      replace he178 := rw_sharp A177 h0_178 h1_178 ia178 ce178 he178
      obtain ⟨v178, rfl, he178'⟩ := he178
      have A178 : RdF Xx s175 [v178] (at_ x65.2 (IntKind.wrap .i64 (y88.1 + (1 : Int)))) [46, 43] := ⟨v178, rfl, he178'⟩
      refine lc0' ce178 u22 rfl (cl' rfl func48 rfl (spec_ItemRead.calls (at_ x65.2 (IntKind.wrap .i64 (y88.1 + (1 : Int)))) s175.w (mm [46, 43] s175) v178 A178) ?_)
      rintro r181 _ w181 m181 ⟨v181_0, v181_1, rfl, f181_0, ky181⟩
      obtain ⟨s182, rfl, p182, n182⟩ := nwx s175 w181 57 ky181
      obtain ⟨hu181_0_0, Au181_0_1⟩ := ap26 (f181_0.c n182)
      refine Xb rfl (Xb (v := (.agg #[(iI r181.1.Kind), (iI r181.1.N), v181_0, v181_1])) rfl (Xb (v := (.bool r181.2)) rfl (Xs fa35_5 rfl ?_)))
      refine sva' (vs := [(iI r181.1.Kind), (iI r181.1.N), v181_0, v181_1]) (B175.st p182 rfl) z26 rfl (Xa rfl (Xa rfl (Xa (FL.one hu181_0_0) (Xa Au181_0_1.rd.one Xr)))) rfl (fun s185 p185 B185 => ?_)
      replace B185 : BlF s185 b4 35 [(iI x21.2), (iI y88.2), (iI 0), (iI 0), (iI r171.1.Kind), (iI r171.1.N), v171_0, v171_1, (iI r181.1.Kind), (iI r181.1.N), v181_0, v181_1, (iI 0), (iI 0), (.float .f64 0), (.slice none 0 0), (.slice none 0 0)] 41 := B185
      refine dn (rg (Xb rfl (Xb rfl ?_)))
      have A187 := A177.st (Xo p182 p185) rfl rfl
      refine ixp A187.rd u73 z22 rfl rfl rfl rfl rfl rfl rfl rfl (fun ad188 es188 h0_188 h1_188 he188 ce188 ia188 => ?_)
      replace he188 := rw_sharp A187 h0_188 h1_188 ia188 ce188 he188
      obtain ⟨v188, rfl, he188'⟩ := he188
      have A188 : RdF Xx s185 [v188] (at_ x65.2 (IntKind.wrap .i64 (y88.1 + (2 : Int)))) [46, 43] := ⟨v188, rfl, he188'⟩
      refine lc0' ce188 u22 rfl (clV 58 rfl func47 rfl (spec_l18number.calls (at_ x65.2 (IntKind.wrap .i64 (y88.1 + (2 : Int)))) s185.w (mm [46, 43] s185) v188 A188) (fun r191 s192 p192 n192 => ?_))
      refine Xb rfl (Xb (v := (iI r191.1)) rfl (Xb (v := (.bool r191.2)) rfl (Xs fa35_3 rfl ?_)))
      refine sv (B185.st p192 rfl) z3 rfl rfl rfl rfl rfl rfl rfl rfl (fun s194 p194 B194 => ?_)
      replace B194 : BlF s194 b4 35 [(iI x21.2), (iI y88.2), (iI 0), (iI r191.1), (iI r171.1.Kind), (iI r171.1.N), v171_0, v171_1, (iI r181.1.Kind), (iI r181.1.N), v181_0, v181_1, (iI 0), (iI 0), (.float .f64 0), (.slice none 0 0), (.slice none 0 0)] 41 := B194
      refine dn ?_
      obtain ⟨s197, hw197, p197, A197⟩ := (Au171_0_1.st (tr5 p175 p182 p185 p192 p194) rfl).rc 54 rfl
      rw [hw197]
      obtain ⟨s199, hw199, p199, A199⟩ := (Au181_0_1.st (tr4 p185 p192 p194 p197) rfl).rc 55 rfl
      rw [hw199]
      exact Kj166 _ _ _ ⟨s199, _, v171_1, v181_1, (.slice none 0 0), v171_0, v181_0, rfl, (ue (ue (ue rfl rfl) rfl) rfl), (Ky116.st (tr8 p172 p175 p182 p185 p192 p194 p197 p199) rfl), (A197.st p199 rfl), A199, (Xk 4 Kd.bool _ 60), hu171_0_0, hu181_0_0, (B194.st (Xo p197 p199) rfl), (By116_b2.st (tr8 p172 p175 p182 p185 p192 p194 p197 p199) rfl)⟩
     refine sr (Xb rfl (Xb rfl (dn (jc (fun (y204 : Int × Int × Int × Nat × (List Int) × Int × Int × Nat × (List Int) × (List Bool)) e w => ∃ (s : St) (e0 : Env) (vy204_0 vy204_1 vy204_2 uy204_0 uy204_1 : Value), w = s.w ∧ e = upd (upd (upd e0 0 w0_0) 2 (pB b2)) 4 (pB b4) ∧ Kp s0 s ∧ OwF Xx s [vy204_0] y204.2.2.2.2.1 59 ∧ OwF Xx s [vy204_1] y204.2.2.2.2.2.2.2.2.1 60 ∧ OwF (Kd.sl 4 Kd.bool) s [vy204_2] y204.2.2.2.2.2.2.2.2.2 62 ∧ FL uy204_0 y204.2.2.2.1 ∧ FL uy204_1 y204.2.2.2.2.2.2.2.1 ∧ BlF s b4 35 [(iI x21.2), (iI y88.2), (iI 0), (iI y204.1), (iI y204.2.1), (iI y204.2.2.1), uy204_0, vy204_0, (iI y204.2.2.2.2.2.1), (iI y204.2.2.2.2.2.2.1), uy204_1, vy204_1, (iI 0), (iI 0), (.float .f64 0), (.slice none 0 0), vy204_2] 41 ∧ BlF s b2 35 [(iI 0), (iI 0), (iI 0), (iI 0), (iI 0), (iI 0), (.float .f64 0), (.slice none 0 0), (iI 0), (iI 0), (.float .f64 0), (.slice none 0 0), (iI 0), (iI 0), (.float .f64 0), (.slice none 0 0), (.slice none 0 0)] 40) (fun Gj204 Kj204 => ?_) ?_))))
     ·
      refine cd rfl (fun h205 => ?_) (fun h205 => ?_)
      ·
       refine sr (Xb rfl (ixp Cy116_71.rd u73 z22 rfl rfl rfl rfl rfl rfl rfl rfl (fun ad206 es206 h0_206 h1_206 he206 ce206 ia206 => ?_)))
       replace he206 := rw_sharp Cy116_71 h0_206 h1_206 ia206 ce206 he206
       obtain ⟨v206, rfl, he206'⟩ := he206
       have A206 : RdF Xx s118 [v206] (at_ x65.2 y88.1) [46, 43] := ⟨v206, rfl, he206'⟩
       refine lc0' ce206 u22 rfl (cl' rfl func48 rfl (spec_ItemRead.calls (at_ x65.2 y88.1) s118.w (mm [46, 43] s118) v206 A206) ?_)
       rintro r209 _ w209 m209 ⟨v209_0, v209_1, rfl, f209_0, ky209⟩
       obtain ⟨s210, rfl, p210, n210⟩ := nwx s118 w209 59 ky209
       obtain ⟨hu209_0_0, Au209_0_1⟩ := ap26 (f209_0.c n210)
       refine Xb rfl (Xb (v := (.agg #[(iI r209.1.Kind), (iI r209.1.N), v209_0, v209_1])) rfl (Xb (v := (.bool r209.2)) rfl (Xs fa35_4 rfl ?_)))
       refine sva' (vs := [(iI r209.1.Kind), (iI r209.1.N), v209_0, v209_1]) (By116_b4.st p210 rfl) z26 rfl (Xa rfl (Xa rfl (Xa (FL.one hu209_0_0) (Xa Au209_0_1.rd.one Xr)))) rfl (fun s213 p213 B213 => ?_)
       replace B213 : BlF s213 b4 35 [(iI x21.2), (iI y88.2), (iI 0), (iI 0), (iI r209.1.Kind), (iI r209.1.N), v209_0, v209_1, (iI 0), (iI 0), (.float .f64 0), (.slice none 0 0), (iI 0), (iI 0), (.float .f64 0), (.slice none 0 0), (.slice none 0 0)] 41 := B213
       refine dn (rg (Xb rfl (Xb rfl ?_)))
       have A215 := Cy116_71.st (Xo p210 p213) rfl rfl
       refine ixp A215.rd u73 z22 rfl rfl rfl rfl rfl rfl rfl rfl (fun ad216 es216 h0_216 h1_216 he216 ce216 ia216 => ?_)
       replace he216 := rw_sharp A215 h0_216 h1_216 ia216 ce216 he216
       obtain ⟨v216, rfl, he216'⟩ := he216
       have A216 : RdF Xx s213 [v216] (at_ x65.2 (IntKind.wrap .i64 (y88.1 + (1 : Int)))) [46, 43] := ⟨v216, rfl, he216'⟩
       refine lc0' ce216 u22 rfl (cl' rfl func48 rfl (spec_ItemRead.calls (at_ x65.2 (IntKind.wrap .i64 (y88.1 + (1 : Int)))) s213.w (mm [46, 43] s213) v216 A216) ?_)
       rintro r219 _ w219 m219 ⟨v219_0, v219_1, rfl, f219_0, ky219⟩
       obtain ⟨s220, rfl, p220, n220⟩ := nwx s213 w219 60 ky219
       obtain ⟨hu219_0_0, Au219_0_1⟩ := ap26 (f219_0.c n220)
       refine Xb rfl (Xb (v := (.agg #[(iI r219.1.Kind), (iI r219.1.N), v219_0, v219_1])) rfl (Xb (v := (.bool r219.2)) rfl (Xs fa35_5 rfl ?_)))
       refine sva' (vs := [(iI r219.1.Kind), (iI r219.1.N), v219_0, v219_1]) (B213.st p220 rfl) z26 rfl (Xa rfl (Xa rfl (Xa (FL.one hu219_0_0) (Xa Au219_0_1.rd.one Xr)))) rfl (fun s223 p223 B223 => ?_)
       replace B223 : BlF s223 b4 35 [(iI x21.2), (iI y88.2), (iI 0), (iI 0), (iI r209.1.Kind), (iI r209.1.N), v209_0, v209_1, (iI r219.1.Kind), (iI r219.1.N), v219_0, v219_1, (iI 0), (iI 0), (.float .f64 0), (.slice none 0 0), (.slice none 0 0)] 41 := B223
       exact dn (Kj204 _ _ _ ⟨s223, _, v209_1, v219_1, (.slice none 0 0), v209_0, v219_0, rfl, (ue (ue (ue rfl rfl) rfl) rfl), (Ky116.st (tr4 p210 p213 p220 p223) rfl), (Au209_0_1.st (tr3 p213 p220 p223) rfl), (Au219_0_1.st p223 rfl), (Xk 4 Kd.bool _ 62), hu209_0_0, hu219_0_0, B223, (By116_b2.st (tr4 p210 p213 p220 p223) rfl)⟩)
      refine sq (sr (Xb rfl (Xb rfl (dn (jc (fun (y229 : Bool) e w => ∃ (s : St) (e0 : Env), w = s.w ∧ e = upd (upd (upd (upd (upd (upd (upd e0 0 w0_0) 2 (pB b2)) 4 (pB b4)) 8 (pB b61)) 10 (iI y88.1)) 63 (iI x21.2)) 151 (.bool y229) ∧ Kp s0 s ∧ BlF s b4 35 [(iI x21.2), (iI y88.2), (iI 0), (iI 0), (iI 0), (iI 0), (.float .f64 0), (.slice none 0 0), (iI 0), (iI 0), (.float .f64 0), (.slice none 0 0), (iI 0), (iI 0), (.float .f64 0), (.slice none 0 0), (.slice none 0 0)] 41 ∧ BlF s b2 35 [(iI 0), (iI 0), (iI 0), (iI 0), (iI 0), (iI 0), (.float .f64 0), (.slice none 0 0), (iI 0), (iI 0), (.float .f64 0), (.slice none 0 0), (iI 0), (iI 0), (.float .f64 0), (.slice none 0 0), (.slice none 0 0)] 40 ∧ RwF 73 Xx s (.slice (some ⟨b61, 0, none⟩) 5 5) x65.2 45 [46, 43]) (fun Gj229 Kj229 => ?_) ?_)))))
      ·
       refine cd rfl (fun h230 => ?_) (fun h230 => ?_)
       ·
        exact sk (Kj229 _ _ _ ⟨s118, _, rfl, (ue (ue (ue (ue (ue (ue (ue rfl rfl) rfl) rfl) rfl) rfl) rfl) rfl), Ky116, By116_b4, By116_b2, Cy116_71⟩)
       exact rg (Xb rfl (Xb rfl (dn (Kj229 _ _ _ ⟨s118, _, rfl, (ue (ue (ue (ue (ue (ue (ue rfl rfl) rfl) rfl) rfl) rfl) rfl) rfl), Ky116, By116_b4, By116_b2, Cy116_71⟩))))
      rintro y229 _ _ ⟨s231, _, rfl, rfl, Ky229, By229_b4, By229_b2, Cy229_71⟩
      refine jc (fun (y234 : Int × (List Bool)) e w => ∃ (s : St) (e0 : Env) (vy234_0 : Value), w = s.w ∧ e = upd (upd (upd e0 0 w0_0) 2 (pB b2)) 4 (pB b4) ∧ Kp s0 s ∧ OwF (Kd.sl 4 Kd.bool) s [vy234_0] y234.2 62 ∧ BlF s b4 35 [(iI x21.2), (iI y88.2), (iI 0), (iI y234.1), (iI 0), (iI 0), (.float .f64 0), (.slice none 0 0), (iI 0), (iI 0), (.float .f64 0), (.slice none 0 0), (iI 0), (iI 0), (.float .f64 0), (.slice none 0 0), vy234_0] 41 ∧ BlF s b2 35 [(iI 0), (iI 0), (iI 0), (iI 0), (iI 0), (iI 0), (.float .f64 0), (.slice none 0 0), (iI 0), (iI 0), (.float .f64 0), (.slice none 0 0), (iI 0), (iI 0), (.float .f64 0), (.slice none 0 0), (.slice none 0 0)] 40) (fun Gj234 Kj234 => ?_) ?_
      ·
       refine cd rfl (fun h235 => ?_) (fun h235 => ?_)
       ·
        refine rg (Xb rfl (ixp Cy229_71.rd u73 z22 rfl rfl rfl rfl rfl rfl rfl rfl (fun ad236 es236 h0_236 h1_236 he236 ce236 ia236 => ?_)))
        replace he236 := rw_sharp Cy229_71 h0_236 h1_236 ia236 ce236 he236
        obtain ⟨v236, rfl, he236'⟩ := he236
        have A236 : RdF Xx s231 [v236] (at_ x65.2 y88.1) [46, 43] := ⟨v236, rfl, he236'⟩
        refine lc0' ce236 u22 rfl (clV 61 rfl func47 rfl (spec_l18number.calls (at_ x65.2 y88.1) s231.w (mm [46, 43] s231) v236 A236) (fun r239 s240 p240 n240 => ?_))
        refine Xb rfl (Xb (v := (iI r239.1)) rfl (Xb (v := (.bool r239.2)) rfl (Xs fa35_3 rfl ?_)))
        refine sv (By229_b4.st p240 rfl) z3 rfl rfl rfl rfl rfl rfl rfl rfl (fun s242 p242 B242 => ?_)
        replace B242 : BlF s242 b4 35 [(iI x21.2), (iI y88.2), (iI 0), (iI r239.1), (iI 0), (iI 0), (.float .f64 0), (.slice none 0 0), (iI 0), (iI 0), (.float .f64 0), (.slice none 0 0), (iI 0), (iI 0), (.float .f64 0), (.slice none 0 0), (.slice none 0 0)] 41 := B242
        exact dn (Kj234 _ _ _ ⟨s242, _, (.slice none 0 0), rfl, (ue (ue (ue rfl rfl) rfl) rfl), (Ky229.st (Xo p240 p242) rfl), (Xk 4 Kd.bool _ 62), B242, (By229_b2.st (Xo p240 p242) rfl)⟩)
       refine sr (Xb rfl (Xb rfl (dn (jc (fun (y246 : (List Bool)) e w => ∃ (s : St) (e0 : Env) (vy246_0 : Value), w = s.w ∧ e = upd (upd (upd e0 0 w0_0) 2 (pB b2)) 4 (pB b4) ∧ Kp s0 s ∧ OwF (Kd.sl 4 Kd.bool) s [vy246_0] y246 62 ∧ BlF s b4 35 [(iI x21.2), (iI y88.2), (iI 0), (iI 0), (iI 0), (iI 0), (.float .f64 0), (.slice none 0 0), (iI 0), (iI 0), (.float .f64 0), (.slice none 0 0), (iI 0), (iI 0), (.float .f64 0), (.slice none 0 0), vy246_0] 41 ∧ BlF s b2 35 [(iI 0), (iI 0), (iI 0), (iI 0), (iI 0), (iI 0), (.float .f64 0), (.slice none 0 0), (iI 0), (iI 0), (.float .f64 0), (.slice none 0 0), (iI 0), (iI 0), (.float .f64 0), (.slice none 0 0), (.slice none 0 0)] 40) (fun Gj246 Kj246 => ?_) ?_))))
       ·
        refine cd rfl (fun h247 => ?_) (fun h247 => ?_)
        ·
         refine sr (Xb rfl (dn (bl (lpI (fun (x248 : Int × (List Bool)) e w => ∃ (s : St) (e0 : Env) (vx248_0 : Value), w = s.w ∧ e = upd (upd (upd (upd (upd (upd e0 0 w0_0) 2 (pB b2)) 4 (pB b4)) 8 (pB b61)) 10 (iI y88.1)) 11 (iI x248.1) ∧ Kp s0 s ∧ OwF (Kd.sl 4 Kd.bool) s [vx248_0] x248.2 62 ∧ BlF s b4 35 [(iI x21.2), (iI y88.2), (iI 0), (iI 0), (iI 0), (iI 0), (.float .f64 0), (.slice none 0 0), (iI 0), (iI 0), (.float .f64 0), (.slice none 0 0), (iI 0), (iI 0), (.float .f64 0), (.slice none 0 0), vx248_0] 41 ∧ BlF s b2 35 [(iI 0), (iI 0), (iI 0), (iI 0), (iI 0), (iI 0), (.float .f64 0), (.slice none 0 0), (iI 0), (iI 0), (.float .f64 0), (.slice none 0 0), (iI 0), (iI 0), (.float .f64 0), (.slice none 0 0), (.slice none 0 0)] 40 ∧ RwF 73 Xx s (.slice (some ⟨b61, 0, none⟩) 5 5) x65.2 45 [46, 43]) ⟨s231, _, (.slice none 0 0), rfl, (ue (ue (ue (ue (ue (ue rfl rfl) rfl) rfl) rfl) rfl) rfl), Ky229, (Xk 4 Kd.bool _ 62), By229_b4, By229_b2, Cy229_71⟩ (fun g248 ih248 => ?_)))))
         rintro x248 _ _ ⟨s249, _, vx248_0, rfl, rfl, Kx248, Ax248_0, Bx248_b4, Bx248_b2, Cx248_71⟩
         unfold spec_OpRead.b2
         refine sq (sr (Xb rfl (Xb rfl (ixp Cx248_71.rd u73 z22 rfl rfl rfl rfl rfl rfl rfl rfl (fun ad253 es253 h0_253 h1_253 he253 ce253 ia253 => ?_)))))
         replace he253 := rw_sharp Cx248_71 h0_253 h1_253 ia253 ce253 he253
         obtain ⟨v253, rfl, he253'⟩ := he253
         have A253 : RdF Xx s249 [v253] (at_ x65.2 y88.1) [46, 43] := ⟨v253, rfl, he253'⟩
         refine lc0' ce253 u22 rfl (ln' A253 u22 rfl (Xb rfl (dn (cd rfl (fun h256 => ?_) (fun h256 => ?_)))))
         ·
          refine sk (sq (bl (zdraw [[], [0], [], [2], [3], [], [4, 5], [6], [7], [8], [1, 9], [0, 1, 2, 3, 4, 5, 6, 7, 8, 9, 10], [11, 10, 10, 0, 1, 2, 3, 4, 5, 6, 7, 8, 9, 10]] [some 172, some 173, some 174, some 175, some 176, some 177, some 178, some 179, some 180, some 181, some 182, some 183, none] [[4], [172], [10], [8, 174], [175], [11], [176, 177], [178], [179], [180], [173, 181], [4], [183, 182]] [0, 1, 2, 3, 4, 5, 6, 7, 8, 9, 10, 11, 12] ⟨by kernel_rfl, by kernel_rfl, by kernel_rfl⟩ (by kernel_rfl) (fun s257 p257 l257 tb257 zd257 => ?_))))
          refine zstep 3 [some 177, some 173, some 172] tb257 ((((zd257.add 0 172 (pO b4 16) rfl).add 1 173 vx248_0 rfl).add 2 174 (iI y88.1) rfl).add 5 177 (iI x248.1) rfl) (Xc (pu_q' rfl) rfl (Xc (pu_q' rfl) rfl (Xc (ld_q (Bx248_b4.st p257 rfl) u33 rfl rfl rfl rfl rfl rfl rfl rfl) rfl (Xc (fa_q fa35_7 rfl rfl rfl rfl rfl rfl) rfl Xt)))) (by kernel_rfl) rfl (fun l263 e263 zd263 => ?_)
          have A265 := Cx248_71.st p257 rfl rfl
          refine ixp A265.rd u73 z22 rfl rfl rfl rfl rfl rfl rfl rfl (fun ad266 es266 h0_266 h1_266 he266 ce266 ia266 => ?_)
          replace he266 := rw_sharp A265 h0_266 h1_266 ia266 ce266 he266
          obtain ⟨v266, rfl, he266'⟩ := he266
          have A266 : RdF Xx s257 [v266] (at_ x65.2 y88.1) [46, 43] := ⟨v266, rfl, he266'⟩
          refine zdone (L' := [5, 1, 0]) (D' := [2, 3]) zd263 rfl rfl rfl (fun zd269 => ?_)
          refine mg fun hg271 => ?_
          obtain ⟨ad271, es271, he271, ce271, ia271⟩ := ix_e A266 rfl hg271.1 hg271.2
          obtain rfl := he271
          refine zstep 9 [some 173, some 172] tb257 ((((zd269.add 4 176 v266 rfl).add 6 178 (.pointer (some ad271)) rfl).add 7 179 (.int .u8 (at_ (at_ x65.2 y88.1) x248.1)) rfl).add 8 180 (.bool ((at_ (at_ x65.2 y88.1) x248.1) == (49 : Int))) rfl) (Xc (pu_q' rfl) rfl (Xc (lc0_q ce271 u5 rfl rfl rfl rfl rfl rfl rfl rfl) rfl (Xc (ix_q A266 u22 z5 hg271.1 hg271.2 ia271 rfl rfl rfl rfl rfl rfl rfl) rfl (Xc (lc0_q ce266 u22 rfl rfl rfl rfl rfl rfl rfl rfl) rfl (Xc (pu_q' rfl) rfl (Xc (ld_q (Bx248_b4.st p257 rfl) u33 rfl rfl rfl rfl rfl rfl rfl rfl) rfl (Xc (fa_q fa35_7 rfl rfl rfl rfl rfl rfl) rfl Xt))))))) (by kernel_rfl) rfl (fun l276 e276 zd276 => ?_)
          refine ltF' (K := Kd.bool) (cells := [(.bool ((at_ (at_ x65.2 y88.1) x248.1) == (49 : Int)))]) [((at_ (at_ x65.2 y88.1) x248.1) == (49 : Int))] 63 fl_bool u33 z4 o4 (fun w => (Xj _ _ _)) rfl rfl (fun v278 s278 p278 A278 => ?_)
          refine zdone (L' := [1, 0]) (D' := [4, 5, 6, 7, 8, 9, 2, 3]) zd276 rfl rfl rfl (fun zd280 => ?_)
          refine zfin [10, 11, 12] tb257 zd280 (Xc (ld_q (Bx248_b4.st (Xo p257 p278) rfl) u33 rfl rfl rfl rfl rfl rfl rfl rfl) rfl (Xc (fa_q fa35_7 rfl rfl rfl rfl rfl rfl) rfl Xt)) (by kernel_rfl) (by decide) (apF' fl_bool sl33 (Ax248_0.st (Xo p257 p278) rfl) A278.rd rfl (fun v283 s283 p283 A283 => ?_))
          refine Xs fa35_7 rfl (sv (Bx248_b4.st (tr3 p257 p278 p283) rfl) z33 rfl rfl rfl rfl rfl rfl A283.rd.one rfl (fun s286 p286 B286 => ?_))
          replace B286 : BlF s286 b4 35 [(iI x21.2), (iI y88.2), (iI 0), (iI 0), (iI 0), (iI 0), (.float .f64 0), (.slice none 0 0), (iI 0), (iI 0), (.float .f64 0), (.slice none 0 0), (iI 0), (iI 0), (.float .f64 0), (.slice none 0 0), v283] 41 := B286
          refine dn (ib (rg (Xb rfl (Xb rfl (Xb rfl (dn ?_))))))
          exact lb ih248 ⟨s286, _, v283, rfl, (ue (ue (ue (ue (ue (ue rfl rfl) rfl) rfl) rfl) rfl) rfl), (Kx248.st (tr4 p257 p278 p283 p286) rfl), (A283.st p286 rfl), B286, (Bx248_b2.st (tr4 p257 p278 p283 p286) rfl), (A265.st (tr3 p278 p283 p286) rfl rfl)⟩
         exact xt rfl (sgb (Kj246 _ _ _ ⟨s249, _, vx248_0, rfl, (ue (ue (ue rfl rfl) rfl) rfl), Kx248, Ax248_0, Bx248_b4, Bx248_b2⟩))
        exact sk (Kj246 _ _ _ ⟨s231, _, (.slice none 0 0), rfl, (ue (ue (ue rfl rfl) rfl) rfl), Ky229, (Xk 4 Kd.bool _ 62), By229_b4, By229_b2⟩)
       rintro y246 _ _ ⟨s292, _, vy246_0, rfl, rfl, Ky246, Ay246_0, By246_b4, By246_b2⟩
       exact Kj234 _ _ _ ⟨s292, _, vy246_0, rfl, (ue (ue (ue rfl rfl) rfl) rfl), Ky246, Ay246_0, By246_b4, By246_b2⟩
      rintro y234 _ _ ⟨s296, _, vy234_0, rfl, rfl, Ky234, Ay234_0, By234_b4, By234_b2⟩
      exact Kj204 _ _ _ ⟨s296, _, (.slice none 0 0), (.slice none 0 0), vy234_0, (.float .f64 0), (.float .f64 0), rfl, (ue (ue (ue rfl rfl) rfl) rfl), Ky234, (Xk 5 (Kd.int .u8) _ 59), (Xk 5 (Kd.int .u8) _ 60), Ay234_0, (Xl rfl), (Xl rfl), By234_b4, By234_b2⟩
     rintro y204 _ _ ⟨s300, _, vy204_0, vy204_1, vy204_2, uy204_0, uy204_1, rfl, rfl, Ky204, Ay204_0, Ay204_1, Ay204_2, Fy204_0, Fy204_1, By204_b4, By204_b2⟩
     obtain ⟨s306, hw306, p306, A306⟩ := Ay204_0.rc 54 rfl
     rw [hw306]
     obtain ⟨s308, hw308, p308, A308⟩ := (Ay204_1.st p306 rfl).rc 55 rfl
     rw [hw308]
     obtain ⟨s310, hw310, p310, A310⟩ := (Ay204_2.st (Xo p306 p308) rfl).rc 60 rfl
     rw [hw310]
     exact Kj166 _ _ _ ⟨s310, _, vy204_0, vy204_1, vy204_2, uy204_0, uy204_1, rfl, (ue (ue (ue rfl rfl) rfl) rfl), (Ky204.st (tr3 p306 p308 p310) rfl), (A306.st (Xo p308 p310) rfl), (A308.st p310 rfl), A310, Fy204_0, Fy204_1, (By204_b4.st (tr3 p306 p308 p310) rfl), (By204_b2.st (tr3 p306 p308 p310) rfl)⟩
    rintro y166 _ _ ⟨s316, _, vy166_0, vy166_1, vy166_2, uy166_0, uy166_1, rfl, rfl, Ky166, Ay166_0, Ay166_1, Ay166_2, Fy166_0, Fy166_1, By166_b4, By166_b2⟩
    obtain ⟨s322, hw322, p322, A322⟩ := Ay166_0.rc 51 rfl
    rw [hw322]
    obtain ⟨s324, hw324, p324, A324⟩ := (Ay166_1.st p322 rfl).rc 54 rfl
    rw [hw324]
    obtain ⟨s326, hw326, p326, A326⟩ := (Ay166_2.st (Xo p322 p324) rfl).rc 59 rfl
    rw [hw326]
    exact Kj137 _ _ _ ⟨s326, _, vy166_0, vy166_1, (.slice none 0 0), vy166_2, uy166_0, uy166_1, (.float .f64 0), rfl, (ue (ue (ue rfl rfl) rfl) rfl), (Ky166.st (tr3 p322 p324 p326) rfl), (A322.st (Xo p324 p326) rfl), (A324.st p326 rfl), (Xk 5 (Kd.int .u8) _ 52), A326, Fy166_0, Fy166_1, (Xl rfl), (By166_b4.st (tr3 p322 p324 p326) rfl), (By166_b2.st (tr3 p322 p324 p326) rfl)⟩
   rintro y137 _ _ ⟨s332, _, vy137_0, vy137_1, vy137_2, vy137_3, uy137_0, uy137_1, uy137_2, rfl, rfl, Ky137, Ay137_0, Ay137_1, Ay137_2, Ay137_3, Fy137_0, Fy137_1, Fy137_2, By137_b4, By137_b2⟩
   obtain ⟨s339, hw339, p339, A339⟩ := Ay137_0.rc 49 rfl
   rw [hw339]
   obtain ⟨s341, hw341, p341, A341⟩ := (Ay137_1.st p339 rfl).rc 53 rfl
   rw [hw341]
   obtain ⟨s343, hw343, p343, A343⟩ := (Ay137_2.st (Xo p339 p341) rfl).rc 51 rfl
   rw [hw343]
   obtain ⟨s345, hw345, p345, A345⟩ := (Ay137_3.st (tr3 p339 p341 p343) rfl).rc 58 rfl
   rw [hw345]
   exact Kj121 _ _ _ ⟨s345, _, vy137_0, vy137_1, vy137_2, vy137_3, uy137_0, uy137_1, uy137_2, rfl, (ue (ue (ue rfl rfl) rfl) rfl), (Ky137.st (tr4 p339 p341 p343 p345) rfl), (A339.st (tr3 p341 p343 p345) rfl), (A341.st (Xo p343 p345) rfl), (A343.st p345 rfl), A345, Fy137_0, Fy137_1, Fy137_2, (By137_b4.st (tr4 p339 p341 p343 p345) rfl), (By137_b2.st (tr4 p339 p341 p343 p345) rfl)⟩
  rintro y121 _ _ ⟨s352, _, vy121_0, vy121_1, vy121_2, vy121_3, uy121_0, uy121_1, uy121_2, rfl, rfl, Ky121, Ay121_0, Ay121_1, Ay121_2, Ay121_3, Fy121_0, Fy121_1, Fy121_2, By121_b4, By121_b2⟩
  exact Kj104 _ _ _ ⟨s352, _, vy121_0, vy121_1, vy121_2, vy121_3, uy121_0, uy121_1, uy121_2, rfl, (ue (ue (ue rfl rfl) rfl) rfl), Ky121, Ay121_0, Ay121_1, Ay121_2, Ay121_3, Fy121_0, Fy121_1, Fy121_2, By121_b4, By121_b2⟩
 rintro y104 _ _ ⟨s359, _, vy104_0, vy104_1, vy104_2, vy104_3, uy104_0, uy104_1, uy104_2, rfl, rfl, Ky104, Ay104_0, Ay104_1, Ay104_2, Ay104_3, Fy104_0, Fy104_1, Fy104_2, By104_b4, By104_b2⟩
 refine ib (sq (sq (zdraw [[], [0], [1], [2], [3], [4, 3, 3], [5, 3], [3], [7, 3], [6, 8, 3], [3, 9]] [some 184, some 185, some 186, some 187, some 188, some 189, some 190, some 191, some 192, some 193, some 194] [[4], [184], [185], [186], [4, 187], [188, 187], [189, 187], [0, 187], [191, 187], [190, 192, 187], [187, 193]] [0, 1, 2, 3, 4, 5, 6, 7, 8, 9, 10] ⟨by kernel_rfl, by kernel_rfl, by kernel_rfl⟩ (by kernel_rfl) (fun s366 p366 l366 tb366 zd366 => ?_))))
 have zd371 := (((zd366.add 0 184 (pB b4) rfl).add 1 185 (iI x21.2) rfl).add 2 186 (.bool (x21.2 == (0 : Int))) rfl).add 3 187 (.bool (x21.2 == (0 : Int))) rfl
 refine ji [] (fun (y372 : Bool) e w => ∃ (s : St) (e0 : Env), w = s.w ∧ e = upd (upd (upd e0 2 (pB b2)) 4 (pB b4)) 194 (.bool y372) ∧ Kp s0 s ∧ BlF s b4 35 [(iI x21.2), (iI y88.2), (iI y104.1), (iI y104.2.1), (iI y104.2.2.1), (iI y104.2.2.2.1), uy104_0, vy104_0, (iI y104.2.2.2.2.2.2.1), (iI y104.2.2.2.2.2.2.2.1), uy104_1, vy104_1, (iI y104.2.2.2.2.2.2.2.2.2.2.1), (iI y104.2.2.2.2.2.2.2.2.2.2.2.1), uy104_2, vy104_2, vy104_3] 41 ∧ BlF s b2 35 [(iI 0), (iI 0), (iI 0), (iI 0), (iI 0), (iI 0), (.float .f64 0), (.slice none 0 0), (iI 0), (iI 0), (.float .f64 0), (.slice none 0 0), (iI 0), (iI 0), (.float .f64 0), (.slice none 0 0), (.slice none 0 0)] 40 ∧ OwF Xx s [vy104_0] y104.2.2.2.2.2.1 49 ∧ OwF Xx s [vy104_1] y104.2.2.2.2.2.2.2.2.2.1 53 ∧ OwF Xx s [vy104_2] y104.2.2.2.2.2.2.2.2.2.2.2.2.2.1 51 ∧ OwF (Kd.sl 4 Kd.bool) s [vy104_3] y104.2.2.2.2.2.2.2.2.2.2.2.2.2.2 58) (fun Gj372 Kj372 => ?_) ?_
 ·
  rcases bft (x21.2 == (0 : Int)) with hb372 | hb372
  ·
   rw [if_pos hb372]
   rw [hb372] at zd371
   try rw [hb372]
   refine zfin [9, 10] tb366 (((((zd371.add 4 188 undef rfl).add 5 189 undef rfl).add 6 190 undef rfl).add 7 191 undef rfl).add 8 192 undef rfl) (Xc (uw_q rfl rfl rfl rfl rfl) rfl (Xc (uw_q rfl rfl rfl rfl rfl) rfl (Xc (uw_q rfl rfl rfl rfl rfl) rfl (Xc (uw_q rfl rfl rfl rfl rfl) rfl (Xc (uw_q rfl rfl rfl rfl rfl) rfl (Xc (pu_q' rfl) rfl (Xc (qv_b (pu_q' rfl) hb372) rfl (Xc (ld_q (By104_b4.st p366 rfl) u3 rfl rfl rfl rfl rfl rfl rfl rfl) rfl (Xc (fa_q fa35_0 rfl rfl rfl rfl rfl rfl) rfl Xt))))))))) (by kernel_rfl) (by decide) (Xi rfl (Xb rfl ?_))
   exact Kj372 _ _ _ ⟨s366, _, rfl, (ue (ue (ue rfl rfl) rfl) rfl), (Ky104.st p366 rfl), (By104_b4.st p366 rfl), (By104_b2.st p366 rfl), (Ay104_0.st p366 rfl), (Ay104_1.st p366 rfl), (Ay104_2.st p366 rfl), (Ay104_3.st p366 rfl)⟩
  rw [if_neg (by rw [hb372]; decide)]
  rw [hb372] at zd371
  try rw [hb372]
  refine zstep 5 [some 192, some 191] tb366 (((zd371.add 4 188 (.agg #[(iI x21.2), (iI y88.2), (iI y104.1), (iI y104.2.1), (iI y104.2.2.1), (iI y104.2.2.2.1), uy104_0, vy104_0, (iI y104.2.2.2.2.2.2.1), (iI y104.2.2.2.2.2.2.2.1), uy104_1, vy104_1, (iI y104.2.2.2.2.2.2.2.2.2.2.1), (iI y104.2.2.2.2.2.2.2.2.2.2.2.1), uy104_2, vy104_2, vy104_3]) rfl).add 7 191 w0_0 rfl).add 8 192 (.string (str a0)) rfl) (Xc (b2s_q (A0_0.kp (Ky104.st p366 rfl)) u22 u9 u5 rfl rfl rfl rfl rfl rfl) rfl (Xc (mv_q' w0_0 rfl) rfl (Xc (lda_q (es := [(iI x21.2), (iI y88.2), (iI y104.1), (iI y104.2.1), (iI y104.2.2.1), (iI y104.2.2.2.1), uy104_0, vy104_0, (iI y104.2.2.2.2.2.2.1), (iI y104.2.2.2.2.2.2.2.1), uy104_1, vy104_1, (iI y104.2.2.2.2.2.2.2.2.2.2.1), (iI y104.2.2.2.2.2.2.2.2.2.2.2.1), uy104_2, vy104_2, vy104_3]) (By104_b4.st p366 rfl) u35 z35 rfl rfl rfl rfl rfl rfl rfl rfl) rfl (Xc (pu_q' rfl) rfl (Xc (qv_b (pu_q' rfl) hb372) rfl (Xc (ld_q (By104_b4.st p366 rfl) u3 rfl rfl rfl rfl rfl rfl rfl rfl) rfl (Xc (fa_q fa35_0 rfl rfl rfl rfl rfl rfl) rfl Xt))))))) (by kernel_rfl) rfl (fun l392 e392 zd392 => ?_)
  have A397 := Ay104_0.st p366 rfl
  have A398 := Ay104_1.st p366 rfl
  have A399 := Ay104_2.st p366 rfl
  have A400 := Ay104_3.st p366 rfl
  refine clO 64 rfl func49 rfl (spec_OpText.calls (Op.mk x21.2 y88.2 y104.1 y104.2.1 (Item.mk y104.2.2.1 y104.2.2.2.1 y104.2.2.2.2.1 y104.2.2.2.2.2.1) (Item.mk y104.2.2.2.2.2.2.1 y104.2.2.2.2.2.2.2.1 y104.2.2.2.2.2.2.2.2.1 y104.2.2.2.2.2.2.2.2.2.1) (Item.mk y104.2.2.2.2.2.2.2.2.2.2.1 y104.2.2.2.2.2.2.2.2.2.2.2.1 y104.2.2.2.2.2.2.2.2.2.2.2.2.1 y104.2.2.2.2.2.2.2.2.2.2.2.2.2.1) y104.2.2.2.2.2.2.2.2.2.2.2.2.2.2) s366.w (mm [49, 53, 51, 58] s366) uy104_0 vy104_0 uy104_1 vy104_1 uy104_2 vy104_2 vy104_3 ((Xh (s := s366) Fy104_0).sub (D := [49, 53, 51, 58]) rfl) (A397.rd.sub (D := [49, 53, 51, 58]) rfl) ((Xh (s := s366) Fy104_1).sub (D := [49, 53, 51, 58]) rfl) (A398.rd.sub (D := [49, 53, 51, 58]) rfl) ((Xh (s := s366) Fy104_2).sub (D := [49, 53, 51, 58]) rfl) (A399.rd.sub (D := [49, 53, 51, 58]) rfl) (A400.rd.sub (D := [49, 53, 51, 58]) rfl)) (fun r401 v401_0 s402 p402 A401_0 => ?_)
  refine zdone (L' := [8, 7]) (D' := [0, 1, 2, 4, 3, 3, 5]) zd392 rfl rfl rfl (fun zd404 => ?_)
  refine zfin [9, 10] tb366 (zd404.add 6 190 (.string (str r401)) rfl) (Xc (b2s_q A401_0.rd u22 u9 u5 rfl rfl rfl rfl rfl rfl) rfl (Xc (b2s_q (A0_0.kp (Ky104.st (Xo p366 p402) rfl)) u22 u9 u5 rfl rfl rfl rfl rfl rfl) rfl (Xc (mv_q' w0_0 rfl) rfl Xt))) (by kernel_rfl) (by decide) (Xb rfl (Xb rfl ?_))
  exact Kj372 _ _ _ ⟨s402, _, rfl, (ue (ue (ue rfl rfl) rfl) rfl), (Ky104.st (Xo p366 p402) rfl), (By104_b4.st (Xo p366 p402) rfl), (By104_b2.st (Xo p366 p402) rfl), (A397.st p402 rfl), (A398.st p402 rfl), (A399.st p402 rfl), (A400.st p402 rfl)⟩
 rintro y372 _ _ ⟨s415, _, rfl, rfl, Ky372, By372_b4, By372_b2, Cy372_360, Cy372_361, Cy372_362, Cy372_363⟩
 refine dn (cd rfl (fun h418 => ?_) (fun h418 => ?_))
 ·
  refine sr (bd (cells := [(iI 0), (iI 0), (iI 0), (iI 0), (iI 0), (iI 0), (.float .f64 0), (.slice none 0 0), (iI 0), (iI 0), (.float .f64 0), (.slice none 0 0), (iI 0), (iI 0), (.float .f64 0), (.slice none 0 0), (.slice none 0 0)]) pl35 o35 rfl rfl rfl rfl rfl rfl (sva' (vs := [(iI 0), (iI 0), (iI 0), (iI 0), (iI 0), (iI 0), (.float .f64 0), (.slice none 0 0), (iI 0), (iI 0), (.float .f64 0), (.slice none 0 0), (iI 0), (iI 0), (.float .f64 0), (.slice none 0 0), (.slice none 0 0)]) By372_b2 z35 rfl (Xa rfl (Xa rfl (Xa rfl (Xa rfl (Xa rfl (Xa rfl (Xa (FL.one (Xl rfl)) (Xa rfl (Xa rfl (Xa rfl (Xa (FL.one (Xl rfl)) (Xa rfl (Xa rfl (Xa rfl (Xa (FL.one (Xl rfl)) (Xa rfl (Xa rfl Xr))))))))))))))))) rfl (fun s419 p419 B419 => ?_)))
  replace B419 : BlF s419 b2 35 [(iI 0), (iI 0), (iI 0), (iI 0), (iI 0), (iI 0), (.float .f64 0), (.slice none 0 0), (iI 0), (iI 0), (.float .f64 0), (.slice none 0 0), (iI 0), (iI 0), (.float .f64 0), (.slice none 0 0), (.slice none 0 0)] 40 := B419
  refine Xb rfl (dn ?_)
  have A421 : OwF kd35 s419 [(iI 0), (iI 0), (iI 0), (iI 0), (iI 0), (iI 0), (.float .f64 0), (.slice none 0 0), (iI 0), (iI 0), (.float .f64 0), (.slice none 0 0), (iI 0), (iI 0), (.float .f64 0), (.slice none 0 0), (.slice none 0 0)] (Op.mk (0 : Int) (0 : Int) (0 : Int) (0 : Int) (Item.mk (0 : Int) (0 : Int) (0 : Nat) ([] : (List Int))) (Item.mk (0 : Int) (0 : Int) (0 : Nat) ([] : (List Int))) (Item.mk (0 : Int) (0 : Int) (0 : Nat) ([] : (List Int))) ([] : (List Bool))) 65 := ow_z _ _ (fz_iso (fun x : Op => (x.Kind, x.Seat, x.Level, x.N, x.Key, x.To, x.Value, x.Keep)) (Op.mk (0 : Int) (0 : Int) (0 : Int) (0 : Int) (Item.mk (0 : Int) (0 : Int) (0 : Nat) ([] : (List Int))) (Item.mk (0 : Int) (0 : Int) (0 : Nat) ([] : (List Int))) (Item.mk (0 : Int) (0 : Int) (0 : Nat) ([] : (List Int))) ([] : (List Bool))) (Xe (Xf .i64 (0 : Int)) (Xe (Xf .i64 (0 : Int)) (Xe (Xf .i64 (0 : Int)) (Xe (Xf .i64 (0 : Int)) (Xe (fz_iso (fun x : Item => (x.Kind, x.N, x.F, x.T)) (Item.mk (0 : Int) (0 : Int) (0 : Nat) ([] : (List Int))) (Xe (Xf .i64 (0 : Int)) (Xe (Xf .i64 (0 : Int)) (Xe (Xu (Xl rfl)) (fz_nil 5 (Kd.int .u8)))))) (Xe (fz_iso (fun x : Item => (x.Kind, x.N, x.F, x.T)) (Item.mk (0 : Int) (0 : Int) (0 : Nat) ([] : (List Int))) (Xe (Xf .i64 (0 : Int)) (Xe (Xf .i64 (0 : Int)) (Xe (Xu (Xl rfl)) (fz_nil 5 (Kd.int .u8)))))) (Xe (fz_iso (fun x : Item => (x.Kind, x.N, x.F, x.T)) (Item.mk (0 : Int) (0 : Int) (0 : Nat) ([] : (List Int))) (Xe (Xf .i64 (0 : Int)) (Xe (Xf .i64 (0 : Int)) (Xe (Xu (Xl rfl)) (fz_nil 5 (Kd.int .u8)))))) (fz_nil 4 Kd.bool)))))))))
  have K423 := Ky372.st p419 rfl
  exact re rfl func15 rfl (r_b B419 u35 rfl z35 rfl (Xv rfl Xg)) rfl ⟨_, rfl, (.float .f64 0), (.slice none 0 0), (.float .f64 0), (.slice none 0 0), (.float .f64 0), (.slice none 0 0), (.slice none 0 0), rfl, A421.fo K423 rfl z.l, z.ky K423⟩
 refine sk (sr (Xw (es := [(iI x21.2), (iI y88.2), (iI y104.1), (iI y104.2.1), (iI y104.2.2.1), (iI y104.2.2.2.1), uy104_0, vy104_0, (iI y104.2.2.2.2.2.2.1), (iI y104.2.2.2.2.2.2.2.1), uy104_1, vy104_1, (iI y104.2.2.2.2.2.2.2.2.2.2.1), (iI y104.2.2.2.2.2.2.2.2.2.2.2.1), uy104_2, vy104_2, vy104_3]) By372_b4 u35 z35 rfl (sva' (vs := [(iI x21.2), (iI y88.2), (iI y104.1), (iI y104.2.1), (iI y104.2.2.1), (iI y104.2.2.2.1), uy104_0, vy104_0, (iI y104.2.2.2.2.2.2.1), (iI y104.2.2.2.2.2.2.2.1), uy104_1, vy104_1, (iI y104.2.2.2.2.2.2.2.2.2.2.1), (iI y104.2.2.2.2.2.2.2.2.2.2.2.1), uy104_2, vy104_2, vy104_3]) By372_b2 z35 rfl (Xa rfl (Xa rfl (Xa rfl (Xa rfl (Xa rfl (Xa rfl (Xa (FL.one Fy104_0) (Xa Cy372_360.rd.one (Xa rfl (Xa rfl (Xa (FL.one Fy104_1) (Xa Cy372_361.rd.one (Xa rfl (Xa rfl (Xa (FL.one Fy104_2) (Xa Cy372_362.rd.one (Xa Cy372_363.rd.one Xr))))))))))))))))) rfl (fun s424 p424 B424 => ?_))))
 replace B424 : BlF s424 b2 35 [(iI x21.2), (iI y88.2), (iI y104.1), (iI y104.2.1), (iI y104.2.2.1), (iI y104.2.2.2.1), uy104_0, vy104_0, (iI y104.2.2.2.2.2.2.1), (iI y104.2.2.2.2.2.2.2.1), uy104_1, vy104_1, (iI y104.2.2.2.2.2.2.2.2.2.2.1), (iI y104.2.2.2.2.2.2.2.2.2.2.2.1), uy104_2, vy104_2, vy104_3] 40 := B424
 refine Xb rfl (dn ?_)
 obtain ⟨s428, hw428, p428, A428⟩ := ow_2 (ow_isoz (fun x : Item => (x.Kind, x.N, x.F, x.T)) (Item.mk y104.2.2.2.2.2.2.2.2.2.2.1 y104.2.2.2.2.2.2.2.2.2.2.2.1 y104.2.2.2.2.2.2.2.2.2.2.2.2.1 y104.2.2.2.2.2.2.2.2.2.2.2.2.2.1) (ow_l (Xf .i64 y104.2.2.2.2.2.2.2.2.2.2.1) (ow_l (Xf .i64 y104.2.2.2.2.2.2.2.2.2.2.2.1) (ow_l (Xu Fy104_2) (Cy372_362.st p424 rfl))))) (Cy372_363.st p424 rfl) rfl rfl
 rw [hw428]
 obtain ⟨s431, hw431, p431, A431⟩ := ow_2 (ow_isoz (fun x : Item => (x.Kind, x.N, x.F, x.T)) (Item.mk y104.2.2.2.2.2.2.1 y104.2.2.2.2.2.2.2.1 y104.2.2.2.2.2.2.2.2.1 y104.2.2.2.2.2.2.2.2.2.1) (ow_l (Xf .i64 y104.2.2.2.2.2.2.1) (ow_l (Xf .i64 y104.2.2.2.2.2.2.2.1) (ow_l (Xu Fy104_1) (Cy372_361.st (Xo p424 p428) rfl))))) A428 rfl rfl
 rw [hw431]
 obtain ⟨s434, hw434, p434, A434⟩ := ow_2 (ow_isoz (fun x : Item => (x.Kind, x.N, x.F, x.T)) (Item.mk y104.2.2.1 y104.2.2.2.1 y104.2.2.2.2.1 y104.2.2.2.2.2.1) (ow_l (Xf .i64 y104.2.2.1) (ow_l (Xf .i64 y104.2.2.2.1) (ow_l (Xu Fy104_0) (Cy372_360.st (tr3 p424 p428 p431) rfl))))) A431 rfl rfl
 rw [hw434]
 have A436 : OwF kd35 s434 [(iI x21.2), (iI y88.2), (iI y104.1), (iI y104.2.1), (iI y104.2.2.1), (iI y104.2.2.2.1), uy104_0, vy104_0, (iI y104.2.2.2.2.2.2.1), (iI y104.2.2.2.2.2.2.2.1), uy104_1, vy104_1, (iI y104.2.2.2.2.2.2.2.2.2.2.1), (iI y104.2.2.2.2.2.2.2.2.2.2.2.1), uy104_2, vy104_2, vy104_3] (Op.mk x21.2 y88.2 y104.1 y104.2.1 (Item.mk y104.2.2.1 y104.2.2.2.1 y104.2.2.2.2.1 y104.2.2.2.2.2.1) (Item.mk y104.2.2.2.2.2.2.1 y104.2.2.2.2.2.2.2.1 y104.2.2.2.2.2.2.2.2.1 y104.2.2.2.2.2.2.2.2.2.1) (Item.mk y104.2.2.2.2.2.2.2.2.2.2.1 y104.2.2.2.2.2.2.2.2.2.2.2.1 y104.2.2.2.2.2.2.2.2.2.2.2.2.1 y104.2.2.2.2.2.2.2.2.2.2.2.2.2.1) y104.2.2.2.2.2.2.2.2.2.2.2.2.2.2) 49 := (ow_isoz (fun x : Op => (x.Kind, x.Seat, x.Level, x.N, x.Key, x.To, x.Value, x.Keep)) (Op.mk x21.2 y88.2 y104.1 y104.2.1 (Item.mk y104.2.2.1 y104.2.2.2.1 y104.2.2.2.2.1 y104.2.2.2.2.2.1) (Item.mk y104.2.2.2.2.2.2.1 y104.2.2.2.2.2.2.2.1 y104.2.2.2.2.2.2.2.2.1 y104.2.2.2.2.2.2.2.2.2.1) (Item.mk y104.2.2.2.2.2.2.2.2.2.2.1 y104.2.2.2.2.2.2.2.2.2.2.2.1 y104.2.2.2.2.2.2.2.2.2.2.2.2.1 y104.2.2.2.2.2.2.2.2.2.2.2.2.2.1) y104.2.2.2.2.2.2.2.2.2.2.2.2.2.2) (ow_l (Xf .i64 x21.2) (ow_l (Xf .i64 y88.2) (ow_l (Xf .i64 y104.1) (ow_l (Xf .i64 y104.2.1) A434)))))
 have K439 := Ky372.st (tr4 p424 p428 p431 p434) rfl
 exact re rfl func15 rfl (r_b (B424.st (tr3 p428 p431 p434) rfl) u35 rfl z35 rfl (Xv rfl Xg)) rfl ⟨_, rfl, uy104_0, vy104_0, uy104_1, vy104_1, uy104_2, vy104_2, vy104_3, rfl, A436.fo K439 rfl z.l, z.ky K439⟩
def laws_sameFloat.f (a0 : Nat) (a1 : Nat) : Option (Bool) :=
 (if ((fcmp .f64 a0 a0 != some .eq) || (fcmp .f64 a1 a1 != some .eq)) = true then (some ((fcmp .f64 a0 a0 != some .eq) && (fcmp .f64 a1 a1 != some .eq))) else (if ((fcmp .f64 a0 (0 : Nat) == some .eq) && (fcmp .f64 a1 (0 : Nat) == some .eq)) = true then (some ((fcmp .f64 (far .quo (4607182418800017408 : Nat) a0) (0 : Nat) == some .gt) == (fcmp .f64 (far .quo (4607182418800017408 : Nat) a1) (0 : Nat) == some .gt))) else (some (fcmp .f64 a0 a1 == some .eq))))
def laws_sameFloat.Q (w : World) (F : Nat → Prop) (r : Bool) (v : Value) (w' : World) : Prop :=
 v = (.bool r) ∧ Ky [] w w'
theorem laws_sameFloat.calls (a0 : Nat) (a1 : Nat) (w : World) (F : Nat → Prop) (w0_0 : Value) (w1_0 : Value) (h0_0 : Kd.flt.rd w [w0_0] a0 F) (h1_0 : Kd.flt.rd w [w1_0] a1 F) (r : Bool) (m : laws_sameFloat.f a0 a1 = some r) :
  Calls prog 83 #[w0_0, w1_0] w (RT (laws_sameFloat.Q w F) r) := by
 obtain ⟨s0, rfl, kp0, z⟩ := Xm w F
 have A0_0 := fl_of h0_0
 have A1_0 := fl_of h1_0
 refine Xd (args := [w0_0, w1_0]) func83 ntmps83 rfl rfl m ?_
 unfold laws_sameFloat.f
 refine sr (Xb rfl (dn (sq (sr (Xp w0_0 rfl (Xp w0_0 rfl (fq_' A0_0 A0_0 rfl (Xb rfl (jy [8, 9, 10, 11, 12] [] 12 (.bool ((fcmp .f64 a0 a0 != some .eq) || (fcmp .f64 a1 a1 != some .eq))) rfl (fun Kg1 => ?_) (fun j1 => ?_))))))))))
 ·
  rcases bft (fcmp .f64 a0 a0 != some .eq) with hb1 | hb1
  ·
   exact sbT hb1 (Xi rfl (Xi rfl (Xi rfl (Xb rfl (Kg1 _ (Ag.put ((Ag.put ((Ag.put ((Ag.put (Ag.base rfl) rfl)) rfl)) rfl)) rfl) (by rw [hb1]; rfl))))))
  exact sbT hb1 (Xp w1_0 rfl (Xp w1_0 rfl (fq_' A1_0 A1_0 rfl (Xb rfl (Kg1 _ (Ag.put ((Ag.put ((Ag.put ((Ag.put (Ag.base rfl) rfl)) rfl)) rfl)) rfl) (by rw [hb1]; rfl))))))
 refine dn (cd rfl (fun h2 => ?_) (fun h2 => ?_))
 ·
  refine sr (Xp w0_0 rfl (Xp w0_0 rfl (fq_' A0_0 A0_0 rfl (Xb rfl (jy [16, 17, 18, 19, 20] [8] 20 (.bool ((fcmp .f64 a0 a0 != some .eq) && (fcmp .f64 a1 a1 != some .eq))) rfl (fun Kg3 => ?_) (fun j3 => ?_))))))
  ·
   rcases bft (fcmp .f64 a0 a0 != some .eq) with hb3 | hb3
   ·
    exact sbT hb3 (Xp w1_0 rfl (Xp w1_0 rfl (fq_' A1_0 A1_0 rfl (Xb rfl (Kg3 _ (Ag.put ((Ag.put ((Ag.put ((Ag.put (Ag.base rfl) rfl)) rfl)) rfl)) rfl) (by rw [hb3]; rfl))))))
   exact sbT hb3 (Xi rfl (Xi rfl (Xi rfl (Xb rfl (Kg3 _ (Ag.put ((Ag.put ((Ag.put ((Ag.put (Ag.base rfl) rfl)) rfl)) rfl)) rfl) (by rw [hb3]; rfl))))))
  exact Xb rfl (dn (re rfl func83 rfl (Xv rfl Xg) rfl ⟨_, rfl, rfl, z.ky kp0⟩))
 refine sk (sq (sr (Xp w0_0 rfl (fq_' A0_0 (Xl rfl) rfl (Xb rfl (jy [23, 24, 25, 26] [] 26 (.bool ((fcmp .f64 a0 (0 : Nat) == some .eq) && (fcmp .f64 a1 (0 : Nat) == some .eq))) rfl (fun Kg4 => ?_) (fun j4 => ?_)))))))
 ·
  rcases bft (fcmp .f64 a0 (0 : Nat) == some .eq) with hb4 | hb4
  ·
   exact sbT hb4 (Xp w1_0 rfl (fq_' A1_0 (Xl rfl) rfl (Xb rfl (Kg4 _ (Ag.put ((Ag.put ((Ag.put (Ag.base rfl) rfl)) rfl)) rfl) (by rw [hb4]; rfl)))))
  exact sbT hb4 (Xi rfl (Xi rfl (Xb rfl (Kg4 _ (Ag.put ((Ag.put ((Ag.put (Ag.base rfl) rfl)) rfl)) rfl) (by rw [hb4]; rfl)))))
 refine dn (cd rfl (fun h5 => ?_) (fun h5 => ?_))
 ·
  refine sr (Xp w0_0 rfl (fa_ (Xl rfl) A0_0 (by simp) rfl rfl rfl rfl rfl rfl rfl (fun v6 s6 p6 A6 => ?_)))
  refine fq_' A6 (Xl rfl) rfl (Xp w1_0 rfl (fa_ (Xl rfl) A1_0 (by simp) rfl rfl rfl rfl rfl rfl rfl (fun v7 s7 p7 A7 => ?_)))
  refine fq_' A7 (Xl rfl) rfl (beq_ u4 rfl rfl rfl rfl rfl rfl rfl (Xb rfl (dn ?_)))
  exact re rfl func83 rfl (Xv rfl Xg) rfl ⟨_, rfl, rfl, z.ky (kp0.st (Xo p6 p7) rfl)⟩
 exact sk (sr (Xp w0_0 rfl (Xp w1_0 rfl (fq_' A0_0 A1_0 rfl (Xb rfl (dn (re rfl func83 rfl (Xv rfl Xg) rfl ⟨_, rfl, rfl, z.ky kp0⟩)))))))
def laws_eqByteS.b0 (a0 : (List Int)) (a1 : (List Int)) (x4 : Int) : Option (Int ⊕ Bool) :=
 (if (decide (x4 < (a0.length : Int))) = true then (if 0 ≤ x4 ∧ x4 < (a0.length : Int) then (if 0 ≤ x4 ∧ x4 < (a1.length : Int) then (if ((at_ a0 x4) != (at_ a1 x4)) = true then (some (Sum.inr false)) else (some (Sum.inl (IntKind.wrap .i64 (x4 + (1 : Int)))))) else none) else none) else ((some true).bind fun o => some (Sum.inr o)))
def laws_eqByteS.f (a0 : (List Int)) (a1 : (List Int)) : Option (Bool) :=
 (if ((a0.length : Int) != (a1.length : Int)) = true then (some false) else (iter (laws_eqByteS.b0 a0 a1) (0 : Int)))
def laws_eqByteS.Q (w : World) (F : Nat → Prop) (r : Bool) (v : Value) (w' : World) : Prop :=
 v = (.bool r) ∧ Ky [] w w'
theorem laws_eqByteS.calls (a0 : (List Int)) (a1 : (List Int)) (w : World) (F : Nat → Prop) (w0_0 : Value) (w1_0 : Value) (h0_0 : Xx.rd w [w0_0] a0 F) (h1_0 : Xx.rd w [w1_0] a1 F) (r : Bool) (m : laws_eqByteS.f a0 a1 = some r) :
  Calls prog 18 #[w0_0, w1_0] w (RT (laws_eqByteS.Q w F) r) := by
 obtain ⟨s0, rfl, kp0, z⟩ := Xm w F
 have A0_0 := z.rd h0_0
 have A1_0 := z.rd h1_0
 refine Xd (args := [w0_0, w1_0]) func18 ntmps18 rfl rfl m ?_
 unfold laws_eqByteS.f
 refine sr (Xb rfl (dn (sq (sr (Xp w0_0 rfl (ln' A0_0 u22 rfl (Xp w1_0 rfl (ln' A1_0 u22 rfl (Xb rfl (dn (cd rfl (fun h3 => ?_) (fun h3 => ?_))))))))))))
 ·
  exact sr (Xb rfl (dn (re rfl func18 rfl (Xv rfl Xg) rfl ⟨_, rfl, rfl, z.ky kp0⟩)))
 refine sk (sq (sr (Xb rfl (dn (bl (lpI (fun (x4 : Int) e w => ∃ (s : St) (e0 : Env), w = s.w ∧ e = upd (upd (upd e0 0 w0_0) 1 w1_0) 5 (iI x4) ∧ Kp s0 s) ⟨s0, _, rfl, (ue (ue (ue rfl rfl) rfl) rfl), kp0⟩ (fun g4 ih4 => ?_)))))))
 rintro x4 _ _ ⟨s5, _, rfl, rfl, Kx4⟩
 unfold laws_eqByteS.b0
 refine sq (sr (Xb rfl (Xp w0_0 rfl ?_)))
 refine ln' (A0_0.kp Kx4) u22 rfl (Xb rfl (dn (cd rfl (fun h7 => ?_) (fun h7 => ?_))))
 ·
  refine sk (sq (bl (sq (zdraw [[], [], [0, 1], [2], [], [], [4, 5], [6], [3, 7]] [some 17, some 18, some 19, some 20, some 21, some 22, some 23, some 24, some 25] [[0], [5], [17, 18], [19], [1], [5], [21, 22], [23], [20, 24]] [0, 1, 2, 3, 4, 5, 6, 7, 8] ⟨by kernel_rfl, by kernel_rfl, by kernel_rfl⟩ (by kernel_rfl) (fun s8 p8 l8 tb8 zd8 => ?_)))))
  have K11 := Kx4.st p8 rfl
  have A12 := A0_0.kp K11
  refine mg fun hg13 => ?_
  obtain ⟨ad13, es13, he13, ce13, ia13⟩ := ix_e A12 rfl hg13.1 hg13.2
  obtain rfl := he13
  have A19 := A1_0.kp K11
  refine mg fun hg20 => ?_
  obtain ⟨ad20, es20, he20, ce20, ia20⟩ := ix_e A19 rfl hg20.1 hg20.2
  obtain rfl := he20
  refine zfin [8] tb8 ((((((((zd8.add 0 17 w0_0 rfl).add 1 18 (iI x4) rfl).add 2 19 (.pointer (some ad13)) rfl).add 3 20 (.int .u8 (at_ a0 x4)) rfl).add 4 21 w1_0 rfl).add 5 22 (iI x4) rfl).add 6 23 (.pointer (some ad20)) rfl).add 7 24 (.int .u8 (at_ a1 x4)) rfl) (Xc (lc0_q ce20 u5 rfl rfl rfl rfl rfl rfl rfl rfl) rfl (Xc (ix_q A19 u22 z5 hg20.1 hg20.2 ia20 rfl rfl rfl rfl rfl rfl rfl) rfl (Xc (pu_q' rfl) rfl (Xc (mv_q' w1_0 rfl) rfl (Xc (lc0_q ce13 u5 rfl rfl rfl rfl rfl rfl rfl rfl) rfl (Xc (ix_q A12 u22 z5 hg13.1 hg13.2 ia13 rfl rfl rfl rfl rfl rfl rfl) rfl (Xc (pu_q' rfl) rfl (Xc (mv_q' w0_0 rfl) rfl Xt)))))))) (by kernel_rfl) (by decide) (Xb rfl (dn (cd rfl (fun h24 => ?_) (fun h24 => ?_))))
  ·
   exact sr (Xb rfl (dn (sgi (re rfl func18 rfl (Xv rfl Xg) rfl ⟨_, rfl, rfl, z.ky K11⟩))))
  exact sk (ib (rg (Xb rfl (Xb rfl (Xb rfl (dn (lb ih4 ⟨s8, _, rfl, (ue (ue (ue rfl rfl) rfl) rfl), K11⟩)))))))
 exact xt rfl (sgb (sr (Xb rfl (dn (re rfl func18 rfl (Xv rfl Xg) rfl ⟨_, rfl, rfl, z.ky Kx4⟩)))))
def laws_eqItem.f (a0 : Item) (a1 : Item) : Option (Bool) :=
 (if (a0.Kind != a1.Kind) = true then (some false) else (if (a0.N != a1.N) = true then (some false) else ((laws_sameFloat.f a0.F a1.F).bind fun r12 => (if (!r12) = true then (some false) else ((laws_eqByteS.f a0.T a1.T).bind fun r21 => (if (!r21) = true then (some false) else (some true)))))))
def laws_eqItem.Q (w : World) (F : Nat → Prop) (r : Bool) (v : Value) (w' : World) : Prop :=
 v = (.bool r) ∧ Ky [] w w'
theorem laws_eqItem.calls (a0 : Item) (a1 : Item) (w : World) (F : Nat → Prop) (w0_0 : Value) (w0_1 : Value) (w1_0 : Value) (w1_1 : Value) (h0_0 : Kd.flt.rd w [w0_0] a0.F F) (h0_1 : Xx.rd w [w0_1] a0.T F) (h1_0 : Kd.flt.rd w [w1_0] a1.F F) (h1_1 : Xx.rd w [w1_1] a1.T F) (r : Bool) (m : laws_eqItem.f a0 a1 = some r) :
  Calls prog 50 #[(.agg #[(iI a0.Kind), (iI a0.N), w0_0, w0_1]), (.agg #[(iI a1.Kind), (iI a1.N), w1_0, w1_1])] w (RT (laws_eqItem.Q w F) r) := by
 obtain ⟨s0, rfl, kp0, z⟩ := Xm w F
 refine Xd (args := [(.agg #[(iI a0.Kind), (iI a0.N), w0_0, w0_1]), (.agg #[(iI a1.Kind), (iI a1.N), w1_0, w1_1])]) func50 ntmps50 rfl rfl m ?_
 unfold laws_eqItem.f
 refine sr (bx (cs := [(iI a0.Kind), (iI a0.N), w0_0, w0_1]) 40 rfl rfl rfl rfl rfl rfl (fun b3 s3 p3 B3 => ?_))
 refine bx (cs := [(iI a1.Kind), (iI a1.N), w1_0, w1_1]) 41 rfl rfl rfl rfl rfl rfl (fun b5 s5 p5 B5 => ?_)
 refine Xb rfl (dn (sq (sr (Xs fa26_0 rfl ?_))))
 have A7 := B3.st p5 rfl
 refine ld' A7 u3 rfl (Xs fa26_0 rfl (ld' B5 u3 rfl (Xb rfl (dn (cd rfl (fun h8 => ?_) (fun h8 => ?_))))))
 ·
  refine sr (Xb rfl (dn ?_))
  exact re rfl func50 rfl (Xv rfl Xg) rfl ⟨_, rfl, rfl, z.ky (kp0.st (Xo p3 p5) rfl)⟩
 refine sk (sq (sr (Xs fa26_1 rfl (ld' A7 u3 rfl (Xs fa26_1 rfl (ld' B5 u3 rfl (Xb rfl (dn (cd rfl (fun h10 => ?_) (fun h10 => ?_))))))))))
 ·
  refine sr (Xb rfl (dn ?_))
  exact re rfl func50 rfl (Xv rfl Xg) rfl ⟨_, rfl, rfl, z.ky (kp0.st (Xo p3 p5) rfl)⟩
 refine sk (sq (sr (Xs fa26_2 rfl (ld' A7 u24 rfl (Xs fa26_2 rfl (ld' B5 u24 rfl (clV 42 rfl func83 rfl (laws_sameFloat.calls a0.F a1.F s5.w (mm [] s5) w0_0 w1_0 (Xh (s := s5) (fl_of h0_0)) (Xh (s := s5) (fl_of h1_0))) (fun r12 s13 p13 n13 => ?_))))))))
 refine Xb rfl (dn (cd rfl (fun h14 => ?_) (fun h14 => ?_)))
 ·
  refine sr (Xb rfl (dn ?_))
  exact re rfl func50 rfl (Xv rfl Xg) rfl ⟨_, rfl, rfl, z.ky (kp0.st (tr3 p3 p5 p13) rfl)⟩
 refine sk (sq (sr (Xs fa26_3 rfl ?_)))
 refine ld' (A7.st p13 rfl) u22 rfl (Xs fa26_3 rfl ?_)
 refine ld' (B5.st p13 rfl) u22 rfl ?_
 have K18 := kp0.st (tr3 p3 p5 p13) rfl
 refine clV 43 rfl func18 rfl (laws_eqByteS.calls a0.T a1.T s13.w (mm [0] s13) w0_1 w1_1 ((z.rd h0_1).kp K18) ((z.rd h1_1).kp K18)) (fun r21 s22 p22 n22 => ?_)
 refine Xb rfl (dn (cd rfl (fun h23 => ?_) (fun h23 => ?_)))
 ·
  refine sr (Xb rfl (dn ?_))
  exact re rfl func50 rfl (Xv rfl Xg) rfl ⟨_, rfl, rfl, z.ky (K18.st p22 rfl)⟩
 refine sk (sr (Xb rfl (dn ?_)))
 exact re rfl func50 rfl (Xv rfl Xg) rfl ⟨_, rfl, rfl, z.ky (K18.st p22 rfl)⟩
def laws_eqBoolS.b0 (a0 : (List Bool)) (a1 : (List Bool)) (x4 : Int) : Option (Int ⊕ Bool) :=
 (if (decide (x4 < (a0.length : Int))) = true then (if 0 ≤ x4 ∧ x4 < (a0.length : Int) then (if 0 ≤ x4 ∧ x4 < (a1.length : Int) then (if (!((at_ a0 x4) == (at_ a1 x4))) = true then (some (Sum.inr false)) else (some (Sum.inl (IntKind.wrap .i64 (x4 + (1 : Int)))))) else none) else none) else ((some true).bind fun o => some (Sum.inr o)))
def laws_eqBoolS.f (a0 : (List Bool)) (a1 : (List Bool)) : Option (Bool) :=
 (if ((a0.length : Int) != (a1.length : Int)) = true then (some false) else (iter (laws_eqBoolS.b0 a0 a1) (0 : Int)))
def laws_eqBoolS.Q (w : World) (F : Nat → Prop) (r : Bool) (v : Value) (w' : World) : Prop :=
 v = (.bool r) ∧ Ky [] w w'
theorem laws_eqBoolS.calls (a0 : (List Bool)) (a1 : (List Bool)) (w : World) (F : Nat → Prop) (w0_0 : Value) (w1_0 : Value) (h0_0 : (Kd.sl 4 Kd.bool).rd w [w0_0] a0 F) (h1_0 : (Kd.sl 4 Kd.bool).rd w [w1_0] a1 F) (r : Bool) (m : laws_eqBoolS.f a0 a1 = some r) :
  Calls prog 51 #[w0_0, w1_0] w (RT (laws_eqBoolS.Q w F) r) := by
 obtain ⟨s0, rfl, kp0, z⟩ := Xm w F
 have A0_0 := z.rd h0_0
 have A1_0 := z.rd h1_0
 refine Xd (args := [w0_0, w1_0]) func51 ntmps51 rfl rfl m ?_
 unfold laws_eqBoolS.f
 refine sr (Xb rfl (dn (sq (sr (Xp w0_0 rfl (ln' A0_0 u33 rfl (Xp w1_0 rfl (ln' A1_0 u33 rfl (Xb rfl (dn (cd rfl (fun h3 => ?_) (fun h3 => ?_))))))))))))
 ·
  exact sr (Xb rfl (dn (re rfl func51 rfl (Xv rfl Xg) rfl ⟨_, rfl, rfl, z.ky kp0⟩)))
 refine sk (sq (sr (Xb rfl (dn (bl (lpI (fun (x4 : Int) e w => ∃ (s : St) (e0 : Env), w = s.w ∧ e = upd (upd (upd e0 0 w0_0) 1 w1_0) 5 (iI x4) ∧ Kp s0 s) ⟨s0, _, rfl, (ue (ue (ue rfl rfl) rfl) rfl), kp0⟩ (fun g4 ih4 => ?_)))))))
 rintro x4 _ _ ⟨s5, _, rfl, rfl, Kx4⟩
 unfold laws_eqBoolS.b0
 refine sq (sr (Xb rfl (Xp w0_0 rfl ?_)))
 refine ln' (A0_0.kp Kx4) u33 rfl (Xb rfl (dn (cd rfl (fun h7 => ?_) (fun h7 => ?_))))
 ·
  refine sk (sq (bl (sq (zdraw [[], [], [0, 1], [2], [], [], [4, 5], [6], [3, 7]] [some 17, some 18, some 19, some 20, some 21, some 22, some 23, some 24, some 25] [[0], [5], [17, 18], [19], [1], [5], [21, 22], [23], [20, 24]] [0, 1, 2, 3, 4, 5, 6, 7, 8] ⟨by kernel_rfl, by kernel_rfl, by kernel_rfl⟩ (by kernel_rfl) (fun s8 p8 l8 tb8 zd8 => ?_)))))
  have K11 := Kx4.st p8 rfl
  have A12 := A0_0.kp K11
  refine mg fun hg13 => ?_
  obtain ⟨ad13, es13, he13, ce13, ia13⟩ := ix_e A12 rfl hg13.1 hg13.2
  obtain rfl := he13
  have A19 := A1_0.kp K11
  refine mg fun hg20 => ?_
  obtain ⟨ad20, es20, he20, ce20, ia20⟩ := ix_e A19 rfl hg20.1 hg20.2
  obtain rfl := he20
  refine zfin [8] tb8 ((((((((zd8.add 0 17 w0_0 rfl).add 1 18 (iI x4) rfl).add 2 19 (.pointer (some ad13)) rfl).add 3 20 (.bool (at_ a0 x4)) rfl).add 4 21 w1_0 rfl).add 5 22 (iI x4) rfl).add 6 23 (.pointer (some ad20)) rfl).add 7 24 (.bool (at_ a1 x4)) rfl) (Xc (lc0_q ce20 u4 rfl rfl rfl rfl rfl rfl rfl rfl) rfl (Xc (ix_q A19 u33 z4 hg20.1 hg20.2 ia20 rfl rfl rfl rfl rfl rfl rfl) rfl (Xc (pu_q' rfl) rfl (Xc (mv_q' w1_0 rfl) rfl (Xc (lc0_q ce13 u4 rfl rfl rfl rfl rfl rfl rfl rfl) rfl (Xc (ix_q A12 u33 z4 hg13.1 hg13.2 ia13 rfl rfl rfl rfl rfl rfl rfl) rfl (Xc (pu_q' rfl) rfl (Xc (mv_q' w0_0 rfl) rfl Xt)))))))) (by kernel_rfl) (by decide) (bne_ u4 rfl rfl rfl rfl rfl rfl rfl (dn (cd rfl (fun h24 => ?_) (fun h24 => ?_))))
  ·
   exact sr (Xb rfl (dn (sgi (re rfl func51 rfl (Xv rfl Xg) rfl ⟨_, rfl, rfl, z.ky K11⟩))))
  exact sk (ib (rg (Xb rfl (Xb rfl (Xb rfl (dn (lb ih4 ⟨s8, _, rfl, (ue (ue (ue rfl rfl) rfl) rfl), K11⟩)))))))
 exact xt rfl (sgb (sr (Xb rfl (dn (re rfl func51 rfl (Xv rfl Xg) rfl ⟨_, rfl, rfl, z.ky Kx4⟩)))))
def laws_eqOp.f (a0 : Op) (a1 : Op) : Option (Bool) :=
 (if (a0.Kind != a1.Kind) = true then (some false) else (if (a0.Seat != a1.Seat) = true then (some false) else (if (a0.Level != a1.Level) = true then (some false) else (if (a0.N != a1.N) = true then (some false) else ((laws_eqItem.f a0.Key a1.Key).bind fun r25 => (if (!r25) = true then (some false) else ((laws_eqItem.f a0.To a1.To).bind fun r34 => (if (!r34) = true then (some false) else ((laws_eqItem.f a0.Value a1.Value).bind fun r43 => (if (!r43) = true then (some false) else ((laws_eqBoolS.f a0.Keep a1.Keep).bind fun r52 => (if (!r52) = true then (some false) else (some true)))))))))))))
def laws_eqOp.Q (w : World) (F : Nat → Prop) (r : Bool) (v : Value) (w' : World) : Prop :=
 v = (.bool r) ∧ Ky [] w w'
theorem laws_eqOp.calls (a0 : Op) (a1 : Op) (w : World) (F : Nat → Prop) (w0_0 : Value) (w0_1 : Value) (w0_2 : Value) (w0_3 : Value) (w0_4 : Value) (w0_5 : Value) (w0_6 : Value) (w1_0 : Value) (w1_1 : Value) (w1_2 : Value) (w1_3 : Value) (w1_4 : Value) (w1_5 : Value) (w1_6 : Value) (h0_0 : Kd.flt.rd w [w0_0] a0.Key.F F) (h0_1 : Xx.rd w [w0_1] a0.Key.T F) (h0_2 : Kd.flt.rd w [w0_2] a0.To.F F) (h0_3 : Xx.rd w [w0_3] a0.To.T F) (h0_4 : Kd.flt.rd w [w0_4] a0.Value.F F) (h0_5 : Xx.rd w [w0_5] a0.Value.T F) (h0_6 : (Kd.sl 4 Kd.bool).rd w [w0_6] a0.Keep F) (h1_0 : Kd.flt.rd w [w1_0] a1.Key.F F) (h1_1 : Xx.rd w [w1_1] a1.Key.T F) (h1_2 : Kd.flt.rd w [w1_2] a1.To.F F) (h1_3 : Xx.rd w [w1_3] a1.To.T F) (h1_4 : Kd.flt.rd w [w1_4] a1.Value.F F) (h1_5 : Xx.rd w [w1_5] a1.Value.T F) (h1_6 : (Kd.sl 4 Kd.bool).rd w [w1_6] a1.Keep F) (r : Bool) (m : laws_eqOp.f a0 a1 = some r) :
  Calls prog 17 #[(.agg #[(iI a0.Kind), (iI a0.Seat), (iI a0.Level), (iI a0.N), (iI a0.Key.Kind), (iI a0.Key.N), w0_0, w0_1, (iI a0.To.Kind), (iI a0.To.N), w0_2, w0_3, (iI a0.Value.Kind), (iI a0.Value.N), w0_4, w0_5, w0_6]), (.agg #[(iI a1.Kind), (iI a1.Seat), (iI a1.Level), (iI a1.N), (iI a1.Key.Kind), (iI a1.Key.N), w1_0, w1_1, (iI a1.To.Kind), (iI a1.To.N), w1_2, w1_3, (iI a1.Value.Kind), (iI a1.Value.N), w1_4, w1_5, w1_6])] w (RT (laws_eqOp.Q w F) r) := by
 obtain ⟨s0, rfl, kp0, z⟩ := Xm w F
 refine Xd (args := [(.agg #[(iI a0.Kind), (iI a0.Seat), (iI a0.Level), (iI a0.N), (iI a0.Key.Kind), (iI a0.Key.N), w0_0, w0_1, (iI a0.To.Kind), (iI a0.To.N), w0_2, w0_3, (iI a0.Value.Kind), (iI a0.Value.N), w0_4, w0_5, w0_6]), (.agg #[(iI a1.Kind), (iI a1.Seat), (iI a1.Level), (iI a1.N), (iI a1.Key.Kind), (iI a1.Key.N), w1_0, w1_1, (iI a1.To.Kind), (iI a1.To.N), w1_2, w1_3, (iI a1.Value.Kind), (iI a1.Value.N), w1_4, w1_5, w1_6])]) func17 ntmps17 rfl rfl m ?_
 unfold laws_eqOp.f
 refine sr (bx (cs := [(iI a0.Kind), (iI a0.Seat), (iI a0.Level), (iI a0.N), (iI a0.Key.Kind), (iI a0.Key.N), w0_0, w0_1, (iI a0.To.Kind), (iI a0.To.N), w0_2, w0_3, (iI a0.Value.Kind), (iI a0.Value.N), w0_4, w0_5, w0_6]) 40 rfl rfl rfl rfl rfl rfl (fun b9 s9 p9 B9 => ?_))
 refine bx (cs := [(iI a1.Kind), (iI a1.Seat), (iI a1.Level), (iI a1.N), (iI a1.Key.Kind), (iI a1.Key.N), w1_0, w1_1, (iI a1.To.Kind), (iI a1.To.N), w1_2, w1_3, (iI a1.Value.Kind), (iI a1.Value.N), w1_4, w1_5, w1_6]) 41 rfl rfl rfl rfl rfl rfl (fun b11 s11 p11 B11 => ?_)
 refine Xb rfl (dn (sq (sr (Xs fa35_0 rfl ?_))))
 have A13 := B9.st p11 rfl
 refine ld' A13 u3 rfl (Xs fa35_0 rfl (ld' B11 u3 rfl (Xb rfl (dn (cd rfl (fun h14 => ?_) (fun h14 => ?_))))))
 ·
  refine sr (Xb rfl (dn ?_))
  exact re rfl func17 rfl (Xv rfl Xg) rfl ⟨_, rfl, rfl, z.ky (kp0.st (Xo p9 p11) rfl)⟩
 refine sk (sq (sr (Xs fa35_1 rfl (ld' A13 u3 rfl (Xs fa35_1 rfl (ld' B11 u3 rfl (Xb rfl (dn (cd rfl (fun h16 => ?_) (fun h16 => ?_))))))))))
 ·
  refine sr (Xb rfl (dn ?_))
  exact re rfl func17 rfl (Xv rfl Xg) rfl ⟨_, rfl, rfl, z.ky (kp0.st (Xo p9 p11) rfl)⟩
 refine sk (sq (sr (Xs fa35_2 rfl (ld' A13 u3 rfl (Xs fa35_2 rfl (ld' B11 u3 rfl (Xb rfl (dn (cd rfl (fun h18 => ?_) (fun h18 => ?_))))))))))
 ·
  refine sr (Xb rfl (dn ?_))
  exact re rfl func17 rfl (Xv rfl Xg) rfl ⟨_, rfl, rfl, z.ky (kp0.st (Xo p9 p11) rfl)⟩
 refine sk (sq (sr (Xs fa35_3 rfl (ld' A13 u3 rfl (Xs fa35_3 rfl (ld' B11 u3 rfl (Xb rfl (dn (cd rfl (fun h20 => ?_) (fun h20 => ?_))))))))))
 ·
  refine sr (Xb rfl (dn ?_))
  exact re rfl func17 rfl (Xv rfl Xg) rfl ⟨_, rfl, rfl, z.ky (kp0.st (Xo p9 p11) rfl)⟩
 refine sk (sq (sr (Xs fa35_4 rfl (Xw (es := [(iI a0.Key.Kind), (iI a0.Key.N), w0_0, w0_1]) A13 u26 z26 rfl (Xs fa35_4 rfl (Xw (es := [(iI a1.Key.Kind), (iI a1.Key.N), w1_0, w1_1]) B11 u26 z26 rfl ?_))))))
 have K22 := kp0.st (Xo p9 p11) rfl
 refine clV 42 rfl func50 rfl (laws_eqItem.calls a0.Key a1.Key s11.w (mm [0] s11) w0_0 w0_1 w1_0 w1_1 ((Xh (s := s11) (fl_of h0_0)).sub (D := [0]) rfl) ((z.rd h0_1).kp K22) ((Xh (s := s11) (fl_of h1_0)).sub (D := [0]) rfl) ((z.rd h1_1).kp K22)) (fun r25 s26 p26 n26 => ?_)
 refine Xb rfl (dn (cd rfl (fun h27 => ?_) (fun h27 => ?_)))
 ·
  refine sr (Xb rfl (dn ?_))
  exact re rfl func17 rfl (Xv rfl Xg) rfl ⟨_, rfl, rfl, z.ky (K22.st p26 rfl)⟩
 refine sk (sq (sr (Xs fa35_5 rfl ?_)))
 have A29 := A13.st p26 rfl
 refine Xw (es := [(iI a0.To.Kind), (iI a0.To.N), w0_2, w0_3]) A29 u26 z26 rfl (Xs fa35_5 rfl ?_)
 have A30 := B11.st p26 rfl
 refine Xw (es := [(iI a1.To.Kind), (iI a1.To.N), w1_2, w1_3]) A30 u26 z26 rfl ?_
 have K31 := K22.st p26 rfl
 refine clV 43 rfl func50 rfl (laws_eqItem.calls a0.To a1.To s26.w (mm [0] s26) w0_2 w0_3 w1_2 w1_3 ((Xh (s := s26) (fl_of h0_2)).sub (D := [0]) rfl) ((z.rd h0_3).kp K31) ((Xh (s := s26) (fl_of h1_2)).sub (D := [0]) rfl) ((z.rd h1_3).kp K31)) (fun r34 s35 p35 n35 => ?_)
 refine Xb rfl (dn (cd rfl (fun h36 => ?_) (fun h36 => ?_)))
 ·
  refine sr (Xb rfl (dn ?_))
  exact re rfl func17 rfl (Xv rfl Xg) rfl ⟨_, rfl, rfl, z.ky (K31.st p35 rfl)⟩
 refine sk (sq (sr (Xs fa35_6 rfl ?_)))
 have A38 := A29.st p35 rfl
 refine Xw (es := [(iI a0.Value.Kind), (iI a0.Value.N), w0_4, w0_5]) A38 u26 z26 rfl (Xs fa35_6 rfl ?_)
 have A39 := A30.st p35 rfl
 refine Xw (es := [(iI a1.Value.Kind), (iI a1.Value.N), w1_4, w1_5]) A39 u26 z26 rfl ?_
 have K40 := K31.st p35 rfl
 refine clV 44 rfl func50 rfl (laws_eqItem.calls a0.Value a1.Value s35.w (mm [0] s35) w0_4 w0_5 w1_4 w1_5 ((Xh (s := s35) (fl_of h0_4)).sub (D := [0]) rfl) ((z.rd h0_5).kp K40) ((Xh (s := s35) (fl_of h1_4)).sub (D := [0]) rfl) ((z.rd h1_5).kp K40)) (fun r43 s44 p44 n44 => ?_)
 refine Xb rfl (dn (cd rfl (fun h45 => ?_) (fun h45 => ?_)))
 ·
  refine sr (Xb rfl (dn ?_))
  exact re rfl func17 rfl (Xv rfl Xg) rfl ⟨_, rfl, rfl, z.ky (K40.st p44 rfl)⟩
 refine sk (sq (sr (Xs fa35_7 rfl ?_)))
 refine ld' (A38.st p44 rfl) u33 rfl (Xs fa35_7 rfl ?_)
 refine ld' (A39.st p44 rfl) u33 rfl ?_
 have K49 := K40.st p44 rfl
 refine clV 45 rfl func51 rfl (laws_eqBoolS.calls a0.Keep a1.Keep s44.w (mm [0] s44) w0_6 w1_6 ((z.rd h0_6).kp K49) ((z.rd h1_6).kp K49)) (fun r52 s53 p53 n53 => ?_)
 refine Xb rfl (dn (cd rfl (fun h54 => ?_) (fun h54 => ?_)))
 ·
  refine sr (Xb rfl (dn ?_))
  exact re rfl func17 rfl (Xv rfl Xg) rfl ⟨_, rfl, rfl, z.ky (K49.st p53 rfl)⟩
 refine sk (sr (Xb rfl (dn ?_)))
 exact re rfl func17 rfl (Xv rfl Xg) rfl ⟨_, rfl, rfl, z.ky (K49.st p53 rfl)⟩
def laws_markByteS.b0  (x2 : (List Int) × Int × Int) : Option (((List Int) × Int × Int) ⊕ (Int × (List Int))) :=
 (if (decide (x2.2.2 < (x2.1.length : Int))) = true then (if 0 ≤ x2.2.2 ∧ x2.2.2 < (x2.1.length : Int) then (some (Sum.inl ((x2.1.set (x2.2.2).toNat (IntKind.wrap .u8 x2.2.1)), (IntKind.wrap .i64 (x2.2.1 + (1 : Int))), (IntKind.wrap .i64 (x2.2.2 + (1 : Int)))))) else none) else ((some (x2.2.1, x2.1)).bind fun o => some (Sum.inr o)))
def laws_markByteS.f (a0 : (List Int)) (a1 : Int) : Option (Int × (List Int)) :=
 (iter laws_markByteS.b0 (a0, a1, (0 : Int)))
def laws_markByteS.Q (w : World) (F : Nat → Prop) (os : List Nat) (w0_0 : Value) (r : Int × (List Int)) (v : Value) (w' : World) : Prop :=
 v = (iI r.1) ∧ FW Xx os w w' [w0_0] r.2 ∧ Ky os w w'
theorem laws_markByteS.calls (a0 : (List Int)) (a1 : Int) (w : World) (F : Nat → Prop) (w0_0 : Value) (os : List Nat) (h0_0 : Xx.ow w [w0_0] a0 os) (hn : os.Nodup) (hF : ∀ b, F b → b ∉ os) (r : Int × (List Int)) (m : laws_markByteS.f a0 a1 = some r) :
  Calls prog 19 #[w0_0, (iI a1)] w (RT (laws_markByteS.Q w F os w0_0) r) := by
 obtain ⟨s0, rfl, kp0, z⟩ := start1 w F os hF
 refine Xd (args := [w0_0, (iI a1)]) func19 ntmps19 rfl rfl m ?_
 unfold laws_markByteS.f
 refine sr (Xb rfl (dn (sq (sr (Xb rfl (dn (bl (lpI (fun (x2 : (List Int) × Int × Int) e w => ∃ (s : St) (e0 : Env), w = s.w ∧ e = upd (upd (upd e0 0 w0_0) 1 (iI x2.2.1)) 5 (iI x2.2.2) ∧ Kp s0 s ∧ OwF Xx s [w0_0] x2.1 2) ⟨s0, _, rfl, (ue (ue (ue rfl rfl) rfl) rfl), kp0, (z.ow h0_0 hn)⟩ (fun g2 ih2 => ?_)))))))))
 rintro x2 _ _ ⟨s3, _, rfl, rfl, Kx2, Ax2_0⟩
 unfold laws_markByteS.b0
 refine sq (sr (Xb rfl (Xp w0_0 rfl (ln' Ax2_0.rd u22 rfl (Xb rfl (dn (cd rfl (fun h5 => ?_) (fun h5 => ?_))))))))
 ·
  refine sk (sq (bl (sr (Xp w0_0 rfl (Xb rfl (Xb rfl (cv u5 u3 rfl rfl rfl rfl rfl rfl (ix' Ax2_0.rd u22 z5 rfl (fun ad6 es6 h0_6 h1_6 he6 ce6 ia6 => ?_)))))))))
  obtain rfl := he6
  refine so (x' := (IntKind.wrap .u8 x2.2.1)) Ax2_0 ia6 h0_6 h1_6 cs_flat z5 rfl rfl rfl rfl rfl rfl (fun s8 p8 A8 => ?_)
  refine dn (rg (Xb rfl (Xb rfl (Xb rfl (dn (ib (rg (Xb rfl (Xb rfl (Xb rfl (dn ?_)))))))))))
  exact lb ih2 ⟨s8, _, rfl, (ue (ue (ue rfl rfl) rfl) rfl), (Kx2.st p8 rfl), A8⟩
 exact xt rfl (sgb (sr (Xb rfl (Xb rfl (dn (re rfl func19 rfl (Xv rfl Xg) rfl ⟨_, rfl, rfl, z.fw Kx2 Ax2_0, z.ky Kx2⟩))))))
def laws_markItem.f (a0 : Item) (a1 : Int) : Option (Int × (List Int)) :=
 ((laws_markByteS.f a0.T a1).bind fun r4 => (some (r4.1, r4.2)))
def laws_markItem.Q (w : World) (F : Nat → Prop) (os : List Nat) (w0_1 : Value) (r : Int × (List Int)) (v : Value) (w' : World) : Prop :=
 v = (iI r.1) ∧ FW Xx os w w' [w0_1] r.2 ∧ Ky os w w'
theorem laws_markItem.calls (a0 : Item) (a1 : Int) (w : World) (F : Nat → Prop) (w0_0 : Value) (w0_1 : Value) (h0_0 : Kd.flt.rd w [w0_0] a0.F F) (os : List Nat) (h0_1 : Xx.ow w [w0_1] a0.T os) (hn : os.Nodup) (hF : ∀ b, F b → b ∉ os) (r : Int × (List Int)) (m : laws_markItem.f a0 a1 = some r) :
  Calls prog 52 #[(.agg #[(iI a0.Kind), (iI a0.N), w0_0, w0_1]), (iI a1)] w (RT (laws_markItem.Q w F os w0_1) r) := by
 obtain ⟨s0, rfl, kp0, z⟩ := start1 w F os hF
 refine Xd (args := [(.agg #[(iI a0.Kind), (iI a0.N), w0_0, w0_1]), (iI a1)]) func52 ntmps52 rfl rfl m ?_
 unfold laws_markItem.f
 refine sr (bx (cs := [(iI a0.Kind), (iI a0.N), w0_0, w0_1]) 40 rfl rfl rfl rfl rfl rfl (fun b2 s2 p2 B2 => ?_))
 refine Xb rfl (dn (sr (Xs fa26_3 rfl (ld' B2 u22 rfl (Xb rfl ?_)))))
 obtain ⟨os4, ho4, hn4, hc4⟩ := (z.ow h0_1 hn).st p2 rfl
 refine cl' rfl func19 rfl (laws_markByteS.calls a0.T a1 s2.w (mm [] s2) w0_1 os4 ho4 hn4 (apart_of hc4 rfl)) ?_
 rintro r4 _ w4 m4 ⟨rfl, w4_, ky4⟩
 obtain ⟨s6, rfl, p6, A6⟩ := nwo 41 hc4 ky4 w4_
 refine Xb rfl (dn (sr (Xb rfl (Xb rfl (dn ?_)))))
 have K8 := kp0.st (Xo p2 p6) rfl
 exact re rfl func52 rfl (Xv rfl Xg) rfl ⟨_, rfl, rfl, z.fw K8 A6, z.ky K8⟩
def laws_markBoolS.b0  (x2 : (List Bool) × Int × Int) : Option (((List Bool) × Int × Int) ⊕ (Int × (List Bool))) :=
 (if (decide (x2.2.2 < (x2.1.length : Int))) = true then (if 0 ≤ x2.2.2 ∧ x2.2.2 < (x2.1.length : Int) then (some (Sum.inl ((x2.1.set (x2.2.2).toNat ((x2.2.1.tmod (3 : Int)) == (0 : Int))), (IntKind.wrap .i64 (x2.2.1 + (1 : Int))), (IntKind.wrap .i64 (x2.2.2 + (1 : Int)))))) else none) else ((some (x2.2.1, x2.1)).bind fun o => some (Sum.inr o)))
def laws_markBoolS.f (a0 : (List Bool)) (a1 : Int) : Option (Int × (List Bool)) :=
 (iter laws_markBoolS.b0 (a0, a1, (0 : Int)))
def laws_markBoolS.Q (w : World) (F : Nat → Prop) (os : List Nat) (w0_0 : Value) (r : Int × (List Bool)) (v : Value) (w' : World) : Prop :=
 v = (iI r.1) ∧ FW (Kd.sl 4 Kd.bool) os w w' [w0_0] r.2 ∧ Ky os w w'
theorem laws_markBoolS.calls (a0 : (List Bool)) (a1 : Int) (w : World) (F : Nat → Prop) (w0_0 : Value) (os : List Nat) (h0_0 : (Kd.sl 4 Kd.bool).ow w [w0_0] a0 os) (hn : os.Nodup) (hF : ∀ b, F b → b ∉ os) (r : Int × (List Bool)) (m : laws_markBoolS.f a0 a1 = some r) :
  Calls prog 53 #[w0_0, (iI a1)] w (RT (laws_markBoolS.Q w F os w0_0) r) := by
 obtain ⟨s0, rfl, kp0, z⟩ := start1 w F os hF
 refine Xd (args := [w0_0, (iI a1)]) func53 ntmps53 rfl rfl m ?_
 unfold laws_markBoolS.f
 refine sr (Xb rfl (dn (sq (sr (Xb rfl (dn (bl (lpI (fun (x2 : (List Bool) × Int × Int) e w => ∃ (s : St) (e0 : Env), w = s.w ∧ e = upd (upd (upd e0 0 w0_0) 1 (iI x2.2.1)) 5 (iI x2.2.2) ∧ Kp s0 s ∧ OwF (Kd.sl 4 Kd.bool) s [w0_0] x2.1 2) ⟨s0, _, rfl, (ue (ue (ue rfl rfl) rfl) rfl), kp0, (z.ow h0_0 hn)⟩ (fun g2 ih2 => ?_)))))))))
 rintro x2 _ _ ⟨s3, _, rfl, rfl, Kx2, Ax2_0⟩
 unfold laws_markBoolS.b0
 refine sq (sr (Xb rfl (Xp w0_0 rfl (ln' Ax2_0.rd u33 rfl (Xb rfl (dn (cd rfl (fun h5 => ?_) (fun h5 => ?_))))))))
 ·
  refine sk (sq (bl (sr (Xp w0_0 rfl (Xb rfl (Xb rfl (remK rfl rfl rfl rfl rfl rfl rfl rfl (Xb rfl (ix' Ax2_0.rd u33 z4 rfl (fun ad6 es6 h0_6 h1_6 he6 ce6 ia6 => ?_))))))))))
  obtain rfl := he6
  refine so (x' := ((x2.2.1.tmod (3 : Int)) == (0 : Int))) Ax2_0 ia6 h0_6 h1_6 cs_flat z4 rfl rfl rfl rfl rfl rfl (fun s8 p8 A8 => ?_)
  refine dn (rg (Xb rfl (Xb rfl (Xb rfl (dn (ib (rg (Xb rfl (Xb rfl (Xb rfl (dn ?_)))))))))))
  exact lb ih2 ⟨s8, _, rfl, (ue (ue (ue rfl rfl) rfl) rfl), (Kx2.st p8 rfl), A8⟩
 exact xt rfl (sgb (sr (Xb rfl (Xb rfl (dn (re rfl func53 rfl (Xv rfl Xg) rfl ⟨_, rfl, rfl, z.fw Kx2 Ax2_0, z.ky Kx2⟩))))))
def laws_markOp.f (a0 : Op) (a1 : Int) : Option (Int × Op) :=
 ((laws_markItem.f a0.Key a1).bind fun r7 => ((laws_markItem.f a0.To r7.1).bind fun r12 => ((laws_markItem.f a0.Value r12.1).bind fun r17 => ((laws_markBoolS.f a0.Keep r17.1).bind fun r22 => (some (r22.1, (Op.mk a0.Kind a0.Seat a0.Level a0.N (Item.mk a0.Key.Kind a0.Key.N a0.Key.F r7.2) (Item.mk a0.To.Kind a0.To.N a0.To.F r12.2) (Item.mk a0.Value.Kind a0.Value.N a0.Value.F r17.2) r22.2)))))))
def laws_markOp.Q (w : World) (F : Nat → Prop) (os : List Nat) (a0 : Op) (w0_0 : Value) (w0_1 : Value) (w0_2 : Value) (w0_3 : Value) (w0_4 : Value) (w0_5 : Value) (w0_6 : Value) (r : Int × Op) (v : Value) (w' : World) : Prop :=
 v = (iI r.1) ∧ FW kd35 os w w' [(iI a0.Kind), (iI a0.Seat), (iI a0.Level), (iI a0.N), (iI a0.Key.Kind), (iI a0.Key.N), w0_0, w0_1, (iI a0.To.Kind), (iI a0.To.N), w0_2, w0_3, (iI a0.Value.Kind), (iI a0.Value.N), w0_4, w0_5, w0_6] r.2 ∧ Ky os w w'
theorem laws_markOp.calls (a0 : Op) (a1 : Int) (w : World) (F : Nat → Prop) (w0_0 : Value) (w0_1 : Value) (w0_2 : Value) (w0_3 : Value) (w0_4 : Value) (w0_5 : Value) (w0_6 : Value) (os : List Nat) (h0 : kd35.ow w [(iI a0.Kind), (iI a0.Seat), (iI a0.Level), (iI a0.N), (iI a0.Key.Kind), (iI a0.Key.N), w0_0, w0_1, (iI a0.To.Kind), (iI a0.To.N), w0_2, w0_3, (iI a0.Value.Kind), (iI a0.Value.N), w0_4, w0_5, w0_6] a0 os) (hn : os.Nodup) (hF : ∀ b, F b → b ∉ os) (r : Int × Op) (m : laws_markOp.f a0 a1 = some r) :
  Calls prog 20 #[(.agg #[(iI a0.Kind), (iI a0.Seat), (iI a0.Level), (iI a0.N), (iI a0.Key.Kind), (iI a0.Key.N), w0_0, w0_1, (iI a0.To.Kind), (iI a0.To.N), w0_2, w0_3, (iI a0.Value.Kind), (iI a0.Value.N), w0_4, w0_5, w0_6]), (iI a1)] w (RT (laws_markOp.Q w F os a0 w0_0 w0_1 w0_2 w0_3 w0_4 w0_5 w0_6) r) := by
 obtain ⟨u0_0, u0_1, u0_2, u0_3, u0_4, u0_5, u0_6, q0_1, q0_3, q0_5, q0_6, e0, eo0, h0_0, h0_1, h0_2, h0_3, h0_4, h0_5, h0_6⟩ := po35 h0
 obtain ⟨y0_0, y0_1, y0_2, y0_3, y0_4, y0_5, y0_6⟩ : w0_0 = u0_0 ∧ w0_1 = u0_1 ∧ w0_2 = u0_2 ∧ w0_3 = u0_3 ∧ w0_4 = u0_4 ∧ w0_5 = u0_5 ∧ w0_6 = u0_6 := by simpa using e0
 subst y0_0
 subst y0_1
 subst y0_2
 subst y0_3
 subst y0_4
 subst y0_5
 subst y0_6
 subst eo0
 obtain ⟨s0, rfl, kp0, z⟩ := startN w F [(q0_1, 2), (q0_3, 3), (q0_5, 4), (q0_6, 5)] (by simpa [fl_] using hn) (fun b hb => by simpa [fl_] using hF b hb) rfl
 have ez : fl_ [(q0_1, 2), (q0_3, 3), (q0_5, 4), (q0_6, 5)] = q0_1 ++ (q0_3 ++ (q0_5 ++ (q0_6))) := by simp [fl_]
 have hn0_1 : q0_1.Nodup := by simp only [List.nodup_append] at hn; simp [hn]
 have hn0_3 : q0_3.Nodup := by simp only [List.nodup_append] at hn; simp [hn]
 have hn0_5 : q0_5.Nodup := by simp only [List.nodup_append] at hn; simp [hn]
 have hn0_6 : q0_6.Nodup := by simp only [List.nodup_append] at hn; simp [hn]
 have A0_0 := h0_0
 have A0_2 := h0_2
 have A0_4 := h0_4
 refine Xd (args := [(.agg #[(iI a0.Kind), (iI a0.Seat), (iI a0.Level), (iI a0.N), (iI a0.Key.Kind), (iI a0.Key.N), w0_0, w0_1, (iI a0.To.Kind), (iI a0.To.N), w0_2, w0_3, (iI a0.Value.Kind), (iI a0.Value.N), w0_4, w0_5, w0_6]), (iI a1)]) func20 ntmps20 rfl rfl m ?_
 unfold laws_markOp.f
 refine sr (bx (cs := [(iI a0.Kind), (iI a0.Seat), (iI a0.Level), (iI a0.N), (iI a0.Key.Kind), (iI a0.Key.N), w0_0, w0_1, (iI a0.To.Kind), (iI a0.To.N), w0_2, w0_3, (iI a0.Value.Kind), (iI a0.Value.N), w0_4, w0_5, w0_6]) 40 rfl rfl rfl rfl rfl rfl (fun b5 s5 p5 B5 => ?_))
 refine Xb rfl (dn (sr (Xs fa35_4 rfl (Xw (es := [(iI a0.Key.Kind), (iI a0.Key.N), w0_0, w0_1]) B5 u26 z26 rfl (Xb rfl ?_)))))
 obtain ⟨os7, ho7, hn7, hc7⟩ := (z.ow (c := 2) (by simp) hn0_1 h0_1).st p5 rfl
 refine cl' rfl func52 rfl (laws_markItem.calls a0.Key a1 s5.w (mm [] s5) w0_0 w0_1 (Xh (s := s5) A0_0) os7 ho7 hn7 (apart_of hc7 rfl)) ?_
 rintro r7 _ w7 m7 ⟨rfl, w7_, ky7⟩
 obtain ⟨s9, rfl, p9, A9⟩ := nwo 41 hc7 ky7 w7_
 refine Xb rfl (dn (sr (Xs fa35_5 rfl ?_)))
 have A11 := B5.st p9 rfl
 refine Xw (es := [(iI a0.To.Kind), (iI a0.To.N), w0_2, w0_3]) A11 u26 z26 rfl (Xb rfl ?_)
 obtain ⟨os12, ho12, hn12, hc12⟩ := (z.ow (c := 3) (by simp) hn0_3 h0_3).st (Xo p5 p9) rfl
 refine cl' rfl func52 rfl (laws_markItem.calls a0.To r7.1 s9.w (mm [] s9) w0_2 w0_3 (Xh (s := s9) A0_2) os12 ho12 hn12 (apart_of hc12 rfl)) ?_
 rintro r12 _ w12 m12 ⟨rfl, w12_, ky12⟩
 obtain ⟨s14, rfl, p14, A14⟩ := nwo 42 hc12 ky12 w12_
 refine Xb rfl (dn (sr (Xs fa35_6 rfl ?_)))
 have A16 := A11.st p14 rfl
 refine Xw (es := [(iI a0.Value.Kind), (iI a0.Value.N), w0_4, w0_5]) A16 u26 z26 rfl (Xb rfl ?_)
 obtain ⟨os17, ho17, hn17, hc17⟩ := (z.ow (c := 4) (by simp) hn0_5 h0_5).st (tr3 p5 p9 p14) rfl
 refine cl' rfl func52 rfl (laws_markItem.calls a0.Value r12.1 s14.w (mm [] s14) w0_4 w0_5 (Xh (s := s14) A0_4) os17 ho17 hn17 (apart_of hc17 rfl)) ?_
 rintro r17 _ w17 m17 ⟨rfl, w17_, ky17⟩
 obtain ⟨s19, rfl, p19, A19⟩ := nwo 43 hc17 ky17 w17_
 refine Xb rfl (dn (sr (Xs fa35_7 rfl ?_)))
 refine ld' (A16.st p19 rfl) u33 rfl (Xb rfl ?_)
 obtain ⟨os22, ho22, hn22, hc22⟩ := (z.ow (c := 5) (by simp) hn0_6 h0_6).st (tr4 p5 p9 p14 p19) rfl
 refine cl' rfl func53 rfl (laws_markBoolS.calls a0.Keep r17.1 s19.w (mm [] s19) w0_6 os22 ho22 hn22 (apart_of hc22 rfl)) ?_
 rintro r22 _ w22 m22 ⟨rfl, w22_, ky22⟩
 obtain ⟨s24, rfl, p24, A24⟩ := nwo 44 hc22 ky22 w22_
 refine Xb rfl (dn (sr (Xb rfl (Xb rfl (dn ?_)))))
 have K29 := kp0.st (tr5 p5 p9 p14 p19 p24) rfl
 exact re rfl func20 rfl (Xv rfl Xg) rfl ⟨_, rfl, rfl, z.fw' ez K29 (oc_iso (fun x : Op => (x.Kind, x.Seat, x.Level, x.N, x.Key, x.To, x.Value, x.Keep)) (Op.mk a0.Kind a0.Seat a0.Level a0.N (Item.mk a0.Key.Kind a0.Key.N a0.Key.F r7.2) (Item.mk a0.To.Kind a0.To.N a0.To.F r12.2) (Item.mk a0.Value.Kind a0.Value.N a0.Value.F r17.2) r22.2) (oc_pair (oc_z (Xf .i64 a0.Kind)) (oc_pair (oc_z (Xf .i64 a0.Seat)) (oc_pair (oc_z (Xf .i64 a0.Level)) (oc_pair (oc_z (Xf .i64 a0.N)) (oc_pair (oc_iso (fun x : Item => (x.Kind, x.N, x.F, x.T)) (Item.mk a0.Key.Kind a0.Key.N a0.Key.F r7.2) (oc_pair (oc_z (Xf .i64 a0.Key.Kind)) (oc_pair (oc_z (Xf .i64 a0.Key.N)) (oc_pair (oc_z (Xu A0_0)) (oc_ow (A9.st (tr3 p14 p19 p24) rfl)) rfl) rfl) rfl)) (oc_pair (oc_iso (fun x : Item => (x.Kind, x.N, x.F, x.T)) (Item.mk a0.To.Kind a0.To.N a0.To.F r12.2) (oc_pair (oc_z (Xf .i64 a0.To.Kind)) (oc_pair (oc_z (Xf .i64 a0.To.N)) (oc_pair (oc_z (Xu A0_2)) (oc_ow (A14.st (Xo p19 p24) rfl)) rfl) rfl) rfl)) (oc_pair (oc_iso (fun x : Item => (x.Kind, x.N, x.F, x.T)) (Item.mk a0.Value.Kind a0.Value.N a0.Value.F r17.2) (oc_pair (oc_z (Xf .i64 a0.Value.Kind)) (oc_pair (oc_z (Xf .i64 a0.Value.N)) (oc_pair (oc_z (Xu A0_4)) (oc_ow (A19.st p24 rfl)) rfl) rfl) rfl)) (oc_ow A24) rfl) rfl) rfl) rfl) rfl) rfl) rfl)) rfl, z.ky' ez K29⟩
def laws_heldByteS.b0 (a0 : (List Int)) (x2 : Int × Int) : Option ((Int × Int) ⊕ Int) :=
 (if (decide (x2.2 < (a0.length : Int))) = true then (if 0 ≤ x2.2 ∧ x2.2 < (a0.length : Int) then (if ((at_ a0 x2.2) != (IntKind.wrap .u8 x2.1)) = true then (some (Sum.inr (-1 : Int))) else (some (Sum.inl ((IntKind.wrap .i64 (x2.1 + (1 : Int))), (IntKind.wrap .i64 (x2.2 + (1 : Int))))))) else none) else ((some x2.1).bind fun o => some (Sum.inr o)))
def laws_heldByteS.f (a0 : (List Int)) (a1 : Int) : Option (Int) :=
 (iter (laws_heldByteS.b0 a0) (a1, (0 : Int)))
def laws_heldByteS.Q (w : World) (F : Nat → Prop) (r : Int) (v : Value) (w' : World) : Prop :=
 v = (iI r) ∧ Ky [] w w'
theorem laws_heldByteS.calls (a0 : (List Int)) (a1 : Int) (w : World) (F : Nat → Prop) (w0_0 : Value) (h0_0 : Xx.rd w [w0_0] a0 F) (r : Int) (m : laws_heldByteS.f a0 a1 = some r) :
  Calls prog 84 #[w0_0, (iI a1)] w (RT (laws_heldByteS.Q w F) r) := by
 obtain ⟨s0, rfl, kp0, z⟩ := Xm w F
 refine Xd (args := [w0_0, (iI a1)]) func84 ntmps84 rfl rfl m ?_
 unfold laws_heldByteS.f
 refine sr (Xb rfl (dn (sq (sr (Xb rfl (dn (bl (lpI (fun (x2 : Int × Int) e w => ∃ (s : St) (e0 : Env), w = s.w ∧ e = upd (upd (upd e0 0 w0_0) 1 (iI x2.1)) 5 (iI x2.2) ∧ Kp s0 s) ⟨s0, _, rfl, (ue (ue (ue rfl rfl) rfl) rfl), kp0⟩ (fun g2 ih2 => ?_)))))))))
 rintro x2 _ _ ⟨s3, _, rfl, rfl, Kx2⟩
 unfold laws_heldByteS.b0
 refine sq (sr (Xb rfl (Xp w0_0 rfl ?_)))
 have A4 := (z.rd h0_0).kp Kx2
 refine ln' A4 u22 rfl (Xb rfl (dn (cd rfl (fun h5 => ?_) (fun h5 => ?_))))
 ·
  refine sk (sq (bl (sq (sr (Xp w0_0 rfl (Xb rfl (ix' A4 u22 z5 rfl (fun ad6 es6 h0_6 h1_6 he6 ce6 ia6 => ?_))))))))
  obtain rfl := he6
  refine lc0' ce6 u5 rfl (Xb rfl (cv u5 u3 rfl rfl rfl rfl rfl rfl (Xb rfl (dn (cd rfl (fun h8 => ?_) (fun h8 => ?_))))))
  ·
   exact sr (Xb rfl (dn (sgi (re rfl func84 rfl (Xv rfl Xg) rfl ⟨_, rfl, rfl, z.ky Kx2⟩))))
  exact sk (rg (Xb rfl (Xb rfl (Xb rfl (dn (ib (rg (Xb rfl (Xb rfl (Xb rfl (dn (lb ih2 ⟨s3, _, rfl, (ue (ue (ue rfl rfl) rfl) rfl), Kx2⟩))))))))))))
 exact xt rfl (sgb (sr (Xb rfl (Xb rfl (dn (re rfl func84 rfl (Xv rfl Xg) rfl ⟨_, rfl, rfl, z.ky Kx2⟩))))))
def laws_heldItem.f (a0 : Item) (a1 : Int) : Option (Int) :=
 ((laws_heldByteS.f a0.T a1).bind fun r6 => (if (decide (r6 < (0 : Int))) = true then (some (-1 : Int)) else (some r6)))
def laws_heldItem.Q (w : World) (F : Nat → Prop) (r : Int) (v : Value) (w' : World) : Prop :=
 v = (iI r) ∧ Ky [] w w'
theorem laws_heldItem.calls (a0 : Item) (a1 : Int) (w : World) (F : Nat → Prop) (w0_0 : Value) (w0_1 : Value) (h0_0 : Kd.flt.rd w [w0_0] a0.F F) (h0_1 : Xx.rd w [w0_1] a0.T F) (r : Int) (m : laws_heldItem.f a0 a1 = some r) :
  Calls prog 54 #[(.agg #[(iI a0.Kind), (iI a0.N), w0_0, w0_1]), (iI a1)] w (RT (laws_heldItem.Q w F) r) := by
 obtain ⟨s0, rfl, kp0, z⟩ := Xm w F
 refine Xd (args := [(.agg #[(iI a0.Kind), (iI a0.N), w0_0, w0_1]), (iI a1)]) func54 ntmps54 rfl rfl m ?_
 unfold laws_heldItem.f
 refine sr (bx (cs := [(iI a0.Kind), (iI a0.N), w0_0, w0_1]) 40 rfl rfl rfl rfl rfl rfl (fun b2 s2 p2 B2 => ?_))
 refine Xb rfl (dn (sr (Xs fa26_3 rfl (ld' B2 u22 rfl (Xb rfl ?_)))))
 have K4 := kp0.st p2 rfl
 refine clV 41 rfl func84 rfl (laws_heldByteS.calls a0.T a1 s2.w (mm [0] s2) w0_1 ((z.rd h0_1).kp K4)) (fun r6 s7 p7 n7 => ?_)
 refine Xb rfl (dn (sq (sr (Xb rfl (Xb rfl (dn (cd rfl (fun h8 => ?_) (fun h8 => ?_))))))))
 ·
  refine sr (Xb rfl (dn ?_))
  exact re rfl func54 rfl (Xv rfl Xg) rfl ⟨_, rfl, rfl, z.ky (K4.st p7 rfl)⟩
 refine sk (sr (Xb rfl (Xb rfl (dn ?_))))
 exact re rfl func54 rfl (Xv rfl Xg) rfl ⟨_, rfl, rfl, z.ky (K4.st p7 rfl)⟩
def laws_heldBoolS.b0 (a0 : (List Bool)) (x2 : Int × Int) : Option ((Int × Int) ⊕ Int) :=
 (if (decide (x2.2 < (a0.length : Int))) = true then (if 0 ≤ x2.2 ∧ x2.2 < (a0.length : Int) then (if (!((at_ a0 x2.2) == ((x2.1.tmod (3 : Int)) == (0 : Int)))) = true then (some (Sum.inr (-1 : Int))) else (some (Sum.inl ((IntKind.wrap .i64 (x2.1 + (1 : Int))), (IntKind.wrap .i64 (x2.2 + (1 : Int))))))) else none) else ((some x2.1).bind fun o => some (Sum.inr o)))
def laws_heldBoolS.f (a0 : (List Bool)) (a1 : Int) : Option (Int) :=
 (iter (laws_heldBoolS.b0 a0) (a1, (0 : Int)))
def laws_heldBoolS.Q (w : World) (F : Nat → Prop) (r : Int) (v : Value) (w' : World) : Prop :=
 v = (iI r) ∧ Ky [] w w'
theorem laws_heldBoolS.calls (a0 : (List Bool)) (a1 : Int) (w : World) (F : Nat → Prop) (w0_0 : Value) (h0_0 : (Kd.sl 4 Kd.bool).rd w [w0_0] a0 F) (r : Int) (m : laws_heldBoolS.f a0 a1 = some r) :
  Calls prog 55 #[w0_0, (iI a1)] w (RT (laws_heldBoolS.Q w F) r) := by
 obtain ⟨s0, rfl, kp0, z⟩ := Xm w F
 refine Xd (args := [w0_0, (iI a1)]) func55 ntmps55 rfl rfl m ?_
 unfold laws_heldBoolS.f
 refine sr (Xb rfl (dn (sq (sr (Xb rfl (dn (bl (lpI (fun (x2 : Int × Int) e w => ∃ (s : St) (e0 : Env), w = s.w ∧ e = upd (upd (upd e0 0 w0_0) 1 (iI x2.1)) 5 (iI x2.2) ∧ Kp s0 s) ⟨s0, _, rfl, (ue (ue (ue rfl rfl) rfl) rfl), kp0⟩ (fun g2 ih2 => ?_)))))))))
 rintro x2 _ _ ⟨s3, _, rfl, rfl, Kx2⟩
 unfold laws_heldBoolS.b0
 refine sq (sr (Xb rfl (Xp w0_0 rfl ?_)))
 have A4 := (z.rd h0_0).kp Kx2
 refine ln' A4 u33 rfl (Xb rfl (dn (cd rfl (fun h5 => ?_) (fun h5 => ?_))))
 ·
  refine sk (sq (bl (sq (sr (Xp w0_0 rfl (Xb rfl (ix' A4 u33 z4 rfl (fun ad6 es6 h0_6 h1_6 he6 ce6 ia6 => ?_))))))))
  obtain rfl := he6
  refine lc0' ce6 u4 rfl (Xb rfl (remK rfl rfl rfl rfl rfl rfl rfl rfl (Xb rfl (bne_ u4 rfl rfl rfl rfl rfl rfl rfl (dn (cd rfl (fun h8 => ?_) (fun h8 => ?_)))))))
  ·
   exact sr (Xb rfl (dn (sgi (re rfl func55 rfl (Xv rfl Xg) rfl ⟨_, rfl, rfl, z.ky Kx2⟩))))
  exact sk (rg (Xb rfl (Xb rfl (Xb rfl (dn (ib (rg (Xb rfl (Xb rfl (Xb rfl (dn (lb ih2 ⟨s3, _, rfl, (ue (ue (ue rfl rfl) rfl) rfl), Kx2⟩))))))))))))
 exact xt rfl (sgb (sr (Xb rfl (Xb rfl (dn (re rfl func55 rfl (Xv rfl Xg) rfl ⟨_, rfl, rfl, z.ky Kx2⟩))))))
def laws_heldOp.f (a0 : Op) (a1 : Int) : Option (Int) :=
 ((laws_heldItem.f a0.Key a1).bind fun r9 => (if (decide (r9 < (0 : Int))) = true then (some (-1 : Int)) else ((laws_heldItem.f a0.To r9).bind fun r16 => (if (decide (r16 < (0 : Int))) = true then (some (-1 : Int)) else ((laws_heldItem.f a0.Value r16).bind fun r23 => (if (decide (r23 < (0 : Int))) = true then (some (-1 : Int)) else ((laws_heldBoolS.f a0.Keep r23).bind fun r30 => (if (decide (r30 < (0 : Int))) = true then (some (-1 : Int)) else (some r30)))))))))
def laws_heldOp.Q (w : World) (F : Nat → Prop) (r : Int) (v : Value) (w' : World) : Prop :=
 v = (iI r) ∧ Ky [] w w'
theorem laws_heldOp.calls (a0 : Op) (a1 : Int) (w : World) (F : Nat → Prop) (w0_0 : Value) (w0_1 : Value) (w0_2 : Value) (w0_3 : Value) (w0_4 : Value) (w0_5 : Value) (w0_6 : Value) (h0_0 : Kd.flt.rd w [w0_0] a0.Key.F F) (h0_1 : Xx.rd w [w0_1] a0.Key.T F) (h0_2 : Kd.flt.rd w [w0_2] a0.To.F F) (h0_3 : Xx.rd w [w0_3] a0.To.T F) (h0_4 : Kd.flt.rd w [w0_4] a0.Value.F F) (h0_5 : Xx.rd w [w0_5] a0.Value.T F) (h0_6 : (Kd.sl 4 Kd.bool).rd w [w0_6] a0.Keep F) (r : Int) (m : laws_heldOp.f a0 a1 = some r) :
  Calls prog 21 #[(.agg #[(iI a0.Kind), (iI a0.Seat), (iI a0.Level), (iI a0.N), (iI a0.Key.Kind), (iI a0.Key.N), w0_0, w0_1, (iI a0.To.Kind), (iI a0.To.N), w0_2, w0_3, (iI a0.Value.Kind), (iI a0.Value.N), w0_4, w0_5, w0_6]), (iI a1)] w (RT (laws_heldOp.Q w F) r) := by
 obtain ⟨s0, rfl, kp0, z⟩ := Xm w F
 refine Xd (args := [(.agg #[(iI a0.Kind), (iI a0.Seat), (iI a0.Level), (iI a0.N), (iI a0.Key.Kind), (iI a0.Key.N), w0_0, w0_1, (iI a0.To.Kind), (iI a0.To.N), w0_2, w0_3, (iI a0.Value.Kind), (iI a0.Value.N), w0_4, w0_5, w0_6]), (iI a1)]) func21 ntmps21 rfl rfl m ?_
 unfold laws_heldOp.f
 refine sr (bx (cs := [(iI a0.Kind), (iI a0.Seat), (iI a0.Level), (iI a0.N), (iI a0.Key.Kind), (iI a0.Key.N), w0_0, w0_1, (iI a0.To.Kind), (iI a0.To.N), w0_2, w0_3, (iI a0.Value.Kind), (iI a0.Value.N), w0_4, w0_5, w0_6]) 40 rfl rfl rfl rfl rfl rfl (fun b5 s5 p5 B5 => ?_))
 refine Xb rfl (dn (sr (Xs fa35_4 rfl (Xw (es := [(iI a0.Key.Kind), (iI a0.Key.N), w0_0, w0_1]) B5 u26 z26 rfl (Xb rfl ?_)))))
 have K7 := kp0.st p5 rfl
 refine clV 41 rfl func54 rfl (laws_heldItem.calls a0.Key a1 s5.w (mm [0] s5) w0_0 w0_1 ((Xh (s := s5) (fl_of h0_0)).sub (D := [0]) rfl) ((z.rd h0_1).kp K7)) (fun r9 s10 p10 n10 => ?_)
 refine Xb rfl (dn (sq (sr (Xb rfl (Xb rfl (dn (cd rfl (fun h11 => ?_) (fun h11 => ?_))))))))
 ·
  refine sr (Xb rfl (dn ?_))
  exact re rfl func21 rfl (Xv rfl Xg) rfl ⟨_, rfl, rfl, z.ky (K7.st p10 rfl)⟩
 refine sk (sr (Xs fa35_5 rfl ?_))
 have A13 := B5.st p10 rfl
 refine Xw (es := [(iI a0.To.Kind), (iI a0.To.N), w0_2, w0_3]) A13 u26 z26 rfl (Xb rfl ?_)
 have K14 := K7.st p10 rfl
 refine clV 42 rfl func54 rfl (laws_heldItem.calls a0.To r9 s10.w (mm [0] s10) w0_2 w0_3 ((Xh (s := s10) (fl_of h0_2)).sub (D := [0]) rfl) ((z.rd h0_3).kp K14)) (fun r16 s17 p17 n17 => ?_)
 refine Xb rfl (dn (sq (sr (Xb rfl (Xb rfl (dn (cd rfl (fun h18 => ?_) (fun h18 => ?_))))))))
 ·
  refine sr (Xb rfl (dn ?_))
  exact re rfl func21 rfl (Xv rfl Xg) rfl ⟨_, rfl, rfl, z.ky (K14.st p17 rfl)⟩
 refine sk (sr (Xs fa35_6 rfl ?_))
 have A20 := A13.st p17 rfl
 refine Xw (es := [(iI a0.Value.Kind), (iI a0.Value.N), w0_4, w0_5]) A20 u26 z26 rfl (Xb rfl ?_)
 have K21 := K14.st p17 rfl
 refine clV 43 rfl func54 rfl (laws_heldItem.calls a0.Value r16 s17.w (mm [0] s17) w0_4 w0_5 ((Xh (s := s17) (fl_of h0_4)).sub (D := [0]) rfl) ((z.rd h0_5).kp K21)) (fun r23 s24 p24 n24 => ?_)
 refine Xb rfl (dn (sq (sr (Xb rfl (Xb rfl (dn (cd rfl (fun h25 => ?_) (fun h25 => ?_))))))))
 ·
  refine sr (Xb rfl (dn ?_))
  exact re rfl func21 rfl (Xv rfl Xg) rfl ⟨_, rfl, rfl, z.ky (K21.st p24 rfl)⟩
 refine sk (sr (Xs fa35_7 rfl ?_))
 refine ld' (A20.st p24 rfl) u33 rfl (Xb rfl ?_)
 have K28 := K21.st p24 rfl
 refine clV 44 rfl func55 rfl (laws_heldBoolS.calls a0.Keep r23 s24.w (mm [0] s24) w0_6 ((z.rd h0_6).kp K28)) (fun r30 s31 p31 n31 => ?_)
 refine Xb rfl (dn (sq (sr (Xb rfl (Xb rfl (dn (cd rfl (fun h32 => ?_) (fun h32 => ?_))))))))
 ·
  refine sr (Xb rfl (dn ?_))
  exact re rfl func21 rfl (Xv rfl Xg) rfl ⟨_, rfl, rfl, z.ky (K28.st p31 rfl)⟩
 refine sk (sr (Xb rfl (Xb rfl (dn ?_))))
 exact re rfl func21 rfl (Xv rfl Xg) rfl ⟨_, rfl, rfl, z.ky (K28.st p31 rfl)⟩
def laws_FnExactOpRead.f (a0 : (List Int)) : Option (Bool) :=
 (if (decide ((a0.length : Int) > (1048576 : Int))) = true then (some true) else ((laws_toByteS.f a0).bind fun r3 => ((spec_OpRead.f r3).bind fun r6 => ((laws_toByteS.f a0).bind fun r23 => ((impl_OpRead.f r23).bind fun r27 => ((laws_eqOp.f r27.1 r6.1).bind fun r51 => (if ((!r51) || (!(r27.2 == r6.2))) = true then (some false) else ((laws_toByteS.f a0).bind fun r58 => ((laws_eqByteS.f r23 r58).bind fun r62 => (if (!r62) = true then (some false) else ((laws_markByteS.f r23 (1 : Int)).bind fun r66 => ((if (decide (r66.1 < (0 : Int))) = true then (some true) else ((laws_eqOp.f r27.1 r6.1).bind fun r92 => (some (!r92)))).bind fun y70 => (if (y70 || (!(r27.2 == r6.2))) = true then (some false) else ((laws_markOp.f r27.1 (1 : Int)).bind fun r120 => ((laws_heldOp.f (Op.mk r27.1.Kind r27.1.Seat r27.1.Level r27.1.N (Item.mk r27.1.Key.Kind r27.1.Key.N r27.1.Key.F r120.2.Key.T) (Item.mk r27.1.To.Kind r27.1.To.N r27.1.To.F r120.2.To.T) (Item.mk r27.1.Value.Kind r27.1.Value.N r27.1.Value.F r120.2.Value.T) r120.2.Keep) (1 : Int)).bind fun r128 => (if (decide (r128 < (0 : Int))) = true then (some false) else (if (r128 != r120.1) = true then (some false) else ((laws_toByteS.f a0).bind fun r136 => ((impl_OpRead.f r136).bind fun r140 => ((laws_eqOp.f r140.1 r6.1).bind fun r164 => (if ((!r164) || (!(r140.2 == r6.2))) = true then (some false) else ((laws_heldOp.f (Op.mk r27.1.Kind r27.1.Seat r27.1.Level r27.1.N (Item.mk r27.1.Key.Kind r27.1.Key.N r27.1.Key.F r120.2.Key.T) (Item.mk r27.1.To.Kind r27.1.To.N r27.1.To.F r120.2.To.T) (Item.mk r27.1.Value.Kind r27.1.Value.N r27.1.Value.F r120.2.Value.T) r120.2.Keep) (1 : Int)).bind fun r174 => (if (decide (r174 < (0 : Int))) = true then (some false) else (if (r174 != r120.1) = true then (some false) else (some true)))))))))))))))))))))))))
def laws_FnExactOpRead.Q (w : World) (F : Nat → Prop) (r : Bool) (v : Value) (w' : World) : Prop :=
 v = (.bool r) ∧ Ky [] w w'
theorem laws_FnExactOpRead.calls (a0 : (List Int)) (w : World) (F : Nat → Prop) (w0_0 : Value) (hG : GV.rd w [] () F) (h0_0 : Xx.rd w [w0_0] a0 F) (r : Bool) (m : laws_FnExactOpRead.f a0 = some r) :
  Calls prog 4 #[w0_0] w (RT (laws_FnExactOpRead.Q w F) r) := by
 obtain ⟨s0, rfl, kp0, z⟩ := Xm w F
 have A0_0 := z.rd h0_0
 have AG := z.rd hG
 refine Xd (args := [w0_0]) func4 ntmps4 rfl rfl m ?_
 unfold laws_FnExactOpRead.f
 refine sr (Xb rfl (dn (sq (sr (Xp w0_0 rfl (ln' A0_0 u22 rfl (Xb rfl (dn (cd rfl (fun h2 => ?_) (fun h2 => ?_))))))))))
 ·
  exact sr (Xb rfl (dn (re rfl func4 rfl (Xv rfl Xg) rfl ⟨_, rfl, rfl, z.ky kp0⟩)))
 refine sk (sr (Xp w0_0 rfl (clO 40 rfl func16 rfl (laws_toByteS.calls a0 s0.w (mm [0] s0) w0_0 A0_0) (fun r3 v3_0 s4 p4 A3_0 => ?_))))
 refine cl' rfl func15 rfl (spec_OpRead.calls r3 s4.w (mm [40] s4) v3_0 A3_0.rd) ?_
 rintro r6 _ w6 m6 ⟨v6_0, v6_1, v6_2, v6_3, v6_4, v6_5, v6_6, rfl, f6_0, ky6⟩
 obtain ⟨s7, rfl, p7, n7⟩ := nwx s4 w6 41 ky6
 obtain ⟨s8, hw8, p8, hu6_0_0, Au6_0_1, hu6_0_2, Au6_0_3, hu6_0_4, Au6_0_5, Au6_0_6⟩ := ap35 42 43 44 (f6_0.c n7) rfl
 rw [hw8]
 refine Xb rfl (Xb (v := (.agg #[(iI r6.1.Kind), (iI r6.1.Seat), (iI r6.1.Level), (iI r6.1.N), (iI r6.1.Key.Kind), (iI r6.1.Key.N), v6_0, v6_1, (iI r6.1.To.Kind), (iI r6.1.To.N), v6_2, v6_3, (iI r6.1.Value.Kind), (iI r6.1.Value.N), v6_4, v6_5, v6_6])) rfl (Xb (v := (.bool r6.2)) rfl (al (cs := [(iI 0), (iI 0), (iI 0), (iI 0), (iI 0), (iI 0), (.float .f64 0), (.slice none 0 0), (iI 0), (iI 0), (.float .f64 0), (.slice none 0 0), (iI 0), (iI 0), (.float .f64 0), (.slice none 0 0), (.slice none 0 0)]) 45 rfl rfl rfl rfl rfl o35 rfl (fun b13 s13 p13 B13 => ?_))))
 have A15 := Au6_0_6.st p13 rfl
 have A16 := Au6_0_5.st p13 rfl
 have A17 := Au6_0_3.st p13 rfl
 have A18 := Au6_0_1.st p13 rfl
 refine sva' (vs := [(iI r6.1.Kind), (iI r6.1.Seat), (iI r6.1.Level), (iI r6.1.N), (iI r6.1.Key.Kind), (iI r6.1.Key.N), v6_0, v6_1, (iI r6.1.To.Kind), (iI r6.1.To.N), v6_2, v6_3, (iI r6.1.Value.Kind), (iI r6.1.Value.N), v6_4, v6_5, v6_6]) B13 z35 rfl (Xa rfl (Xa rfl (Xa rfl (Xa rfl (Xa rfl (Xa rfl (Xa (FL.one hu6_0_0) (Xa A18.rd.one (Xa rfl (Xa rfl (Xa (FL.one hu6_0_2) (Xa A17.rd.one (Xa rfl (Xa rfl (Xa (FL.one hu6_0_4) (Xa A16.rd.one (Xa A15.rd.one Xr))))))))))))))))) rfl (fun s19 p19 B19 => ?_)
 replace B19 : BlF s19 b13 35 [(iI r6.1.Kind), (iI r6.1.Seat), (iI r6.1.Level), (iI r6.1.N), (iI r6.1.Key.Kind), (iI r6.1.Key.N), v6_0, v6_1, (iI r6.1.To.Kind), (iI r6.1.To.N), v6_2, v6_3, (iI r6.1.Value.Kind), (iI r6.1.Value.N), v6_4, v6_5, v6_6] 45 := B19
 refine Xb rfl (dn (sr (Xp w0_0 rfl ?_)))
 have K21 := kp0.st (tr5 p4 p7 p8 p13 p19) rfl
 refine clO 46 rfl func16 rfl (laws_toByteS.calls a0 s19.w (mm [0] s19) w0_0 (A0_0.kp K21)) (fun r23 v23_0 s24 p24 A23_0 => ?_)
 refine Xq v23_0 rfl (dn (sr (Xp v23_0 rfl ?_)))
 have K26 := K21.st p24 rfl
 refine cl' rfl func13 rfl (impl_OpRead.calls r23 s24.w (mm [46, 0] s24) v23_0 ((AG.kp K26).sub (D := [46, 0]) rfl) (A23_0.rd.sub (D := [46, 0]) rfl)) ?_
 rintro r27 _ w27 m27 ⟨v27_0, v27_1, v27_2, v27_3, v27_4, v27_5, v27_6, rfl, f27_0, ky27⟩
 obtain ⟨s28, rfl, p28, n28⟩ := nwx s24 w27 47 ky27
 obtain ⟨s29, hw29, p29, hu27_0_0, Au27_0_1, hu27_0_2, Au27_0_3, hu27_0_4, Au27_0_5, Au27_0_6⟩ := ap35 48 49 50 (f27_0.c n28) rfl
 rw [hw29]
 refine Xb rfl (Xb (v := (.agg #[(iI r27.1.Kind), (iI r27.1.Seat), (iI r27.1.Level), (iI r27.1.N), (iI r27.1.Key.Kind), (iI r27.1.Key.N), v27_0, v27_1, (iI r27.1.To.Kind), (iI r27.1.To.N), v27_2, v27_3, (iI r27.1.Value.Kind), (iI r27.1.Value.N), v27_4, v27_5, v27_6])) rfl (Xb (v := (.bool r27.2)) rfl (al (cs := [(iI 0), (iI 0), (iI 0), (iI 0), (iI 0), (iI 0), (.float .f64 0), (.slice none 0 0), (iI 0), (iI 0), (.float .f64 0), (.slice none 0 0), (iI 0), (iI 0), (.float .f64 0), (.slice none 0 0), (.slice none 0 0)]) 51 rfl rfl rfl rfl rfl o35 rfl (fun b34 s34 p34 B34 => ?_))))
 have A36 := Au27_0_6.st p34 rfl
 have A37 := Au27_0_5.st p34 rfl
 have A38 := Au27_0_3.st p34 rfl
 have A39 := Au27_0_1.st p34 rfl
 refine sva' (vs := [(iI r27.1.Kind), (iI r27.1.Seat), (iI r27.1.Level), (iI r27.1.N), (iI r27.1.Key.Kind), (iI r27.1.Key.N), v27_0, v27_1, (iI r27.1.To.Kind), (iI r27.1.To.N), v27_2, v27_3, (iI r27.1.Value.Kind), (iI r27.1.Value.N), v27_4, v27_5, v27_6]) B34 z35 rfl (Xa rfl (Xa rfl (Xa rfl (Xa rfl (Xa rfl (Xa rfl (Xa (FL.one hu27_0_0) (Xa A39.rd.one (Xa rfl (Xa rfl (Xa (FL.one hu27_0_2) (Xa A38.rd.one (Xa rfl (Xa rfl (Xa (FL.one hu27_0_4) (Xa A37.rd.one (Xa A36.rd.one Xr))))))))))))))))) rfl (fun s40 p40 B40 => ?_)
 replace B40 : BlF s40 b34 35 [(iI r27.1.Kind), (iI r27.1.Seat), (iI r27.1.Level), (iI r27.1.N), (iI r27.1.Key.Kind), (iI r27.1.Key.N), v27_0, v27_1, (iI r27.1.To.Kind), (iI r27.1.To.N), v27_2, v27_3, (iI r27.1.Value.Kind), (iI r27.1.Value.N), v27_4, v27_5, v27_6] 51 := B40
 refine Xb rfl (dn (sq (sr (Xw (es := [(iI r27.1.Kind), (iI r27.1.Seat), (iI r27.1.Level), (iI r27.1.N), (iI r27.1.Key.Kind), (iI r27.1.Key.N), v27_0, v27_1, (iI r27.1.To.Kind), (iI r27.1.To.N), v27_2, v27_3, (iI r27.1.Value.Kind), (iI r27.1.Value.N), v27_4, v27_5, v27_6]) B40 u35 z35 rfl ?_))))
 have A42 := B19.st (tr5 p24 p28 p29 p34 p40) rfl
 refine Xw (es := [(iI r6.1.Kind), (iI r6.1.Seat), (iI r6.1.Level), (iI r6.1.N), (iI r6.1.Key.Kind), (iI r6.1.Key.N), v6_0, v6_1, (iI r6.1.To.Kind), (iI r6.1.To.N), v6_2, v6_3, (iI r6.1.Value.Kind), (iI r6.1.Value.N), v6_4, v6_5, v6_6]) A42 u35 z35 rfl ?_
 have A43 := A39.st p40 rfl
 have A44 := A38.st p40 rfl
 have A45 := A37.st p40 rfl
 have A46 := A36.st p40 rfl
 have A47 := A18.st (tr6 p19 p24 p28 p29 p34 p40) rfl
 have A48 := A17.st (tr6 p19 p24 p28 p29 p34 p40) rfl
 have A49 := A16.st (tr6 p19 p24 p28 p29 p34 p40) rfl
 have A50 := A15.st (tr6 p19 p24 p28 p29 p34 p40) rfl
 refine clV 52 rfl func17 rfl (laws_eqOp.calls r27.1 r6.1 s40.w (mm [47, 48, 49, 50, 41, 42, 43, 44] s40) v27_0 v27_1 v27_2 v27_3 v27_4 v27_5 v27_6 v6_0 v6_1 v6_2 v6_3 v6_4 v6_5 v6_6 ((Xh (s := s40) hu27_0_0).sub (D := [47, 48, 49, 50, 41, 42, 43, 44]) rfl) (A43.rd.sub (D := [47, 48, 49, 50, 41, 42, 43, 44]) rfl) ((Xh (s := s40) hu27_0_2).sub (D := [47, 48, 49, 50, 41, 42, 43, 44]) rfl) (A44.rd.sub (D := [47, 48, 49, 50, 41, 42, 43, 44]) rfl) ((Xh (s := s40) hu27_0_4).sub (D := [47, 48, 49, 50, 41, 42, 43, 44]) rfl) (A45.rd.sub (D := [47, 48, 49, 50, 41, 42, 43, 44]) rfl) (A46.rd.sub (D := [47, 48, 49, 50, 41, 42, 43, 44]) rfl) ((Xh (s := s40) hu6_0_0).sub (D := [47, 48, 49, 50, 41, 42, 43, 44]) rfl) (A47.rd.sub (D := [47, 48, 49, 50, 41, 42, 43, 44]) rfl) ((Xh (s := s40) hu6_0_2).sub (D := [47, 48, 49, 50, 41, 42, 43, 44]) rfl) (A48.rd.sub (D := [47, 48, 49, 50, 41, 42, 43, 44]) rfl) ((Xh (s := s40) hu6_0_4).sub (D := [47, 48, 49, 50, 41, 42, 43, 44]) rfl) (A49.rd.sub (D := [47, 48, 49, 50, 41, 42, 43, 44]) rfl) (A50.rd.sub (D := [47, 48, 49, 50, 41, 42, 43, 44]) rfl)) (fun r51 s52 p52 n52 => ?_)
 refine Xb rfl (Xb rfl (jy [33, 34, 35, 36, 37] [] 37 (.bool ((!r51) || (!(r27.2 == r6.2)))) rfl (fun Kg53 => ?_) (fun j53 => ?_)))
 ·
  rcases bft (!r51) with hb53 | hb53
  ·
   exact sbT hb53 (Xi rfl (Xi rfl (Xi rfl (Xb rfl (Kg53 _ (Ag.put ((Ag.put ((Ag.put ((Ag.put (Ag.base rfl) rfl)) rfl)) rfl)) rfl) (by rw [hb53]; rfl))))))
  exact sbT hb53 (Xb rfl (Xb rfl (bne_ u4 rfl rfl rfl rfl rfl rfl rfl (Xb rfl (Kg53 _ (Ag.put ((Ag.put ((Ag.put ((Ag.put (Ag.base rfl) rfl)) rfl)) rfl)) rfl) (by rw [hb53]; rfl))))))
 refine dn (cd rfl (fun h54 => ?_) (fun h54 => ?_))
 ·
  refine sr (Xb rfl (dn ?_))
  exact re rfl func4 rfl (Xv rfl Xg) rfl ⟨_, rfl, rfl, z.ky (K26.st (tr5 p28 p29 p34 p40 p52) rfl)⟩
 refine sk (sq (sr (Xp v23_0 rfl (Xp w0_0 rfl ?_))))
 have K56 := K26.st (tr5 p28 p29 p34 p40 p52) rfl
 refine clO 53 rfl func16 rfl (laws_toByteS.calls a0 s52.w (mm [0] s52) w0_0 (A0_0.kp K56)) (fun r58 v58_0 s59 p59 A58_0 => ?_)
 have A61 := A23_0.st (tr6 p28 p29 p34 p40 p52 p59) rfl
 refine clV 54 rfl func18 rfl (laws_eqByteS.calls r23 r58 s59.w (mm [46, 53] s59) v23_0 v58_0 (A61.rd.sub (D := [46, 53]) rfl) (A58_0.rd.sub (D := [46, 53]) rfl)) (fun r62 s63 p63 n63 => ?_)
 refine Xb rfl (dn (cd rfl (fun h64 => ?_) (fun h64 => ?_)))
 ·
  refine sr (Xb rfl (dn ?_))
  exact re rfl func4 rfl (Xv rfl Xg) rfl ⟨_, rfl, rfl, z.ky (K56.st (Xo p59 p63) rfl)⟩
 refine sk (sr (Xb rfl (dn (sr (Xp v23_0 rfl (Xb rfl ?_))))))
 obtain ⟨os66, ho66, hn66, hc66⟩ := A61.st p63 rfl
 refine cl' rfl func19 rfl (laws_markByteS.calls r23 (1 : Int) s63.w (mm [] s63) v23_0 os66 ho66 hn66 (apart_of hc66 rfl)) ?_
 rintro r66 _ w66 m66 ⟨rfl, w66_, ky66⟩
 obtain ⟨s68, rfl, p68, A68⟩ := nwo 55 hc66 ky66 w66_
 refine Xb rfl (dn (sq (sr (Xb rfl (Xb rfl (Xb rfl (ji [8, 9, 10, 11, 12] (fun (y70 : Bool) e w => ∃ (s : St) (e0 : Env), w = s.w ∧ e = upd (upd (upd (upd (upd (upd e0 0 w0_0) 3 (pB b13)) 4 (.bool r6.2)) 6 (pB b34)) 7 (.bool r27.2)) 53 (.bool y70) ∧ Kp s0 s ∧ BlF s b34 35 [(iI r27.1.Kind), (iI r27.1.Seat), (iI r27.1.Level), (iI r27.1.N), (iI r27.1.Key.Kind), (iI r27.1.Key.N), v27_0, v27_1, (iI r27.1.To.Kind), (iI r27.1.To.N), v27_2, v27_3, (iI r27.1.Value.Kind), (iI r27.1.Value.N), v27_4, v27_5, v27_6] 51 ∧ BlF s b13 35 [(iI r6.1.Kind), (iI r6.1.Seat), (iI r6.1.Level), (iI r6.1.N), (iI r6.1.Key.Kind), (iI r6.1.Key.N), v6_0, v6_1, (iI r6.1.To.Kind), (iI r6.1.To.N), v6_2, v6_3, (iI r6.1.Value.Kind), (iI r6.1.Value.N), v6_4, v6_5, v6_6] 45 ∧ OwF Xx s [v27_1] r27.1.Key.T 47 ∧ OwF Xx s [v27_3] r27.1.To.T 48 ∧ OwF Xx s [v27_5] r27.1.Value.T 49 ∧ OwF (Kd.sl 4 Kd.bool) s [v27_6] r27.1.Keep 50 ∧ OwF Xx s [v6_1] r6.1.Key.T 41 ∧ OwF Xx s [v6_3] r6.1.To.T 42 ∧ OwF Xx s [v6_5] r6.1.Value.T 43 ∧ OwF (Kd.sl 4 Kd.bool) s [v6_6] r6.1.Keep 44) (fun Gj70 Kj70 => ?_) ?_)))))))
 ·
  rcases bft (decide (r66.1 < (0 : Int))) with hb70 | hb70
  ·
   refine sbT hb70 ?_
   rw [if_pos hb70]
   refine Xi rfl (Xi rfl (Xi rfl (Xi rfl (Xb rfl ?_))))
   exact Kj70 _ _ _ ⟨s68, _, rfl, (ue (ue (ue (ue (ue (ue rfl rfl) rfl) rfl) rfl) rfl) rfl), (K56.st (tr3 p59 p63 p68) rfl), (B40.st (tr4 p52 p59 p63 p68) rfl), (A42.st (tr4 p52 p59 p63 p68) rfl), (A43.st (tr4 p52 p59 p63 p68) rfl), (A44.st (tr4 p52 p59 p63 p68) rfl), (A45.st (tr4 p52 p59 p63 p68) rfl), (A46.st (tr4 p52 p59 p63 p68) rfl), (A47.st (tr4 p52 p59 p63 p68) rfl), (A48.st (tr4 p52 p59 p63 p68) rfl), (A49.st (tr4 p52 p59 p63 p68) rfl), (A50.st (tr4 p52 p59 p63 p68) rfl)⟩
  refine sbT hb70 ?_
  rw [if_neg (by rw [hb70]; decide)]
  have A82 := B40.st (tr4 p52 p59 p63 p68) rfl
  refine Xw (es := [(iI r27.1.Kind), (iI r27.1.Seat), (iI r27.1.Level), (iI r27.1.N), (iI r27.1.Key.Kind), (iI r27.1.Key.N), v27_0, v27_1, (iI r27.1.To.Kind), (iI r27.1.To.N), v27_2, v27_3, (iI r27.1.Value.Kind), (iI r27.1.Value.N), v27_4, v27_5, v27_6]) A82 u35 z35 rfl ?_
  have A83 := A42.st (tr4 p52 p59 p63 p68) rfl
  refine Xw (es := [(iI r6.1.Kind), (iI r6.1.Seat), (iI r6.1.Level), (iI r6.1.N), (iI r6.1.Key.Kind), (iI r6.1.Key.N), v6_0, v6_1, (iI r6.1.To.Kind), (iI r6.1.To.N), v6_2, v6_3, (iI r6.1.Value.Kind), (iI r6.1.Value.N), v6_4, v6_5, v6_6]) A83 u35 z35 rfl ?_
  have A84 := A43.st (tr4 p52 p59 p63 p68) rfl
  have A85 := A44.st (tr4 p52 p59 p63 p68) rfl
  have A86 := A45.st (tr4 p52 p59 p63 p68) rfl
  have A87 := A46.st (tr4 p52 p59 p63 p68) rfl
  have A88 := A47.st (tr4 p52 p59 p63 p68) rfl
  have A89 := A48.st (tr4 p52 p59 p63 p68) rfl
  have A90 := A49.st (tr4 p52 p59 p63 p68) rfl
  have A91 := A50.st (tr4 p52 p59 p63 p68) rfl
  refine clV 56 rfl func17 rfl (laws_eqOp.calls r27.1 r6.1 s68.w (mm [47, 48, 49, 50, 41, 42, 43, 44] s68) v27_0 v27_1 v27_2 v27_3 v27_4 v27_5 v27_6 v6_0 v6_1 v6_2 v6_3 v6_4 v6_5 v6_6 ((Xh (s := s68) hu27_0_0).sub (D := [47, 48, 49, 50, 41, 42, 43, 44]) rfl) (A84.rd.sub (D := [47, 48, 49, 50, 41, 42, 43, 44]) rfl) ((Xh (s := s68) hu27_0_2).sub (D := [47, 48, 49, 50, 41, 42, 43, 44]) rfl) (A85.rd.sub (D := [47, 48, 49, 50, 41, 42, 43, 44]) rfl) ((Xh (s := s68) hu27_0_4).sub (D := [47, 48, 49, 50, 41, 42, 43, 44]) rfl) (A86.rd.sub (D := [47, 48, 49, 50, 41, 42, 43, 44]) rfl) (A87.rd.sub (D := [47, 48, 49, 50, 41, 42, 43, 44]) rfl) ((Xh (s := s68) hu6_0_0).sub (D := [47, 48, 49, 50, 41, 42, 43, 44]) rfl) (A88.rd.sub (D := [47, 48, 49, 50, 41, 42, 43, 44]) rfl) ((Xh (s := s68) hu6_0_2).sub (D := [47, 48, 49, 50, 41, 42, 43, 44]) rfl) (A89.rd.sub (D := [47, 48, 49, 50, 41, 42, 43, 44]) rfl) ((Xh (s := s68) hu6_0_4).sub (D := [47, 48, 49, 50, 41, 42, 43, 44]) rfl) (A90.rd.sub (D := [47, 48, 49, 50, 41, 42, 43, 44]) rfl) (A91.rd.sub (D := [47, 48, 49, 50, 41, 42, 43, 44]) rfl)) (fun r92 s93 p93 n93 => ?_)
  refine Xb rfl (Xb rfl ?_)
  exact Kj70 _ _ _ ⟨s93, _, rfl, (ue (ue (ue (ue (ue (ue rfl rfl) rfl) rfl) rfl) rfl) rfl), (K56.st (tr4 p59 p63 p68 p93) rfl), (A82.st p93 rfl), (A83.st p93 rfl), (A84.st p93 rfl), (A85.st p93 rfl), (A86.st p93 rfl), (A87.st p93 rfl), (A88.st p93 rfl), (A89.st p93 rfl), (A90.st p93 rfl), (A91.st p93 rfl)⟩
 rintro y70 _ _ ⟨s105, _, rfl, rfl, Ky70, By70_b34, By70_b13, Cy70_30, Cy70_31, Cy70_32, Cy70_33, Cy70_9, Cy70_10, Cy70_11, Cy70_12⟩
 refine Xb rfl (jy [54, 55, 56, 57, 58] [] 58 (.bool (y70 || (!(r27.2 == r6.2)))) rfl (fun Kg108 => ?_) (fun j108 => ?_))
 ·
  rcases bft y70 with hb108 | hb108
  ·
   exact sbT hb108 (Xi rfl (Xi rfl (Xi rfl (Xb rfl (Kg108 _ (Ag.put ((Ag.put ((Ag.put ((Ag.put (Ag.base rfl) rfl)) rfl)) rfl)) rfl) (by rw [hb108]; rfl))))))
  exact sbT hb108 (Xb rfl (Xb rfl (bne_ u4 rfl rfl rfl rfl rfl rfl rfl (Xb rfl (Kg108 _ (Ag.put ((Ag.put ((Ag.put ((Ag.put (Ag.base rfl) rfl)) rfl)) rfl)) rfl) (by rw [hb108]; rfl))))))
 refine dn (cd rfl (fun h109 => ?_) (fun h109 => ?_))
 ·
  exact sr (Xb rfl (dn (re rfl func4 rfl (Xv rfl Xg) rfl ⟨_, rfl, rfl, z.ky Ky70⟩)))
 refine sk (sr (Xb rfl (dn (sr (Xw (es := [(iI r27.1.Kind), (iI r27.1.Seat), (iI r27.1.Level), (iI r27.1.N), (iI r27.1.Key.Kind), (iI r27.1.Key.N), v27_0, v27_1, (iI r27.1.To.Kind), (iI r27.1.To.N), v27_2, v27_3, (iI r27.1.Value.Kind), (iI r27.1.Value.N), v27_4, v27_5, v27_6]) By70_b34 u35 z35 rfl (Xb rfl ?_))))))
 obtain ⟨s110, hw110, p110, A110⟩ := ow_2 (ow_isoz (fun x : Item => (x.Kind, x.N, x.F, x.T)) r27.1.Value (ow_l (Xf .i64 r27.1.Value.Kind) (ow_l (Xf .i64 r27.1.Value.N) (ow_l (Xu hu27_0_4) Cy70_32)))) Cy70_33 rfl rfl
 rw [hw110]
 obtain ⟨s113, hw113, p113, A113⟩ := ow_2 (ow_isoz (fun x : Item => (x.Kind, x.N, x.F, x.T)) r27.1.To (ow_l (Xf .i64 r27.1.To.Kind) (ow_l (Xf .i64 r27.1.To.N) (ow_l (Xu hu27_0_2) (Cy70_31.st p110 rfl))))) A110 rfl rfl
 rw [hw113]
 obtain ⟨s116, hw116, p116, A116⟩ := ow_2 (ow_isoz (fun x : Item => (x.Kind, x.N, x.F, x.T)) r27.1.Key (ow_l (Xf .i64 r27.1.Key.Kind) (ow_l (Xf .i64 r27.1.Key.N) (ow_l (Xu hu27_0_0) (Cy70_30.st (Xo p110 p113) rfl))))) A113 rfl rfl
 rw [hw116]
 have A118 : OwF kd35 s116 [(iI r27.1.Kind), (iI r27.1.Seat), (iI r27.1.Level), (iI r27.1.N), (iI r27.1.Key.Kind), (iI r27.1.Key.N), v27_0, v27_1, (iI r27.1.To.Kind), (iI r27.1.To.N), v27_2, v27_3, (iI r27.1.Value.Kind), (iI r27.1.Value.N), v27_4, v27_5, v27_6] r27.1 47 := (ow_isoz (fun x : Op => (x.Kind, x.Seat, x.Level, x.N, x.Key, x.To, x.Value, x.Keep)) r27.1 (ow_l (Xf .i64 r27.1.Kind) (ow_l (Xf .i64 r27.1.Seat) (ow_l (Xf .i64 r27.1.Level) (ow_l (Xf .i64 r27.1.N) A116)))))
 obtain ⟨os120, ho120, hn120, hc120⟩ := A118
 refine cl' rfl func20 rfl (laws_markOp.calls r27.1 (1 : Int) s116.w (mm [] s116) v27_0 v27_1 v27_2 v27_3 v27_4 v27_5 v27_6 os120 ho120 hn120 (apart_of hc120 rfl)) ?_
 rintro r120 _ w120 m120 ⟨rfl, w120_, ky120⟩
 obtain ⟨s121, rfl, p121, A121⟩ := nwo 57 hc120 ky120 w120_
 obtain ⟨s122, hw122, p122, hu120_w_0, Au120_w_1, hu120_w_2, Au120_w_3, hu120_w_4, Au120_w_5, Au120_w_6⟩ := ap35 58 59 60 A121 rfl
 rw [hw122]
 refine Xb rfl (dn (sr (Xb rfl (dn (sr ?_)))))
 have A127 := By70_b34.st (tr5 p110 p113 p116 p121 p122) rfl
 refine Xw (es := [(iI r27.1.Kind), (iI r27.1.Seat), (iI r27.1.Level), (iI r27.1.N), (iI r27.1.Key.Kind), (iI r27.1.Key.N), v27_0, v27_1, (iI r27.1.To.Kind), (iI r27.1.To.N), v27_2, v27_3, (iI r27.1.Value.Kind), (iI r27.1.Value.N), v27_4, v27_5, v27_6]) A127 u35 z35 rfl (Xb rfl (clV 61 rfl func21 rfl (laws_heldOp.calls (Op.mk r27.1.Kind r27.1.Seat r27.1.Level r27.1.N (Item.mk r27.1.Key.Kind r27.1.Key.N r27.1.Key.F r120.2.Key.T) (Item.mk r27.1.To.Kind r27.1.To.N r27.1.To.F r120.2.To.T) (Item.mk r27.1.Value.Kind r27.1.Value.N r27.1.Value.F r120.2.Value.T) r120.2.Keep) (1 : Int) s122.w (mm [47, 58, 59, 60] s122) v27_0 v27_1 v27_2 v27_3 v27_4 v27_5 v27_6 ((Xh (s := s122) hu27_0_0).sub (D := [47, 58, 59, 60]) rfl) (Au120_w_1.rd.sub (D := [47, 58, 59, 60]) rfl) ((Xh (s := s122) hu27_0_2).sub (D := [47, 58, 59, 60]) rfl) (Au120_w_3.rd.sub (D := [47, 58, 59, 60]) rfl) ((Xh (s := s122) hu27_0_4).sub (D := [47, 58, 59, 60]) rfl) (Au120_w_5.rd.sub (D := [47, 58, 59, 60]) rfl) (Au120_w_6.rd.sub (D := [47, 58, 59, 60]) rfl)) (fun r128 s129 p129 n129 => ?_)))
 refine Xb rfl (dn (sq (sr (Xb rfl (Xb rfl (dn (cd rfl (fun h130 => ?_) (fun h130 => ?_))))))))
 ·
  refine sr (Xb rfl (dn ?_))
  exact re rfl func4 rfl (Xv rfl Xg) rfl ⟨_, rfl, rfl, z.ky (Ky70.st (tr6 p110 p113 p116 p121 p122 p129) rfl)⟩
 refine sk (sq (sr (Xb rfl (Xb rfl (Xb rfl (dn (cd rfl (fun h132 => ?_) (fun h132 => ?_))))))))
 ·
  refine sr (Xb rfl (dn ?_))
  exact re rfl func4 rfl (Xv rfl Xg) rfl ⟨_, rfl, rfl, z.ky (Ky70.st (tr6 p110 p113 p116 p121 p122 p129) rfl)⟩
 refine sk (sr (Xp w0_0 rfl ?_))
 have K134 := Ky70.st (tr6 p110 p113 p116 p121 p122 p129) rfl
 refine clO 62 rfl func16 rfl (laws_toByteS.calls a0 s129.w (mm [0] s129) w0_0 (A0_0.kp K134)) (fun r136 v136_0 s137 p137 A136_0 => ?_)
 have K139 := K134.st p137 rfl
 refine cl' rfl func13 rfl (impl_OpRead.calls r136 s137.w (mm [62, 0] s137) v136_0 ((AG.kp K139).sub (D := [62, 0]) rfl) (A136_0.rd.sub (D := [62, 0]) rfl)) ?_
 rintro r140 _ w140 m140 ⟨v140_0, v140_1, v140_2, v140_3, v140_4, v140_5, v140_6, rfl, f140_0, ky140⟩
 obtain ⟨s141, rfl, p141, n141⟩ := nwx s137 w140 63 ky140
 obtain ⟨s142, hw142, p142, hu140_0_0, Au140_0_1, hu140_0_2, Au140_0_3, hu140_0_4, Au140_0_5, Au140_0_6⟩ := ap35 64 65 66 (f140_0.c n141) rfl
 rw [hw142]
 refine Xb rfl (Xb (v := (.agg #[(iI r140.1.Kind), (iI r140.1.Seat), (iI r140.1.Level), (iI r140.1.N), (iI r140.1.Key.Kind), (iI r140.1.Key.N), v140_0, v140_1, (iI r140.1.To.Kind), (iI r140.1.To.N), v140_2, v140_3, (iI r140.1.Value.Kind), (iI r140.1.Value.N), v140_4, v140_5, v140_6])) rfl (Xb (v := (.bool r140.2)) rfl (al (cs := [(iI 0), (iI 0), (iI 0), (iI 0), (iI 0), (iI 0), (.float .f64 0), (.slice none 0 0), (iI 0), (iI 0), (.float .f64 0), (.slice none 0 0), (iI 0), (iI 0), (.float .f64 0), (.slice none 0 0), (.slice none 0 0)]) 67 rfl rfl rfl rfl rfl o35 rfl (fun b147 s147 p147 B147 => ?_))))
 have A149 := Au140_0_6.st p147 rfl
 have A150 := Au140_0_5.st p147 rfl
 have A151 := Au140_0_3.st p147 rfl
 have A152 := Au140_0_1.st p147 rfl
 refine sva' (vs := [(iI r140.1.Kind), (iI r140.1.Seat), (iI r140.1.Level), (iI r140.1.N), (iI r140.1.Key.Kind), (iI r140.1.Key.N), v140_0, v140_1, (iI r140.1.To.Kind), (iI r140.1.To.N), v140_2, v140_3, (iI r140.1.Value.Kind), (iI r140.1.Value.N), v140_4, v140_5, v140_6]) B147 z35 rfl (Xa rfl (Xa rfl (Xa rfl (Xa rfl (Xa rfl (Xa rfl (Xa (FL.one hu140_0_0) (Xa A152.rd.one (Xa rfl (Xa rfl (Xa (FL.one hu140_0_2) (Xa A151.rd.one (Xa rfl (Xa rfl (Xa (FL.one hu140_0_4) (Xa A150.rd.one (Xa A149.rd.one Xr))))))))))))))))) rfl (fun s153 p153 B153 => ?_)
 replace B153 : BlF s153 b147 35 [(iI r140.1.Kind), (iI r140.1.Seat), (iI r140.1.Level), (iI r140.1.N), (iI r140.1.Key.Kind), (iI r140.1.Key.N), v140_0, v140_1, (iI r140.1.To.Kind), (iI r140.1.To.N), v140_2, v140_3, (iI r140.1.Value.Kind), (iI r140.1.Value.N), v140_4, v140_5, v140_6] 67 := B153
 refine Xb rfl (dn (sq (sr (Xw (es := [(iI r140.1.Kind), (iI r140.1.Seat), (iI r140.1.Level), (iI r140.1.N), (iI r140.1.Key.Kind), (iI r140.1.Key.N), v140_0, v140_1, (iI r140.1.To.Kind), (iI r140.1.To.N), v140_2, v140_3, (iI r140.1.Value.Kind), (iI r140.1.Value.N), v140_4, v140_5, v140_6]) B153 u35 z35 rfl ?_))))
 refine Xw (es := [(iI r6.1.Kind), (iI r6.1.Seat), (iI r6.1.Level), (iI r6.1.N), (iI r6.1.Key.Kind), (iI r6.1.Key.N), v6_0, v6_1, (iI r6.1.To.Kind), (iI r6.1.To.N), v6_2, v6_3, (iI r6.1.Value.Kind), (iI r6.1.Value.N), v6_4, v6_5, v6_6]) (By70_b13.st (tr11 p110 p113 p116 p121 p122 p129 p137 p141 p142 p147 p153) rfl) u35 z35 rfl ?_
 have A156 := A152.st p153 rfl
 have A160 := Cy70_9.st (tr11 p110 p113 p116 p121 p122 p129 p137 p141 p142 p147 p153) rfl
 refine clV 68 rfl func17 rfl (laws_eqOp.calls r140.1 r6.1 s153.w (mm [63, 64, 65, 66, 41, 42, 43, 44] s153) v140_0 v140_1 v140_2 v140_3 v140_4 v140_5 v140_6 v6_0 v6_1 v6_2 v6_3 v6_4 v6_5 v6_6 ((Xh (s := s153) hu140_0_0).sub (D := [63, 64, 65, 66, 41, 42, 43, 44]) rfl) (A156.rd.sub (D := [63, 64, 65, 66, 41, 42, 43, 44]) rfl) ((Xh (s := s153) hu140_0_2).sub (D := [63, 64, 65, 66, 41, 42, 43, 44]) rfl) ((A151.st p153 rfl).rd.sub (D := [63, 64, 65, 66, 41, 42, 43, 44]) rfl) ((Xh (s := s153) hu140_0_4).sub (D := [63, 64, 65, 66, 41, 42, 43, 44]) rfl) ((A150.st p153 rfl).rd.sub (D := [63, 64, 65, 66, 41, 42, 43, 44]) rfl) ((A149.st p153 rfl).rd.sub (D := [63, 64, 65, 66, 41, 42, 43, 44]) rfl) ((Xh (s := s153) hu6_0_0).sub (D := [63, 64, 65, 66, 41, 42, 43, 44]) rfl) (A160.rd.sub (D := [63, 64, 65, 66, 41, 42, 43, 44]) rfl) ((Xh (s := s153) hu6_0_2).sub (D := [63, 64, 65, 66, 41, 42, 43, 44]) rfl) ((Cy70_10.st (tr11 p110 p113 p116 p121 p122 p129 p137 p141 p142 p147 p153) rfl).rd.sub (D := [63, 64, 65, 66, 41, 42, 43, 44]) rfl) ((Xh (s := s153) hu6_0_4).sub (D := [63, 64, 65, 66, 41, 42, 43, 44]) rfl) ((Cy70_11.st (tr11 p110 p113 p116 p121 p122 p129 p137 p141 p142 p147 p153) rfl).rd.sub (D := [63, 64, 65, 66, 41, 42, 43, 44]) rfl) ((Cy70_12.st (tr11 p110 p113 p116 p121 p122 p129 p137 p141 p142 p147 p153) rfl).rd.sub (D := [63, 64, 65, 66, 41, 42, 43, 44]) rfl)) (fun r164 s165 p165 n165 => ?_)
 refine Xb rfl (Xb rfl (jy [80, 81, 82, 83, 84] [] 84 (.bool ((!r164) || (!(r140.2 == r6.2)))) rfl (fun Kg166 => ?_) (fun j166 => ?_)))
 ·
  rcases bft (!r164) with hb166 | hb166
  ·
   exact sbT hb166 (Xi rfl (Xi rfl (Xi rfl (Xb rfl (Kg166 _ (Ag.put ((Ag.put ((Ag.put ((Ag.put (Ag.base rfl) rfl)) rfl)) rfl)) rfl) (by rw [hb166]; rfl))))))
  exact sbT hb166 (Xb rfl (Xb rfl (bne_ u4 rfl rfl rfl rfl rfl rfl rfl (Xb rfl (Kg166 _ (Ag.put ((Ag.put ((Ag.put ((Ag.put (Ag.base rfl) rfl)) rfl)) rfl)) rfl) (by rw [hb166]; rfl))))))
 refine dn (cd rfl (fun h167 => ?_) (fun h167 => ?_))
 ·
  refine sr (Xb rfl (dn ?_))
  exact re rfl func4 rfl (Xv rfl Xg) rfl ⟨_, rfl, rfl, z.ky (K139.st (tr5 p141 p142 p147 p153 p165) rfl)⟩
 refine sk (sr (Xb rfl (dn (sr ?_))))
 refine Xw (es := [(iI r27.1.Kind), (iI r27.1.Seat), (iI r27.1.Level), (iI r27.1.N), (iI r27.1.Key.Kind), (iI r27.1.Key.N), v27_0, v27_1, (iI r27.1.To.Kind), (iI r27.1.To.N), v27_2, v27_3, (iI r27.1.Value.Kind), (iI r27.1.Value.N), v27_4, v27_5, v27_6]) (A127.st (tr7 p129 p137 p141 p142 p147 p153 p165) rfl) u35 z35 rfl (Xb rfl ?_)
 refine clV 69 rfl func21 rfl (laws_heldOp.calls (Op.mk r27.1.Kind r27.1.Seat r27.1.Level r27.1.N (Item.mk r27.1.Key.Kind r27.1.Key.N r27.1.Key.F r120.2.Key.T) (Item.mk r27.1.To.Kind r27.1.To.N r27.1.To.F r120.2.To.T) (Item.mk r27.1.Value.Kind r27.1.Value.N r27.1.Value.F r120.2.Value.T) r120.2.Keep) (1 : Int) s165.w (mm [47, 58, 59, 60] s165) v27_0 v27_1 v27_2 v27_3 v27_4 v27_5 v27_6 ((Xh (s := s165) hu27_0_0).sub (D := [47, 58, 59, 60]) rfl) ((Au120_w_1.st (tr7 p129 p137 p141 p142 p147 p153 p165) rfl).rd.sub (D := [47, 58, 59, 60]) rfl) ((Xh (s := s165) hu27_0_2).sub (D := [47, 58, 59, 60]) rfl) ((Au120_w_3.st (tr7 p129 p137 p141 p142 p147 p153 p165) rfl).rd.sub (D := [47, 58, 59, 60]) rfl) ((Xh (s := s165) hu27_0_4).sub (D := [47, 58, 59, 60]) rfl) ((Au120_w_5.st (tr7 p129 p137 p141 p142 p147 p153 p165) rfl).rd.sub (D := [47, 58, 59, 60]) rfl) ((Au120_w_6.st (tr7 p129 p137 p141 p142 p147 p153 p165) rfl).rd.sub (D := [47, 58, 59, 60]) rfl)) (fun r174 s175 p175 n175 => ?_)
 refine Xb rfl (dn (sq (sr (Xb rfl (Xb rfl (dn (cd rfl (fun h176 => ?_) (fun h176 => ?_))))))))
 ·
  refine sr (Xb rfl (dn ?_))
  exact re rfl func4 rfl (Xv rfl Xg) rfl ⟨_, rfl, rfl, z.ky (K139.st (tr6 p141 p142 p147 p153 p165 p175) rfl)⟩
 refine sk (sq (sr (Xb rfl (Xb rfl (Xb rfl (dn (cd rfl (fun h178 => ?_) (fun h178 => ?_))))))))
 ·
  refine sr (Xb rfl (dn ?_))
  exact re rfl func4 rfl (Xv rfl Xg) rfl ⟨_, rfl, rfl, z.ky (K139.st (tr6 p141 p142 p147 p153 p165 p175) rfl)⟩
 refine sk (sr (Xb rfl (dn ?_)))
 exact re rfl func4 rfl (Xv rfl Xg) rfl ⟨_, rfl, rfl, z.ky (K139.st (tr6 p141 p142 p147 p153 p165 p175) rfl)⟩
end Go.Proofs.YtdhefendaopcbaaGreatDoor
