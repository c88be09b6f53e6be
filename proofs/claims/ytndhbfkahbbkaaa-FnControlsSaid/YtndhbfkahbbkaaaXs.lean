/- The functions as models, and that the calls come to what the models tell. -/
import Derived.Test.YtndhbfkahbbkaaaXt
set_option linter.unusedVariables false
set_option linter.unusedSimpArgs false
namespace Go.Proofs.Ytndhbfkahbbkaaa
open Go V
noncomputable def spec_l5in.f (a0 : Int) (a1 : Int) (a2 : Int) : Option (Bool) :=
  (some ((decide (a0 ≥ a1)) && (decide (a0 ≤ a2))))
def spec_l5in.Q (w : World) (F : Nat → Prop) (r : Bool) (v : Value) (w' : World) : Prop :=
  v = (.bool r) ∧ Ky [] w w'
set_option maxHeartbeats 4000000 in
set_option maxRecDepth 100000 in
theorem spec_l5in.calls (a0 : Int) (a1 : Int) (a2 : Int) (w : World) (F : Nat → Prop)   (r : Bool) (m : spec_l5in.f a0 a1 a2 = some r) :
    Calls Try.prog 30 #[(.int .i64 a0), (.int .i64 a1), (.int .i64 a2)] w fun en w' => ∃ v, en = .returned v ∧ spec_l5in.Q w F r v w' := by
  obtain ⟨s0, rfl, kp0, z⟩ := start0 w F
  refine calls_of_TM (args := [(.int .i64 a0), (.int .i64 a1), (.int .i64 a2)]) (R := fun r en w' => ∃ v, en = .returned v ∧ spec_l5in.Q s0.w F r v w') Try.func30 Try.ntmps30 rfl rfl m ?_
  unfold spec_l5in.f
  refine sr ?_
  refine pu rfl rfl rfl rfl rfl ?_
  refine dn ?_
  refine sr ?_
  refine pu rfl rfl rfl rfl rfl ?_
  refine pu rfl rfl rfl rfl rfl ?_
  refine pu rfl rfl rfl rfl rfl ?_
  refine pu rfl rfl rfl rfl rfl ?_
  refine jy [10, 11, 12, 13, 14] [8] 14 (.bool ((decide (a0 ≥ a1)) && (decide (a0 ≤ a2)))) rfl (fun Kg1 => ?_) (fun j1 => ?_)
  ·
    rcases Bool.eq_false_or_eq_true (decide (a0 ≥ a1)) with hb1 | hb1
    ·
      refine sbT hb1 ?_
      refine pu rfl rfl rfl rfl rfl ?_
      refine pu rfl rfl rfl rfl rfl ?_
      refine pu rfl rfl rfl rfl rfl ?_
      refine pu rfl rfl rfl rfl rfl ?_
      exact Kg1 _ (Ag.put ((Ag.put ((Ag.put ((Ag.put (Ag.base rfl) rfl)) rfl)) rfl)) rfl) (by rw [hb1]; rfl)
    ·
      refine sbT hb1 ?_
      refine uw rfl rfl rfl rfl ?_
      refine uw rfl rfl rfl rfl ?_
      refine uw rfl rfl rfl rfl ?_
      refine pu rfl rfl rfl rfl rfl ?_
      exact Kg1 _ (Ag.put ((Ag.put ((Ag.put ((Ag.put (Ag.base rfl) rfl)) rfl)) rfl)) rfl) (by rw [hb1]; rfl)
  refine pu rfl rfl rfl rfl rfl ?_
  refine dn ?_
  exact re rfl Try.func30 rfl (r_t rfl r_nil) rfl ⟨_, rfl, rfl, z.ky kp0⟩
noncomputable def spec_PutNum.b0 (a1 : Int) (x4 : Int × (List Int) × Int) : Option ((Int × (List Int) × Int) ⊕ (List Int)) :=
  (if (decide (x4.2.2 < a1)) = true then (if x4.2.1.length + ([(IntKind.wrap .u8 (x4.1.tmod (256 : Int)))]).length ≤ Lim then (some (.inl ((IntKind.wrap .i64 (x4.1.tdiv (256 : Int))), (x4.2.1 ++ [(IntKind.wrap .u8 (x4.1.tmod (256 : Int)))]), (IntKind.wrap .i64 (x4.2.2 + (1 : Int)))))) else none) else ((if (decide (x4.1 > (0 : Int))) = true then (some ([] : (List Int))) else (some x4.2.1)).bind fun o => some (.inr o)))
noncomputable def spec_PutNum.f (a0 : Int) (a1 : Int) : Option ((List Int)) :=
  (if (((decide (a1 < (1 : Int))) || (decide (a1 > (8 : Int)))) || (decide (a0 < (0 : Int)))) = true then (some ([] : (List Int))) else (iter (spec_PutNum.b0 a1) (a0, ([] : (List Int)), (0 : Int))))
def spec_PutNum.Q (w : World) (F : Nat → Prop) (r : (List Int)) (v : Value) (w' : World) : Prop :=
  FO (Kd.sl 5 (Kd.int .u8)) w w' [v] r ∧ Ky [] w w'
set_option maxHeartbeats 4000000 in
set_option maxRecDepth 100000 in
theorem spec_PutNum.calls (a0 : Int) (a1 : Int) (w : World) (F : Nat → Prop)   (r : (List Int)) (m : spec_PutNum.f a0 a1 = some r) :
    Calls Try.prog 31 #[(.int .i64 a0), (.int .i64 a1)] w fun en w' => ∃ v, en = .returned v ∧ spec_PutNum.Q w F r v w' := by
  obtain ⟨s0, rfl, kp0, z⟩ := start0 w F
  refine calls_of_TM (args := [(.int .i64 a0), (.int .i64 a1)]) (R := fun r en w' => ∃ v, en = .returned v ∧ spec_PutNum.Q s0.w F r v w') Try.func31 Try.ntmps31 rfl rfl m ?_
  unfold spec_PutNum.f
  refine sr ?_
  refine pu rfl rfl rfl rfl rfl ?_
  refine dn ?_
  refine sr ?_
  refine pu rfl rfl rfl rfl rfl ?_
  refine dn ?_
  refine sq ?_
  refine sr ?_
  refine pu rfl rfl rfl rfl rfl ?_
  refine pu rfl rfl rfl rfl rfl ?_
  refine pu rfl rfl rfl rfl rfl ?_
  refine jy [9, 10, 11, 12] [6, 7, 8, 9] 12 (.bool ((decide (a1 < (1 : Int))) || (decide (a1 > (8 : Int))))) rfl (fun Kg1 => ?_) (fun j1 => ?_)
  ·
    rcases Bool.eq_false_or_eq_true (decide (a1 < (1 : Int))) with hb1 | hb1
    ·
      refine sbT hb1 ?_
      refine uw rfl rfl rfl rfl ?_
      refine uw rfl rfl rfl rfl ?_
      refine pu rfl rfl rfl rfl rfl ?_
      exact Kg1 _ (Ag.put ((Ag.put ((Ag.put (Ag.base rfl) rfl)) rfl)) rfl) (by rw [hb1]; rfl)
    ·
      refine sbT hb1 ?_
      refine pu rfl rfl rfl rfl rfl ?_
      refine pu rfl rfl rfl rfl rfl ?_
      refine pu rfl rfl rfl rfl rfl ?_
      exact Kg1 _ (Ag.put ((Ag.put ((Ag.put (Ag.base rfl) rfl)) rfl)) rfl) (by rw [hb1]; rfl)
  refine pu rfl rfl rfl rfl rfl ?_
  refine jy [13, 14, 15, 16] [] 16 (.bool (((decide (a1 < (1 : Int))) || (decide (a1 > (8 : Int)))) || (decide (a0 < (0 : Int))))) rfl (fun Kg2 => ?_) (fun j2 => ?_)
  ·
    rcases Bool.eq_false_or_eq_true ((decide (a1 < (1 : Int))) || (decide (a1 > (8 : Int)))) with hb2 | hb2
    ·
      refine sbT hb2 ?_
      refine uw rfl rfl rfl rfl ?_
      refine uw rfl rfl rfl rfl ?_
      refine pu rfl rfl rfl rfl rfl ?_
      exact Kg2 _ (Ag.put ((Ag.put ((Ag.put (Ag.base rfl) rfl)) rfl)) rfl) (by rw [hb2]; rfl)
    ·
      refine sbT hb2 ?_
      refine pu rfl rfl rfl rfl rfl ?_
      refine pu rfl rfl rfl rfl rfl ?_
      refine pu rfl rfl rfl rfl rfl ?_
      exact Kg2 _ (Ag.put ((Ag.put ((Ag.put (Ag.base rfl) rfl)) rfl)) rfl) (by rw [hb2]; rfl)
  refine dn ?_
  refine cd rfl (fun h3 => ?_) (fun h3 => ?_)
  ·
    refine sr ?_
    refine pu rfl rfl rfl rfl rfl ?_
    refine pu rfl rfl rfl rfl rfl ?_
    refine dn ?_
    exact re rfl Try.func31 rfl (r_t rfl r_nil) rfl ⟨_, rfl, (ow_nil 5 (Kd.int .u8) s0 10).fo kp0 rfl, z.ky kp0⟩
  ·
    refine sk ?_
    refine sq ?_
    refine sr ?_
    refine pu rfl rfl rfl rfl rfl ?_
    refine dn ?_
    refine bl ?_
    refine lpI (fun (x4 : Int × (List Int) × Int) (e : Env) (w : World) => ∃ (s : St) (e0 : Env) (vx4_0 : Value), w = s.w ∧ e = upd (upd (upd (upd e0 0 (.int .i64 x4.1)) 1 (.int .i64 a1)) 5 vx4_0) 6 (.int .i64 x4.2.2) ∧ Kp s0 s ∧ OwF (Kd.sl 5 (Kd.int .u8)) s [vx4_0] x4.2.1 10) ⟨s0, _, (.slice none 0 0), rfl, (ue (ue (ue (ue rfl rfl) rfl) rfl) rfl), kp0, (ow_nil 5 (Kd.int .u8) _ 10)⟩ (fun g4 ih4 => ?_)
    rintro x4 _ _ ⟨s5, _, vx4_0, rfl, rfl, Kx4, Ax4_0⟩
    unfold spec_PutNum.b0
    refine sq ?_
    refine sr ?_
    refine pu rfl rfl rfl rfl rfl ?_
    refine pu rfl rfl rfl rfl rfl ?_
    refine pu rfl rfl rfl rfl rfl ?_
    refine dn ?_
    refine cd rfl (fun h7 => ?_) (fun h7 => ?_)
    ·
      refine sk ?_
      refine sq ?_
      refine bl ?_
      refine sr ?_
      refine mv vx4_0 rfl rfl rfl rfl rfl rfl ?_
      refine pu rfl rfl rfl rfl rfl ?_
      refine remK rfl rfl rfl rfl rfl rfl rfl rfl ?_
      refine cv Try.underlying5 Try.underlying3 rfl rfl rfl rfl rfl rfl ?_
      refine ltF (K := (Kd.int .u8)) (cells := [(.int .u8 (IntKind.wrap .u8 (x4.1.tmod (256 : Int))))]) [(IntKind.wrap .u8 (x4.1.tmod (256 : Int)))] 11 fl_int Try.underlying24 z5 o5 (fun w => (els_flat _ _ _)) rfl rfl rfl rfl rfl rfl rfl rfl rfl rfl (fun v8 s8 p8 A8 => ?_)
      have A10 := (Ax4_0.st p8 rfl)
      refine apF fl_int sl24 A10 A8.rd rfl rfl rfl rfl rfl rfl rfl (fun v11 s11 p11 A11 => ?_)
      refine asg v11 rfl rfl rfl rfl rfl rfl ?_
      refine dn ?_
      refine rg ?_
      refine pu rfl rfl rfl rfl rfl ?_
      refine quoK rfl rfl rfl rfl rfl rfl rfl rfl ?_
      refine pu rfl rfl rfl rfl rfl ?_
      refine dn ?_
      refine ib ?_
      refine rg ?_
      refine pu rfl rfl rfl rfl rfl ?_
      refine pu rfl rfl rfl rfl rfl ?_
      refine pu rfl rfl rfl rfl rfl ?_
      refine dn ?_
      have K13 := ((Kx4.st p8 rfl).st p11 rfl)
      exact lb ih4 ⟨s11, _, v11, rfl, (ue (ue (ue (ue rfl rfl) rfl) rfl) rfl), K13, A11⟩
    ·
      refine xt rfl ?_
      refine sgb ?_
      refine sq ?_
      refine sr ?_
      refine pu rfl rfl rfl rfl rfl ?_
      refine pu rfl rfl rfl rfl rfl ?_
      refine dn ?_
      refine cd rfl (fun h14 => ?_) (fun h14 => ?_)
      ·
        refine sr ?_
        refine pu rfl rfl rfl rfl rfl ?_
        refine dn ?_
        exact re rfl Try.func31 rfl (r_t rfl r_nil) rfl ⟨_, rfl, (ow_nil 5 (Kd.int .u8) s5 10).fo Kx4 rfl, z.ky Kx4⟩
      ·
        refine sk ?_
        refine sr ?_
        refine mv vx4_0 rfl rfl rfl rfl rfl rfl ?_
        refine asg vx4_0 rfl rfl rfl rfl rfl rfl ?_
        refine dn ?_
        exact re rfl Try.func31 rfl (r_t rfl r_nil) rfl ⟨_, rfl, Ax4_0.fo Kx4 rfl, z.ky Kx4⟩
noncomputable def spec_Crc.b1 (x3 : Int × Int) (x9 : Int × Int) : Option ((Int × Int) ⊕ (Int × Int ⊕ Int)) :=
  (if (decide (x9.2 < (8 : Int))) = true then ((if ((x9.1.tmod (2 : Int)) == (1 : Int)) = true then (some (ixor .i64 (IntKind.wrap .i64 (x9.1.tdiv (2 : Int))) (3988292384 : Int))) else (some (IntKind.wrap .i64 (x9.1.tdiv (2 : Int))))).bind fun y12 => (some (.inl (y12, (IntKind.wrap .i64 (x9.2 + (1 : Int))))))) else ((some (.inl (x9.1, (IntKind.wrap .i64 (x3.2 + (1 : Int)))))).bind fun o => some (.inr o)))
noncomputable def spec_Crc.b0 (a0 : (List Int)) (x3 : Int × Int) : Option ((Int × Int) ⊕ Int) :=
  (if (decide (x3.2 < (a0.length : Int))) = true then (if 0 ≤ x3.2 ∧ x3.2 < (a0.length : Int) then (iter (spec_Crc.b1 x3) ((ixor .i64 x3.1 (IntKind.wrap .i64 (at_ a0 x3.2))), (0 : Int))) else none) else ((some (ixor .i64 x3.1 (4294967295 : Int))).bind fun o => some (.inr o)))
noncomputable def spec_Crc.f (a0 : (List Int)) : Option (Int) :=
  (if (decide ((a0.length : Int) > (65536 : Int))) = true then (some (-1 : Int)) else (iter (spec_Crc.b0 a0) ((4294967295 : Int), (0 : Int))))
def spec_Crc.Q (w : World) (F : Nat → Prop) (r : Int) (v : Value) (w' : World) : Prop :=
  v = (.int .i64 r) ∧ Ky [] w w'
set_option maxHeartbeats 4000000 in
set_option maxRecDepth 100000 in
theorem spec_Crc.calls (a0 : (List Int)) (w : World) (F : Nat → Prop) (w0_0 : Value) (h0_0 : (Kd.sl 5 (Kd.int .u8)).rd w [w0_0] a0 F) (r : Int) (m : spec_Crc.f a0 = some r) :
    Calls Try.prog 57 #[w0_0] w fun en w' => ∃ v, en = .returned v ∧ spec_Crc.Q w F r v w' := by
  obtain ⟨s0, rfl, kp0, z⟩ := start0 w F
  have A0_0 := z.rd h0_0
  refine calls_of_TM (args := [w0_0]) (R := fun r en w' => ∃ v, en = .returned v ∧ spec_Crc.Q s0.w F r v w') Try.func57 Try.ntmps57 rfl rfl m ?_
  unfold spec_Crc.f
  refine sr ?_
  refine pu rfl rfl rfl rfl rfl ?_
  refine dn ?_
  refine sq ?_
  refine sr ?_
  refine mv w0_0 rfl rfl rfl rfl rfl rfl ?_
  refine ln A0_0 Try.underlying24 rfl rfl rfl rfl rfl rfl ?_
  refine pu rfl rfl rfl rfl rfl ?_
  refine dn ?_
  refine cd rfl (fun h2 => ?_) (fun h2 => ?_)
  ·
    refine sr ?_
    refine pu rfl rfl rfl rfl rfl ?_
    refine dn ?_
    exact re rfl Try.func57 rfl (r_t rfl r_nil) rfl ⟨_, rfl, rfl, z.ky kp0⟩
  ·
    refine sk ?_
    refine sr ?_
    refine pu rfl rfl rfl rfl rfl ?_
    refine dn ?_
    refine sq ?_
    refine sr ?_
    refine pu rfl rfl rfl rfl rfl ?_
    refine dn ?_
    refine bl ?_
    refine lpI (fun (x3 : Int × Int) (e : Env) (w : World) => ∃ (s : St) (e0 : Env), w = s.w ∧ e = upd (upd (upd e0 0 w0_0) 3 (.int .i64 x3.1)) 4 (.int .i64 x3.2) ∧ Kp s0 s) ⟨s0, _, rfl, (ue (ue (ue rfl rfl) rfl) rfl), kp0⟩ (fun g3 ih3 => ?_)
    rintro x3 _ _ ⟨s4, _, rfl, rfl, Kx3⟩
    unfold spec_Crc.b0
    refine sq ?_
    refine sr ?_
    refine pu rfl rfl rfl rfl rfl ?_
    refine mv w0_0 rfl rfl rfl rfl rfl rfl ?_
    have A5 := (A0_0.kp Kx3)
    refine ln A5 Try.underlying24 rfl rfl rfl rfl rfl rfl ?_
    refine pu rfl rfl rfl rfl rfl ?_
    refine dn ?_
    refine cd rfl (fun h6 => ?_) (fun h6 => ?_)
    ·
      refine sk ?_
      refine sq ?_
      refine bl ?_
      refine sr ?_
      refine pu rfl rfl rfl rfl rfl ?_
      refine mv w0_0 rfl rfl rfl rfl rfl rfl ?_
      refine pu rfl rfl rfl rfl rfl ?_
      refine ix A5 Try.underlying24 z5 rfl rfl rfl rfl rfl rfl rfl rfl (fun ad7 es7 h0_7 h1_7 he7 ce7 ia7 => ?_)
      obtain rfl := he7
      refine lc0 ce7 Try.underlying5 rfl rfl rfl rfl rfl rfl rfl rfl ?_
      refine cv Try.underlying3 Try.underlying5 rfl rfl rfl rfl rfl rfl ?_
      refine pu rfl rfl rfl rfl rfl ?_
      refine pu rfl rfl rfl rfl rfl ?_
      refine dn ?_
      refine sr ?_
      refine pu rfl rfl rfl rfl rfl ?_
      refine dn ?_
      refine bl ?_
      refine lpI (fun (x9 : Int × Int) (e : Env) (w : World) => ∃ (s : St) (e0 : Env), w = s.w ∧ e = upd (upd (upd (upd e0 0 w0_0) 3 (.int .i64 x9.1)) 4 (.int .i64 x3.2)) 5 (.int .i64 x9.2) ∧ Kp s0 s) ⟨s4, _, rfl, (ue (ue (ue (ue rfl rfl) rfl) rfl) rfl), Kx3⟩ (fun g9 ih9 => ?_)
      rintro x9 _ _ ⟨s10, _, rfl, rfl, Kx9⟩
      unfold spec_Crc.b1
      refine sq ?_
      refine sr ?_
      refine pu rfl rfl rfl rfl rfl ?_
      refine pu rfl rfl rfl rfl rfl ?_
      refine dn ?_
      refine cd rfl (fun h11 => ?_) (fun h11 => ?_)
      ·
        refine sk ?_
        refine sq ?_
        refine bl ?_
        refine sr ?_
        refine pu rfl rfl rfl rfl rfl ?_
        refine remK rfl rfl rfl rfl rfl rfl rfl rfl ?_
        refine pu rfl rfl rfl rfl rfl ?_
        refine dn ?_
        refine sr ?_
        refine pu rfl rfl rfl rfl rfl ?_
        refine quoK rfl rfl rfl rfl rfl rfl rfl rfl ?_
        refine pu rfl rfl rfl rfl rfl ?_
        refine dn ?_
        refine sr ?_
        refine pu rfl rfl rfl rfl rfl ?_
        refine pu rfl rfl rfl rfl rfl ?_
        refine dn ?_
        refine jc (fun (y12 : Int) (e : Env) (w : World) => ∃ (s : St) (e0 : Env), w = s.w ∧ e = upd (upd (upd (upd e0 0 w0_0) 3 (.int .i64 y12)) 4 (.int .i64 x3.2)) 5 (.int .i64 x9.2) ∧ Kp s0 s) (fun Gj12 Kj12 => ?_) ?_
        ·
          refine cd rfl (fun h13 => ?_) (fun h13 => ?_)
          ·
            refine rg ?_
            refine pu rfl rfl rfl rfl rfl ?_
            refine pu rfl rfl rfl rfl rfl ?_
            refine pu rfl rfl rfl rfl rfl ?_
            refine dn ?_
            exact Kj12 _ _ _ ⟨s10, _, rfl, (ue (ue (ue (ue rfl rfl) rfl) rfl) rfl), Kx9⟩
          ·
            refine sk ?_
            exact Kj12 _ _ _ ⟨s10, _, rfl, (ue (ue (ue (ue rfl rfl) rfl) rfl) rfl), Kx9⟩
        rintro y12 _ _ ⟨s14, _, rfl, rfl, Ky12⟩
        refine ib ?_
        refine rg ?_
        refine pu rfl rfl rfl rfl rfl ?_
        refine pu rfl rfl rfl rfl rfl ?_
        refine pu rfl rfl rfl rfl rfl ?_
        refine dn ?_
        exact lb ih9 ⟨s14, _, rfl, (ue (ue (ue (ue rfl rfl) rfl) rfl) rfl), Ky12⟩
      ·
        refine xt rfl ?_
        refine sgb ?_
        refine ib ?_
        refine rg ?_
        refine pu rfl rfl rfl rfl rfl ?_
        refine pu rfl rfl rfl rfl rfl ?_
        refine pu rfl rfl rfl rfl rfl ?_
        refine dn ?_
        exact lb ih3 ⟨s10, _, rfl, (ue (ue (ue rfl rfl) rfl) rfl), Kx9⟩
    ·
      refine xt rfl ?_
      refine sgb ?_
      refine sr ?_
      refine pu rfl rfl rfl rfl rfl ?_
      refine pu rfl rfl rfl rfl rfl ?_
      refine pu rfl rfl rfl rfl rfl ?_
      refine dn ?_
      exact re rfl Try.func57 rfl (r_t rfl r_nil) rfl ⟨_, rfl, rfl, z.ky Kx3⟩
noncomputable def spec_Frame.f (a0 : Int) (a1 : (List Int)) : Option ((List Int)) :=
  (if (((decide (a0 < (1 : Int))) || (decide (a0 > (255 : Int)))) || (decide ((a1.length : Int) > (1000 : Int)))) = true then (some ([] : (List Int))) else (if ([] : (List Int)).length + ([(IntKind.wrap .u8 a0)]).length ≤ Lim then ((spec_PutNum.f (a1.length : Int) (2 : Int)).bind fun r11 => (if (([] : (List Int)) ++ [(IntKind.wrap .u8 a0)]).length + r11.length ≤ Lim then (if ((([] : (List Int)) ++ [(IntKind.wrap .u8 a0)]) ++ r11).length + a1.length ≤ Lim then ((spec_Crc.f (((([] : (List Int)) ++ [(IntKind.wrap .u8 a0)]) ++ r11) ++ a1)).bind fun r21 => ((spec_PutNum.f r21 (4 : Int)).bind fun r23 => (if (((([] : (List Int)) ++ [(IntKind.wrap .u8 a0)]) ++ r11) ++ a1).length + r23.length ≤ Lim then (some ((((([] : (List Int)) ++ [(IntKind.wrap .u8 a0)]) ++ r11) ++ a1) ++ r23)) else none))) else none) else none)) else none))
def spec_Frame.Q (w : World) (F : Nat → Prop) (r : (List Int)) (v : Value) (w' : World) : Prop :=
  FO (Kd.sl 5 (Kd.int .u8)) w w' [v] r ∧ Ky [] w w'
set_option maxHeartbeats 4000000 in
set_option maxRecDepth 100000 in
theorem spec_Frame.calls (a0 : Int) (a1 : (List Int)) (w : World) (F : Nat → Prop) (w1_0 : Value) (h1_0 : (Kd.sl 5 (Kd.int .u8)).rd w [w1_0] a1 F) (r : (List Int)) (m : spec_Frame.f a0 a1 = some r) :
    Calls Try.prog 33 #[(.int .i64 a0), w1_0] w fun en w' => ∃ v, en = .returned v ∧ spec_Frame.Q w F r v w' := by
  obtain ⟨s0, rfl, kp0, z⟩ := start0 w F
  have A1_0 := z.rd h1_0
  refine calls_of_TM (args := [(.int .i64 a0), w1_0]) (R := fun r en w' => ∃ v, en = .returned v ∧ spec_Frame.Q s0.w F r v w') Try.func33 Try.ntmps33 rfl rfl m ?_
  unfold spec_Frame.f
  refine sr ?_
  refine pu rfl rfl rfl rfl rfl ?_
  refine dn ?_
  refine sr ?_
  refine pu rfl rfl rfl rfl rfl ?_
  refine dn ?_
  refine sq ?_
  refine sr ?_
  refine pu rfl rfl rfl rfl rfl ?_
  refine pu rfl rfl rfl rfl rfl ?_
  refine pu rfl rfl rfl rfl rfl ?_
  refine jy [8, 9, 10, 11] [6, 7, 8, 9, 10] 11 (.bool ((decide (a0 < (1 : Int))) || (decide (a0 > (255 : Int))))) rfl (fun Kg2 => ?_) (fun j2 => ?_)
  ·
    rcases Bool.eq_false_or_eq_true (decide (a0 < (1 : Int))) with hb2 | hb2
    ·
      refine sbT hb2 ?_
      refine uw rfl rfl rfl rfl ?_
      refine uw rfl rfl rfl rfl ?_
      refine pu rfl rfl rfl rfl rfl ?_
      exact Kg2 _ (Ag.put ((Ag.put ((Ag.put (Ag.base rfl) rfl)) rfl)) rfl) (by rw [hb2]; rfl)
    ·
      refine sbT hb2 ?_
      refine pu rfl rfl rfl rfl rfl ?_
      refine pu rfl rfl rfl rfl rfl ?_
      refine pu rfl rfl rfl rfl rfl ?_
      exact Kg2 _ (Ag.put ((Ag.put ((Ag.put (Ag.base rfl) rfl)) rfl)) rfl) (by rw [hb2]; rfl)
  refine pu rfl rfl rfl rfl rfl ?_
  refine jy [12, 13, 14, 15, 16] [] 16 (.bool (((decide (a0 < (1 : Int))) || (decide (a0 > (255 : Int)))) || (decide ((a1.length : Int) > (1000 : Int))))) rfl (fun Kg3 => ?_) (fun j3 => ?_)
  ·
    rcases Bool.eq_false_or_eq_true ((decide (a0 < (1 : Int))) || (decide (a0 > (255 : Int)))) with hb3 | hb3
    ·
      refine sbT hb3 ?_
      refine uw rfl rfl rfl rfl ?_
      refine uw rfl rfl rfl rfl ?_
      refine uw rfl rfl rfl rfl ?_
      refine pu rfl rfl rfl rfl rfl ?_
      exact Kg3 _ (Ag.put ((Ag.put ((Ag.put ((Ag.put (Ag.base rfl) rfl)) rfl)) rfl)) rfl) (by rw [hb3]; rfl)
    ·
      refine sbT hb3 ?_
      refine mv w1_0 rfl rfl rfl rfl rfl rfl ?_
      refine ln A1_0 Try.underlying24 rfl rfl rfl rfl rfl rfl ?_
      refine pu rfl rfl rfl rfl rfl ?_
      refine pu rfl rfl rfl rfl rfl ?_
      exact Kg3 _ (Ag.put ((Ag.put ((Ag.put ((Ag.put (Ag.base rfl) rfl)) rfl)) rfl)) rfl) (by rw [hb3]; rfl)
  refine dn ?_
  refine cd rfl (fun h4 => ?_) (fun h4 => ?_)
  ·
    refine sr ?_
    refine pu rfl rfl rfl rfl rfl ?_
    refine pu rfl rfl rfl rfl rfl ?_
    refine dn ?_
    exact re rfl Try.func33 rfl (r_t rfl r_nil) rfl ⟨_, rfl, (ow_nil 5 (Kd.int .u8) s0 10).fo kp0 rfl, z.ky kp0⟩
  ·
    refine sk ?_
    refine sr ?_
    refine pu rfl rfl rfl rfl rfl ?_
    refine pu rfl rfl rfl rfl rfl ?_
    refine cv Try.underlying5 Try.underlying3 rfl rfl rfl rfl rfl rfl ?_
    refine ltF (K := (Kd.int .u8)) (cells := [(.int .u8 (IntKind.wrap .u8 a0))]) [(IntKind.wrap .u8 a0)] 10 fl_int Try.underlying24 z5 o5 (fun w => (els_flat _ _ _)) rfl rfl rfl rfl rfl rfl rfl rfl rfl rfl (fun v5 s5 p5 A5 => ?_)
    refine apF fl_int sl24 (ow_nil 5 (Kd.int .u8) s5 11) A5.rd rfl rfl rfl rfl rfl rfl rfl (fun v7 s7 p7 A7 => ?_)
    refine asg v7 rfl rfl rfl rfl rfl rfl ?_
    refine dn ?_
    refine sr ?_
    refine mv v7 rfl rfl rfl rfl rfl rfl ?_
    refine mv w1_0 rfl rfl rfl rfl rfl rfl ?_
    have K9 := ((kp0.st p5 rfl).st p7 rfl)
    have A10 := (A1_0.kp K9)
    refine ln A10 Try.underlying24 rfl rfl rfl rfl rfl rfl ?_
    refine cl rfl rfl rfl rfl rfl Try.func31 rfl rfl rfl (fun r11 m11 => spec_PutNum.calls (a1.length : Int) (2 : Int) s7.w (fun b => memb [] (s7.g b) = true)  r11 m11) ?_
    rintro r11 v11_0 w11 m11 ⟨f11_0, ky11⟩
    obtain ⟨s12, rfl, p12, n12⟩ := nwx s7 w11 12 ky11
    have A11_0 := f11_0.c n12
    have A14 := (A7.st p12 rfl)
    refine apF fl_int sl24 A14 A11_0.rd rfl rfl rfl rfl rfl rfl rfl (fun v15 s15 p15 A15 => ?_)
    refine asg v15 rfl rfl rfl rfl rfl rfl ?_
    refine dn ?_
    refine sr ?_
    refine mv v15 rfl rfl rfl rfl rfl rfl ?_
    refine mv w1_0 rfl rfl rfl rfl rfl rfl ?_
    have K17 := ((K9.st p12 rfl).st p15 rfl)
    have A18 := (A1_0.kp K17)
    refine apF fl_int sl24 A15 A18 rfl rfl rfl rfl rfl rfl rfl (fun v19 s19 p19 A19 => ?_)
    refine asg v19 rfl rfl rfl rfl rfl rfl ?_
    refine dn ?_
    refine sr ?_
    refine mv v19 rfl rfl rfl rfl rfl rfl ?_
    refine mv v19 rfl rfl rfl rfl rfl rfl ?_
    refine cl rfl rfl rfl rfl rfl Try.func57 rfl rfl rfl (fun r21 m21 => spec_Crc.calls (((([] : (List Int)) ++ [(IntKind.wrap .u8 a0)]) ++ r11) ++ a1) s19.w (fun b => memb [11] (s19.g b) = true) v19 A19.rd r21 m21) ?_
    rintro r21 _ w21 m21 ⟨rfl, ky21⟩
    obtain ⟨s22, rfl, p22, n22⟩ := nwx s19 w21 13 ky21
    refine cl rfl rfl rfl rfl rfl Try.func31 rfl rfl rfl (fun r23 m23 => spec_PutNum.calls r21 (4 : Int) s22.w (fun b => memb [] (s22.g b) = true)  r23 m23) ?_
    rintro r23 v23_0 w23 m23 ⟨f23_0, ky23⟩
    obtain ⟨s24, rfl, p24, n24⟩ := nwx s22 w23 14 ky23
    have A23_0 := f23_0.c n24
    have A26 := ((A19.st p22 rfl).st p24 rfl)
    refine apF fl_int sl24 A26 A23_0.rd rfl rfl rfl rfl rfl rfl rfl (fun v27 s27 p27 A27 => ?_)
    refine asg v27 rfl rfl rfl rfl rfl rfl ?_
    refine dn ?_
    have K29 := ((((K17.st p19 rfl).st p22 rfl).st p24 rfl).st p27 rfl)
    exact re rfl Try.func33 rfl (r_t rfl r_nil) rfl ⟨_, rfl, A27.fo K29 rfl, z.ky K29⟩
noncomputable def spec_l17fill.b0 (a0 : (List Int)) (x4 : (List Int) × Int) : Option (((List Int) × Int) ⊕ (List Int)) :=
  (if ((decide (x4.2 < (a0.length : Int))) && (decide (x4.2 < (x4.1.length : Int)))) = true then (if 0 ≤ x4.2 ∧ x4.2 < (a0.length : Int) then (if 0 ≤ x4.2 ∧ x4.2 < (x4.1.length : Int) then (some (.inl ((x4.1.set (x4.2).toNat (at_ a0 x4.2)), (IntKind.wrap .i64 (x4.2 + (1 : Int)))))) else none) else none) else ((some x4.1).bind fun o => some (.inr o)))
noncomputable def spec_l17fill.f (a0 : (List Int)) : Option ((List Int)) :=
  (if 0 ≤ (64 : Int) ∧ (64 : Int) ≤ (Lim : Int) then (iter (spec_l17fill.b0 a0) ((List.replicate ((64 : Int)).toNat (0 : Int)), (0 : Int))) else none)
def spec_l17fill.Q (w : World) (F : Nat → Prop) (r : (List Int)) (v : Value) (w' : World) : Prop :=
  FO (Kd.sl 5 (Kd.int .u8)) w w' [v] r ∧ Ky [] w w'
set_option maxHeartbeats 4000000 in
set_option maxRecDepth 100000 in
theorem spec_l17fill.calls (a0 : (List Int)) (w : World) (F : Nat → Prop) (w0_0 : Value) (h0_0 : (Kd.sl 5 (Kd.int .u8)).rd w [w0_0] a0 F) (r : (List Int)) (m : spec_l17fill.f a0 = some r) :
    Calls Try.prog 32 #[w0_0] w fun en w' => ∃ v, en = .returned v ∧ spec_l17fill.Q w F r v w' := by
  obtain ⟨s0, rfl, kp0, z⟩ := start0 w F
  have A0_0 := z.rd h0_0
  refine calls_of_TM (args := [w0_0]) (R := fun r en w' => ∃ v, en = .returned v ∧ spec_l17fill.Q s0.w F r v w') Try.func32 Try.ntmps32 rfl rfl m ?_
  unfold spec_l17fill.f
  refine sr ?_
  refine pu rfl rfl rfl rfl rfl ?_
  refine dn ?_
  refine sr ?_
  refine mk (x0 := (0 : Int)) (K := (Kd.int .u8)) 10 sl24 o5 (fun _ => ⟨rfl, rfl⟩) rfl rfl rfl rfl rfl rfl rfl (fun v2 s2 p2 A2 => ?_)
  refine asg v2 rfl rfl rfl rfl rfl rfl ?_
  refine dn ?_
  refine sq ?_
  refine sr ?_
  refine pu rfl rfl rfl rfl rfl ?_
  refine dn ?_
  refine bl ?_
  have K5 := (kp0.st p2 rfl)
  refine lpI (fun (x4 : (List Int) × Int) (e : Env) (w : World) => ∃ (s : St) (e0 : Env), w = s.w ∧ e = upd (upd (upd e0 0 w0_0) 3 v2) 4 (.int .i64 x4.2) ∧ Kp s0 s ∧ OwF (Kd.sl 5 (Kd.int .u8)) s [v2] x4.1 10) ⟨s2, _, rfl, (ue (ue (ue rfl rfl) rfl) rfl), K5, A2⟩ (fun g4 ih4 => ?_)
  rintro x4 _ _ ⟨s6, _, rfl, rfl, Kx4, Ax4_0⟩
  unfold spec_l17fill.b0
  refine sq ?_
  refine sr ?_
  refine pu rfl rfl rfl rfl rfl ?_
  refine mv w0_0 rfl rfl rfl rfl rfl rfl ?_
  have A8 := (A0_0.kp Kx4)
  refine ln A8 Try.underlying24 rfl rfl rfl rfl rfl rfl ?_
  refine pu rfl rfl rfl rfl rfl ?_
  refine pu rfl rfl rfl rfl rfl ?_
  refine jy [10, 11, 12, 13, 14, 15] [] 15 (.bool ((decide (x4.2 < (a0.length : Int))) && (decide (x4.2 < (x4.1.length : Int))))) rfl (fun Kg9 => ?_) (fun j9 => ?_)
  ·
    rcases Bool.eq_false_or_eq_true (decide (x4.2 < (a0.length : Int))) with hb9 | hb9
    ·
      refine sbT hb9 ?_
      refine pu rfl rfl rfl rfl rfl ?_
      refine mv v2 rfl rfl rfl rfl rfl rfl ?_
      refine ln Ax4_0.rd Try.underlying24 rfl rfl rfl rfl rfl rfl ?_
      refine pu rfl rfl rfl rfl rfl ?_
      refine pu rfl rfl rfl rfl rfl ?_
      exact Kg9 _ (Ag.put ((Ag.put ((Ag.put ((Ag.put ((Ag.put (Ag.base rfl) rfl)) rfl)) rfl)) rfl)) rfl) (by rw [hb9]; rfl)
    ·
      refine sbT hb9 ?_
      refine uw rfl rfl rfl rfl ?_
      refine uw rfl rfl rfl rfl ?_
      refine uw rfl rfl rfl rfl ?_
      refine uw rfl rfl rfl rfl ?_
      refine pu rfl rfl rfl rfl rfl ?_
      exact Kg9 _ (Ag.put ((Ag.put ((Ag.put ((Ag.put ((Ag.put (Ag.base rfl) rfl)) rfl)) rfl)) rfl)) rfl) (by rw [hb9]; rfl)
  refine dn ?_
  refine cd rfl (fun h10 => ?_) (fun h10 => ?_)
  ·
    refine sk ?_
    refine sq ?_
    refine bl ?_
    refine rg ?_
    refine mv v2 rfl rfl rfl rfl rfl rfl ?_
    refine pu rfl rfl rfl rfl rfl ?_
    refine mv w0_0 rfl rfl rfl rfl rfl rfl ?_
    refine pu rfl rfl rfl rfl rfl ?_
    refine ix A8 Try.underlying24 z5 rfl rfl rfl rfl rfl rfl rfl rfl (fun ad11 es11 h0_11 h1_11 he11 ce11 ia11 => ?_)
    obtain rfl := he11
    refine lc0 ce11 Try.underlying5 rfl rfl rfl rfl rfl rfl rfl rfl ?_
    refine ix Ax4_0.rd Try.underlying24 z5 rfl rfl rfl rfl rfl rfl rfl rfl (fun ad13 es13 h0_13 h1_13 he13 ce13 ia13 => ?_)
    obtain rfl := he13
    refine so (x' := (at_ a0 x4.2)) Ax4_0 ia13 h0_13 h1_13 cs_flat z5 rfl rfl rfl rfl rfl rfl (fun s15 p15 A15 => ?_)
    refine dn ?_
    refine ib ?_
    refine rg ?_
    refine pu rfl rfl rfl rfl rfl ?_
    refine pu rfl rfl rfl rfl rfl ?_
    refine pu rfl rfl rfl rfl rfl ?_
    refine dn ?_
    have K17 := (Kx4.st p15 rfl)
    exact lb ih4 ⟨s15, _, rfl, (ue (ue (ue rfl rfl) rfl) rfl), K17, A15⟩
  ·
    refine xt rfl ?_
    refine sgb ?_
    refine sr ?_
    refine mv v2 rfl rfl rfl rfl rfl rfl ?_
    refine asg v2 rfl rfl rfl rfl rfl rfl ?_
    refine dn ?_
    exact re rfl Try.func32 rfl (r_t rfl r_nil) rfl ⟨_, rfl, Ax4_0.fo Kx4 rfl, z.ky Kx4⟩
noncomputable def spec_ControlBytes.f (a0 : Control) : Option ((List Int)) :=
  ((spec_l5in.f a0.Seq (1 : Int) (1000000 : Int)).bind fun r3 => ((if (!r3) = true then (some true) else ((spec_l5in.f a0.Area (0 : Int) (1 : Int)).bind fun r9 => (some (!r9)))).bind fun y5 => ((if y5 = true then (some true) else ((spec_l5in.f a0.Lsn (1 : Int) (1000000 : Int)).bind fun r16 => (some (!r16)))).bind fun y15 => ((if y15 = true then (some true) else ((spec_l5in.f a0.Next (1 : Int) (401 : Int)).bind fun r23 => (some (!r23)))).bind fun y22 => ((if y22 = true then (some true) else ((spec_l5in.f a0.Pages (0 : Int) (16 : Int)).bind fun r30 => (some (!r30)))).bind fun y29 => (if y29 = true then (some ([] : (List Int))) else ((spec_PutNum.f a0.Seq (4 : Int)).bind fun r37 => (if r37.length + ([(IntKind.wrap .u8 a0.Area)]).length ≤ Lim then ((spec_PutNum.f a0.Lsn (4 : Int)).bind fun r47 => (if (r37 ++ [(IntKind.wrap .u8 a0.Area)]).length + r47.length ≤ Lim then ((spec_PutNum.f a0.Next (4 : Int)).bind fun r54 => (if ((r37 ++ [(IntKind.wrap .u8 a0.Area)]) ++ r47).length + r54.length ≤ Lim then (if (((r37 ++ [(IntKind.wrap .u8 a0.Area)]) ++ r47) ++ r54).length + ([(IntKind.wrap .u8 a0.Pages)]).length ≤ Lim then ((spec_Frame.f (9 : Int) ((((r37 ++ [(IntKind.wrap .u8 a0.Area)]) ++ r47) ++ r54) ++ [(IntKind.wrap .u8 a0.Pages)])).bind fun r66 => ((spec_l17fill.f r66).bind fun r69 => (some r69))) else none) else none)) else none)) else none))))))))
def spec_ControlBytes.Q (w : World) (F : Nat → Prop) (r : (List Int)) (v : Value) (w' : World) : Prop :=
  FO (Kd.sl 5 (Kd.int .u8)) w w' [v] r ∧ Ky [] w w'
set_option maxHeartbeats 4000000 in
set_option maxRecDepth 100000 in
theorem spec_ControlBytes.calls (a0 : Control) (w : World) (F : Nat → Prop)   (r : (List Int)) (m : spec_ControlBytes.f a0 = some r) :
    Calls Try.prog 7 #[(.agg #[(.int .i64 a0.Seq), (.int .i64 a0.Area), (.int .i64 a0.Lsn), (.int .i64 a0.Next), (.int .i64 a0.Pages)])] w fun en w' => ∃ v, en = .returned v ∧ spec_ControlBytes.Q w F r v w' := by
  obtain ⟨s0, rfl, kp0, z⟩ := start0 w F
  refine calls_of_TM (args := [(.agg #[(.int .i64 a0.Seq), (.int .i64 a0.Area), (.int .i64 a0.Lsn), (.int .i64 a0.Next), (.int .i64 a0.Pages)])]) (R := fun r en w' => ∃ v, en = .returned v ∧ spec_ControlBytes.Q s0.w F r v w') Try.func7 Try.ntmps7 rfl rfl m ?_
  unfold spec_ControlBytes.f
  refine sr ?_
  refine bx (cs := [(.int .i64 a0.Seq), (.int .i64 a0.Area), (.int .i64 a0.Lsn), (.int .i64 a0.Next), (.int .i64 a0.Pages)]) 10 rfl rfl rfl rfl rfl rfl (fun b1 s1 p1 B1 => ?_)
  refine pu rfl rfl rfl rfl rfl ?_
  refine dn ?_
  refine sq ?_
  refine sr ?_
  refine fa fa26_0 rfl rfl rfl rfl rfl rfl ?_
  refine ld B1 Try.underlying3 rfl rfl rfl rfl rfl rfl rfl rfl ?_
  refine cl rfl rfl rfl rfl rfl Try.func30 rfl rfl rfl (fun r3 m3 => spec_l5in.calls a0.Seq (1 : Int) (1000000 : Int) s1.w (fun b => memb [] (s1.g b) = true)  r3 m3) ?_
  rintro r3 _ w3 m3 ⟨rfl, ky3⟩
  obtain ⟨s4, rfl, p4, n4⟩ := nwx s1 w3 11 ky3
  refine pu rfl rfl rfl rfl rfl ?_
  refine pu rfl rfl rfl rfl rfl ?_
  refine ji [10, 11, 12, 13, 14, 15, 16, 17, 18, 19, 20, 21, 22, 23, 24, 25, 26, 27] (fun (y5 : Bool) (e : Env) (w : World) => ∃ (s : St) (e0 : Env), w = s.w ∧ e = upd (upd e0 1 (.pointer (some ⟨b1, 0, none⟩))) 13 (.bool y5) ∧ Kp s0 s ∧ BlF s b1 26 [(.int .i64 a0.Seq), (.int .i64 a0.Area), (.int .i64 a0.Lsn), (.int .i64 a0.Next), (.int .i64 a0.Pages)] 10) (fun Gj5 Kj5 => ?_) ?_
  ·
    rcases Bool.eq_false_or_eq_true (!r3) with hb5 | hb5
    ·
      refine sbT hb5 ?_
      rw [if_pos hb5]
      refine uw rfl rfl rfl rfl ?_
      refine uw rfl rfl rfl rfl ?_
      refine uw rfl rfl rfl rfl ?_
      refine uw rfl rfl rfl rfl ?_
      refine pu rfl rfl rfl rfl rfl ?_
      have A6 := (BlF.st B1 p4 rfl)
      have K7 := ((kp0.st p1 rfl).st p4 rfl)
      exact Kj5 _ _ _ ⟨s4, _, rfl, (ue (ue rfl rfl) rfl), K7, A6⟩
    ·
      refine sbT hb5 ?_
      rw [if_neg (by rw [hb5]; decide)]
      refine fa fa26_1 rfl rfl rfl rfl rfl rfl ?_
      have A8 := (BlF.st B1 p4 rfl)
      refine ld A8 Try.underlying3 rfl rfl rfl rfl rfl rfl rfl rfl ?_
      refine cl rfl rfl rfl rfl rfl Try.func30 rfl rfl rfl (fun r9 m9 => spec_l5in.calls a0.Area (0 : Int) (1 : Int) s4.w (fun b => memb [] (s4.g b) = true)  r9 m9) ?_
      rintro r9 _ w9 m9 ⟨rfl, ky9⟩
      obtain ⟨s10, rfl, p10, n10⟩ := nwx s4 w9 12 ky9
      refine pu rfl rfl rfl rfl rfl ?_
      refine pu rfl rfl rfl rfl rfl ?_
      have A11 := (BlF.st A8 p10 rfl)
      have K12 := (((kp0.st p1 rfl).st p4 rfl).st p10 rfl)
      exact Kj5 _ _ _ ⟨s10, _, rfl, (ue (ue rfl rfl) rfl), K12, A11⟩
  rintro y5 _ _ ⟨s13, _, rfl, rfl, Ky5, By5_b1⟩
  refine pu rfl rfl rfl rfl rfl ?_
  refine ji [16, 17, 18, 19, 20, 21, 22, 23, 24, 25, 26, 27] (fun (y15 : Bool) (e : Env) (w : World) => ∃ (s : St) (e0 : Env), w = s.w ∧ e = upd (upd e0 1 (.pointer (some ⟨b1, 0, none⟩))) 19 (.bool y15) ∧ Kp s0 s ∧ BlF s b1 26 [(.int .i64 a0.Seq), (.int .i64 a0.Area), (.int .i64 a0.Lsn), (.int .i64 a0.Next), (.int .i64 a0.Pages)] 10) (fun Gj15 Kj15 => ?_) ?_
  ·
    rcases Bool.eq_false_or_eq_true y5 with hb15 | hb15
    ·
      refine sbT hb15 ?_
      rw [if_pos hb15]
      refine uw rfl rfl rfl rfl ?_
      refine uw rfl rfl rfl rfl ?_
      refine uw rfl rfl rfl rfl ?_
      refine uw rfl rfl rfl rfl ?_
      refine pu rfl rfl rfl rfl rfl ?_
      exact Kj15 _ _ _ ⟨s13, _, rfl, (ue (ue rfl rfl) rfl), Ky5, By5_b1⟩
    ·
      refine sbT hb15 ?_
      rw [if_neg (by rw [hb15]; decide)]
      refine fa fa26_2 rfl rfl rfl rfl rfl rfl ?_
      refine ld By5_b1 Try.underlying3 rfl rfl rfl rfl rfl rfl rfl rfl ?_
      refine cl rfl rfl rfl rfl rfl Try.func30 rfl rfl rfl (fun r16 m16 => spec_l5in.calls a0.Lsn (1 : Int) (1000000 : Int) s13.w (fun b => memb [] (s13.g b) = true)  r16 m16) ?_
      rintro r16 _ w16 m16 ⟨rfl, ky16⟩
      obtain ⟨s17, rfl, p17, n17⟩ := nwx s13 w16 13 ky16
      refine pu rfl rfl rfl rfl rfl ?_
      refine pu rfl rfl rfl rfl rfl ?_
      have A18 := (BlF.st By5_b1 p17 rfl)
      have K19 := (Ky5.st p17 rfl)
      exact Kj15 _ _ _ ⟨s17, _, rfl, (ue (ue rfl rfl) rfl), K19, A18⟩
  rintro y15 _ _ ⟨s20, _, rfl, rfl, Ky15, By15_b1⟩
  refine pu rfl rfl rfl rfl rfl ?_
  refine ji [22, 23, 24, 25, 26, 27] (fun (y22 : Bool) (e : Env) (w : World) => ∃ (s : St) (e0 : Env), w = s.w ∧ e = upd (upd e0 1 (.pointer (some ⟨b1, 0, none⟩))) 25 (.bool y22) ∧ Kp s0 s ∧ BlF s b1 26 [(.int .i64 a0.Seq), (.int .i64 a0.Area), (.int .i64 a0.Lsn), (.int .i64 a0.Next), (.int .i64 a0.Pages)] 10) (fun Gj22 Kj22 => ?_) ?_
  ·
    rcases Bool.eq_false_or_eq_true y15 with hb22 | hb22
    ·
      refine sbT hb22 ?_
      rw [if_pos hb22]
      refine uw rfl rfl rfl rfl ?_
      refine uw rfl rfl rfl rfl ?_
      refine uw rfl rfl rfl rfl ?_
      refine uw rfl rfl rfl rfl ?_
      refine pu rfl rfl rfl rfl rfl ?_
      exact Kj22 _ _ _ ⟨s20, _, rfl, (ue (ue rfl rfl) rfl), Ky15, By15_b1⟩
    ·
      refine sbT hb22 ?_
      rw [if_neg (by rw [hb22]; decide)]
      refine fa fa26_3 rfl rfl rfl rfl rfl rfl ?_
      refine ld By15_b1 Try.underlying3 rfl rfl rfl rfl rfl rfl rfl rfl ?_
      refine cl rfl rfl rfl rfl rfl Try.func30 rfl rfl rfl (fun r23 m23 => spec_l5in.calls a0.Next (1 : Int) (401 : Int) s20.w (fun b => memb [] (s20.g b) = true)  r23 m23) ?_
      rintro r23 _ w23 m23 ⟨rfl, ky23⟩
      obtain ⟨s24, rfl, p24, n24⟩ := nwx s20 w23 14 ky23
      refine pu rfl rfl rfl rfl rfl ?_
      refine pu rfl rfl rfl rfl rfl ?_
      have A25 := (BlF.st By15_b1 p24 rfl)
      have K26 := (Ky15.st p24 rfl)
      exact Kj22 _ _ _ ⟨s24, _, rfl, (ue (ue rfl rfl) rfl), K26, A25⟩
  rintro y22 _ _ ⟨s27, _, rfl, rfl, Ky22, By22_b1⟩
  refine pu rfl rfl rfl rfl rfl ?_
  refine ji [] (fun (y29 : Bool) (e : Env) (w : World) => ∃ (s : St) (e0 : Env), w = s.w ∧ e = upd (upd e0 1 (.pointer (some ⟨b1, 0, none⟩))) 31 (.bool y29) ∧ Kp s0 s ∧ BlF s b1 26 [(.int .i64 a0.Seq), (.int .i64 a0.Area), (.int .i64 a0.Lsn), (.int .i64 a0.Next), (.int .i64 a0.Pages)] 10) (fun Gj29 Kj29 => ?_) ?_
  ·
    rcases Bool.eq_false_or_eq_true y22 with hb29 | hb29
    ·
      refine sbT hb29 ?_
      rw [if_pos hb29]
      refine uw rfl rfl rfl rfl ?_
      refine uw rfl rfl rfl rfl ?_
      refine uw rfl rfl rfl rfl ?_
      refine uw rfl rfl rfl rfl ?_
      refine pu rfl rfl rfl rfl rfl ?_
      exact Kj29 _ _ _ ⟨s27, _, rfl, (ue (ue rfl rfl) rfl), Ky22, By22_b1⟩
    ·
      refine sbT hb29 ?_
      rw [if_neg (by rw [hb29]; decide)]
      refine fa fa26_4 rfl rfl rfl rfl rfl rfl ?_
      refine ld By22_b1 Try.underlying3 rfl rfl rfl rfl rfl rfl rfl rfl ?_
      refine cl rfl rfl rfl rfl rfl Try.func30 rfl rfl rfl (fun r30 m30 => spec_l5in.calls a0.Pages (0 : Int) (16 : Int) s27.w (fun b => memb [] (s27.g b) = true)  r30 m30) ?_
      rintro r30 _ w30 m30 ⟨rfl, ky30⟩
      obtain ⟨s31, rfl, p31, n31⟩ := nwx s27 w30 15 ky30
      refine pu rfl rfl rfl rfl rfl ?_
      refine pu rfl rfl rfl rfl rfl ?_
      have A32 := (BlF.st By22_b1 p31 rfl)
      have K33 := (Ky22.st p31 rfl)
      exact Kj29 _ _ _ ⟨s31, _, rfl, (ue (ue rfl rfl) rfl), K33, A32⟩
  rintro y29 _ _ ⟨s34, _, rfl, rfl, Ky29, By29_b1⟩
  refine dn ?_
  refine cd rfl (fun h36 => ?_) (fun h36 => ?_)
  ·
    refine sr ?_
    refine pu rfl rfl rfl rfl rfl ?_
    refine dn ?_
    exact re rfl Try.func7 rfl (r_t rfl r_nil) rfl ⟨_, rfl, (ow_nil 5 (Kd.int .u8) s34 10).fo Ky29 rfl, z.ky Ky29⟩
  ·
    refine sk ?_
    refine sr ?_
    refine fa fa26_0 rfl rfl rfl rfl rfl rfl ?_
    refine ld By29_b1 Try.underlying3 rfl rfl rfl rfl rfl rfl rfl rfl ?_
    refine cl rfl rfl rfl rfl rfl Try.func31 rfl rfl rfl (fun r37 m37 => spec_PutNum.calls a0.Seq (4 : Int) s34.w (fun b => memb [] (s34.g b) = true)  r37 m37) ?_
    rintro r37 v37_0 w37 m37 ⟨f37_0, ky37⟩
    obtain ⟨s38, rfl, p38, n38⟩ := nwx s34 w37 16 ky37
    have A37_0 := f37_0.c n38
    refine asg v37_0 rfl rfl rfl rfl rfl rfl ?_
    refine dn ?_
    refine sr ?_
    refine mv v37_0 rfl rfl rfl rfl rfl rfl ?_
    refine fa fa26_1 rfl rfl rfl rfl rfl rfl ?_
    have A40 := (BlF.st By29_b1 p38 rfl)
    refine ld A40 Try.underlying3 rfl rfl rfl rfl rfl rfl rfl rfl ?_
    refine cv Try.underlying5 Try.underlying3 rfl rfl rfl rfl rfl rfl ?_
    refine ltF (K := (Kd.int .u8)) (cells := [(.int .u8 (IntKind.wrap .u8 a0.Area))]) [(IntKind.wrap .u8 a0.Area)] 17 fl_int Try.underlying24 z5 o5 (fun w => (els_flat _ _ _)) rfl rfl rfl rfl rfl rfl rfl rfl rfl rfl (fun v41 s41 p41 A41 => ?_)
    have A43 := (A37_0.st p41 rfl)
    refine apF fl_int sl24 A43 A41.rd rfl rfl rfl rfl rfl rfl rfl (fun v44 s44 p44 A44 => ?_)
    refine asg v44 rfl rfl rfl rfl rfl rfl ?_
    refine dn ?_
    refine sr ?_
    refine mv v44 rfl rfl rfl rfl rfl rfl ?_
    refine fa fa26_2 rfl rfl rfl rfl rfl rfl ?_
    have A46 := (BlF.st (BlF.st A40 p41 rfl) p44 rfl)
    refine ld A46 Try.underlying3 rfl rfl rfl rfl rfl rfl rfl rfl ?_
    refine cl rfl rfl rfl rfl rfl Try.func31 rfl rfl rfl (fun r47 m47 => spec_PutNum.calls a0.Lsn (4 : Int) s44.w (fun b => memb [] (s44.g b) = true)  r47 m47) ?_
    rintro r47 v47_0 w47 m47 ⟨f47_0, ky47⟩
    obtain ⟨s48, rfl, p48, n48⟩ := nwx s44 w47 18 ky47
    have A47_0 := f47_0.c n48
    have A50 := (A44.st p48 rfl)
    refine apF fl_int sl24 A50 A47_0.rd rfl rfl rfl rfl rfl rfl rfl (fun v51 s51 p51 A51 => ?_)
    refine asg v51 rfl rfl rfl rfl rfl rfl ?_
    refine dn ?_
    refine sr ?_
    refine mv v51 rfl rfl rfl rfl rfl rfl ?_
    refine fa fa26_3 rfl rfl rfl rfl rfl rfl ?_
    have A53 := (BlF.st (BlF.st A46 p48 rfl) p51 rfl)
    refine ld A53 Try.underlying3 rfl rfl rfl rfl rfl rfl rfl rfl ?_
    refine cl rfl rfl rfl rfl rfl Try.func31 rfl rfl rfl (fun r54 m54 => spec_PutNum.calls a0.Next (4 : Int) s51.w (fun b => memb [] (s51.g b) = true)  r54 m54) ?_
    rintro r54 v54_0 w54 m54 ⟨f54_0, ky54⟩
    obtain ⟨s55, rfl, p55, n55⟩ := nwx s51 w54 19 ky54
    have A54_0 := f54_0.c n55
    have A57 := (A51.st p55 rfl)
    refine apF fl_int sl24 A57 A54_0.rd rfl rfl rfl rfl rfl rfl rfl (fun v58 s58 p58 A58 => ?_)
    refine asg v58 rfl rfl rfl rfl rfl rfl ?_
    refine dn ?_
    refine sr ?_
    refine mv v58 rfl rfl rfl rfl rfl rfl ?_
    refine fa fa26_4 rfl rfl rfl rfl rfl rfl ?_
    have A60 := (BlF.st (BlF.st A53 p55 rfl) p58 rfl)
    refine ld A60 Try.underlying3 rfl rfl rfl rfl rfl rfl rfl rfl ?_
    refine cv Try.underlying5 Try.underlying3 rfl rfl rfl rfl rfl rfl ?_
    refine ltF (K := (Kd.int .u8)) (cells := [(.int .u8 (IntKind.wrap .u8 a0.Pages))]) [(IntKind.wrap .u8 a0.Pages)] 20 fl_int Try.underlying24 z5 o5 (fun w => (els_flat _ _ _)) rfl rfl rfl rfl rfl rfl rfl rfl rfl rfl (fun v61 s61 p61 A61 => ?_)
    have A63 := (A58.st p61 rfl)
    refine apF fl_int sl24 A63 A61.rd rfl rfl rfl rfl rfl rfl rfl (fun v64 s64 p64 A64 => ?_)
    refine asg v64 rfl rfl rfl rfl rfl rfl ?_
    refine dn ?_
    refine sr ?_
    refine mv v64 rfl rfl rfl rfl rfl rfl ?_
    refine cl rfl rfl rfl rfl rfl Try.func33 rfl rfl rfl (fun r66 m66 => spec_Frame.calls (9 : Int) ((((r37 ++ [(IntKind.wrap .u8 a0.Area)]) ++ r47) ++ r54) ++ [(IntKind.wrap .u8 a0.Pages)]) s64.w (fun b => memb [16] (s64.g b) = true) v64 A64.rd r66 m66) ?_
    rintro r66 v66_0 w66 m66 ⟨f66_0, ky66⟩
    obtain ⟨s67, rfl, p67, n67⟩ := nwx s64 w66 21 ky66
    have A66_0 := f66_0.c n67
    refine cl rfl rfl rfl rfl rfl Try.func32 rfl rfl rfl (fun r69 m69 => spec_l17fill.calls r66 s67.w (fun b => memb [21] (s67.g b) = true) v66_0 A66_0.rd r69 m69) ?_
    rintro r69 v69_0 w69 m69 ⟨f69_0, ky69⟩
    obtain ⟨s70, rfl, p70, n70⟩ := nwx s67 w69 22 ky69
    have A69_0 := f69_0.c n70
    refine asg v69_0 rfl rfl rfl rfl rfl rfl ?_
    refine dn ?_
    have K72 := (((((((((((Ky29.st p38 rfl).st p41 rfl).st p44 rfl).st p48 rfl).st p51 rfl).st p55 rfl).st p58 rfl).st p61 rfl).st p64 rfl).st p67 rfl).st p70 rfl)
    exact re rfl Try.func7 rfl (r_t rfl r_nil) rfl ⟨_, rfl, A69_0.fo K72 rfl, z.ky K72⟩
noncomputable def impl_within.f (a0 : Int) (a1 : Int) (a2 : Int) : Option (Bool) :=
  (some ((decide (a1 ≤ a0)) && (decide (a0 ≤ a2))))
def impl_within.Q (w : World) (F : Nat → Prop) (r : Bool) (v : Value) (w' : World) : Prop :=
  v = (.bool r) ∧ Ky [] w w'
set_option maxHeartbeats 4000000 in
set_option maxRecDepth 100000 in
theorem impl_within.calls (a0 : Int) (a1 : Int) (a2 : Int) (w : World) (F : Nat → Prop)   (r : Bool) (m : impl_within.f a0 a1 a2 = some r) :
    Calls Try.prog 34 #[(.int .i64 a0), (.int .i64 a1), (.int .i64 a2)] w fun en w' => ∃ v, en = .returned v ∧ impl_within.Q w F r v w' := by
  obtain ⟨s0, rfl, kp0, z⟩ := start0 w F
  refine calls_of_TM (args := [(.int .i64 a0), (.int .i64 a1), (.int .i64 a2)]) (R := fun r en w' => ∃ v, en = .returned v ∧ impl_within.Q s0.w F r v w') Try.func34 Try.ntmps34 rfl rfl m ?_
  unfold impl_within.f
  refine sr ?_
  refine pu rfl rfl rfl rfl rfl ?_
  refine dn ?_
  refine sr ?_
  refine pu rfl rfl rfl rfl rfl ?_
  refine pu rfl rfl rfl rfl rfl ?_
  refine pu rfl rfl rfl rfl rfl ?_
  refine pu rfl rfl rfl rfl rfl ?_
  refine jy [10, 11, 12, 13, 14] [8] 14 (.bool ((decide (a1 ≤ a0)) && (decide (a0 ≤ a2)))) rfl (fun Kg1 => ?_) (fun j1 => ?_)
  ·
    rcases Bool.eq_false_or_eq_true (decide (a1 ≤ a0)) with hb1 | hb1
    ·
      refine sbT hb1 ?_
      refine pu rfl rfl rfl rfl rfl ?_
      refine pu rfl rfl rfl rfl rfl ?_
      refine pu rfl rfl rfl rfl rfl ?_
      refine pu rfl rfl rfl rfl rfl ?_
      exact Kg1 _ (Ag.put ((Ag.put ((Ag.put ((Ag.put (Ag.base rfl) rfl)) rfl)) rfl)) rfl) (by rw [hb1]; rfl)
    ·
      refine sbT hb1 ?_
      refine uw rfl rfl rfl rfl ?_
      refine uw rfl rfl rfl rfl ?_
      refine uw rfl rfl rfl rfl ?_
      refine pu rfl rfl rfl rfl rfl ?_
      exact Kg1 _ (Ag.put ((Ag.put ((Ag.put ((Ag.put (Ag.base rfl) rfl)) rfl)) rfl)) rfl) (by rw [hb1]; rfl)
  refine pu rfl rfl rfl rfl rfl ?_
  refine dn ?_
  exact re rfl Try.func34 rfl (r_t rfl r_nil) rfl ⟨_, rfl, rfl, z.ky kp0⟩
noncomputable def impl_isLsn.f (a0 : Int) : Option (Bool) :=
  ((impl_within.f a0 (1 : Int) (1000000 : Int)).bind fun r1 => (some r1))
def impl_isLsn.Q (w : World) (F : Nat → Prop) (r : Bool) (v : Value) (w' : World) : Prop :=
  v = (.bool r) ∧ Ky [] w w'
set_option maxHeartbeats 4000000 in
set_option maxRecDepth 100000 in
theorem impl_isLsn.calls (a0 : Int) (w : World) (F : Nat → Prop)   (r : Bool) (m : impl_isLsn.f a0 = some r) :
    Calls Try.prog 35 #[(.int .i64 a0)] w fun en w' => ∃ v, en = .returned v ∧ impl_isLsn.Q w F r v w' := by
  obtain ⟨s0, rfl, kp0, z⟩ := start0 w F
  refine calls_of_TM (args := [(.int .i64 a0)]) (R := fun r en w' => ∃ v, en = .returned v ∧ impl_isLsn.Q s0.w F r v w') Try.func35 Try.ntmps35 rfl rfl m ?_
  unfold impl_isLsn.f
  refine sr ?_
  refine pu rfl rfl rfl rfl rfl ?_
  refine dn ?_
  refine sr ?_
  refine pu rfl rfl rfl rfl rfl ?_
  refine cl rfl rfl rfl rfl rfl Try.func34 rfl rfl rfl (fun r1 m1 => impl_within.calls a0 (1 : Int) (1000000 : Int) s0.w (fun b => memb [] (s0.g b) = true)  r1 m1) ?_
  rintro r1 _ w1 m1 ⟨rfl, ky1⟩
  obtain ⟨s2, rfl, p2, n2⟩ := nwx s0 w1 10 ky1
  refine pu rfl rfl rfl rfl rfl ?_
  refine dn ?_
  have K3 := (kp0.st p2 rfl)
  exact re rfl Try.func35 rfl (r_t rfl r_nil) rfl ⟨_, rfl, rfl, z.ky K3⟩
noncomputable def impl_PutNum.b0 (a1 : Int) (x12 : Int × (List Int) × Int) : Option ((Int × (List Int) × Int) ⊕ (List Int)) :=
  (if (decide (x12.2.2 < a1)) = true then (if x12.2.1.length + ([(IntKind.wrap .u8 x12.1)]).length ≤ Lim then (some (.inl ((ishr .i64 x12.1 (8 : Int)), (x12.2.1 ++ [(IntKind.wrap .u8 x12.1)]), (IntKind.wrap .i64 (x12.2.2 + (1 : Int)))))) else none) else ((some x12.2.1).bind fun o => some (.inr o)))
noncomputable def impl_PutNum.f (a0 : Int) (a1 : Int) : Option ((List Int)) :=
  ((impl_within.f a1 (1 : Int) (8 : Int)).bind fun r1 => ((if ((!r1) || (decide (a0 < (0 : Int)))) = true then (some true) else ((if (decide (a1 < (8 : Int))) = true then (if 0 ≤ (IntKind.wrap .i64 ((8 : Int) * a1)) then (some ((ishr .i64 a0 (IntKind.wrap .i64 ((8 : Int) * a1))) != (0 : Int))) else none) else (some false)).bind fun y6 => (some y6))).bind fun y4 => (if y4 = true then (some ([] : (List Int))) else (iter (impl_PutNum.b0 a1) (a0, ([] : (List Int)), (0 : Int))))))
def impl_PutNum.Q (w : World) (F : Nat → Prop) (r : (List Int)) (v : Value) (w' : World) : Prop :=
  FO (Kd.sl 5 (Kd.int .u8)) w w' [v] r ∧ Ky [] w w'
set_option maxHeartbeats 4000000 in
set_option maxRecDepth 100000 in
theorem impl_PutNum.calls (a0 : Int) (a1 : Int) (w : World) (F : Nat → Prop)   (r : (List Int)) (m : impl_PutNum.f a0 a1 = some r) :
    Calls Try.prog 37 #[(.int .i64 a0), (.int .i64 a1)] w fun en w' => ∃ v, en = .returned v ∧ impl_PutNum.Q w F r v w' := by
  obtain ⟨s0, rfl, kp0, z⟩ := start0 w F
  refine calls_of_TM (args := [(.int .i64 a0), (.int .i64 a1)]) (R := fun r en w' => ∃ v, en = .returned v ∧ impl_PutNum.Q s0.w F r v w') Try.func37 Try.ntmps37 rfl rfl m ?_
  unfold impl_PutNum.f
  refine sr ?_
  refine pu rfl rfl rfl rfl rfl ?_
  refine dn ?_
  refine sq ?_
  refine sr ?_
  refine pu rfl rfl rfl rfl rfl ?_
  refine cl rfl rfl rfl rfl rfl Try.func34 rfl rfl rfl (fun r1 m1 => impl_within.calls a1 (1 : Int) (8 : Int) s0.w (fun b => memb [] (s0.g b) = true)  r1 m1) ?_
  rintro r1 _ w1 m1 ⟨rfl, ky1⟩
  obtain ⟨s2, rfl, p2, n2⟩ := nwx s0 w1 10 ky1
  refine pu rfl rfl rfl rfl rfl ?_
  refine pu rfl rfl rfl rfl rfl ?_
  refine jy [9, 10, 11, 12] [7, 8, 9, 10, 11, 12, 13, 14, 15, 16, 17] 12 (.bool ((!r1) || (decide (a0 < (0 : Int))))) rfl (fun Kg3 => ?_) (fun j3 => ?_)
  ·
    rcases Bool.eq_false_or_eq_true (!r1) with hb3 | hb3
    ·
      refine sbT hb3 ?_
      refine uw rfl rfl rfl rfl ?_
      refine uw rfl rfl rfl rfl ?_
      refine pu rfl rfl rfl rfl rfl ?_
      exact Kg3 _ (Ag.put ((Ag.put ((Ag.put (Ag.base rfl) rfl)) rfl)) rfl) (by rw [hb3]; rfl)
    ·
      refine sbT hb3 ?_
      refine pu rfl rfl rfl rfl rfl ?_
      refine pu rfl rfl rfl rfl rfl ?_
      refine pu rfl rfl rfl rfl rfl ?_
      exact Kg3 _ (Ag.put ((Ag.put ((Ag.put (Ag.base rfl) rfl)) rfl)) rfl) (by rw [hb3]; rfl)
  refine pu rfl rfl rfl rfl rfl ?_
  refine ji [] (fun (y4 : Bool) (e : Env) (w : World) => ∃ (s : St) (e0 : Env), w = s.w ∧ e = upd (upd (upd e0 0 (.int .i64 a0)) 1 (.int .i64 a1)) 23 (.bool y4) ∧ Kp s0 s) (fun Gj4 Kj4 => ?_) ?_
  ·
    rcases Bool.eq_false_or_eq_true ((!r1) || (decide (a0 < (0 : Int)))) with hb4 | hb4
    ·
      refine sbT hb4 ?_
      rw [if_pos hb4]
      refine uw rfl rfl rfl rfl ?_
      refine uw rfl rfl rfl rfl ?_
      refine uw rfl rfl rfl rfl ?_
      refine uw rfl rfl rfl rfl ?_
      refine uw rfl rfl rfl rfl ?_
      refine uw rfl rfl rfl rfl ?_
      refine uw rfl rfl rfl rfl ?_
      refine uw rfl rfl rfl rfl ?_
      refine uw rfl rfl rfl rfl ?_
      refine pu rfl rfl rfl rfl rfl ?_
      have K5 := (kp0.st p2 rfl)
      exact Kj4 _ _ _ ⟨s2, _, rfl, (ue (ue (ue rfl rfl) rfl) rfl), K5⟩
    ·
      refine sbT hb4 ?_
      rw [if_neg (by rw [hb4]; decide)]
      refine pu rfl rfl rfl rfl rfl ?_
      refine pu rfl rfl rfl rfl rfl ?_
      refine pu rfl rfl rfl rfl rfl ?_
      refine ji [17] (fun (y6 : Bool) (e : Env) (w : World) => ∃ (s : St) (e0 : Env), w = s.w ∧ e = upd (upd (upd (upd e0 0 (.int .i64 a0)) 1 (.int .i64 a1)) 13 (.bool false)) 22 (.bool y6) ∧ Kp s0 s) (fun Gj6 Kj6 => ?_) ?_
      ·
        rcases Bool.eq_false_or_eq_true (decide (a1 < (8 : Int))) with hb6 | hb6
        ·
          refine sbT hb6 ?_
          rw [if_pos hb6]
          refine pu rfl rfl rfl rfl rfl ?_
          refine pu rfl rfl rfl rfl rfl ?_
          refine pu rfl rfl rfl rfl rfl ?_
          refine shr_ rfl rfl rfl rfl rfl rfl rfl ?_
          refine pu rfl rfl rfl rfl rfl ?_
          refine pu rfl rfl rfl rfl rfl ?_
          have K7 := (kp0.st p2 rfl)
          exact Kj6 _ _ _ ⟨s2, _, rfl, (ue (ue (ue (ue rfl rfl) rfl) rfl) rfl), K7⟩
        ·
          refine sbT hb6 ?_
          rw [if_neg (by rw [hb6]; decide)]
          refine uw rfl rfl rfl rfl ?_
          refine uw rfl rfl rfl rfl ?_
          refine uw rfl rfl rfl rfl ?_
          refine uw rfl rfl rfl rfl ?_
          refine uw rfl rfl rfl rfl ?_
          refine pu rfl rfl rfl rfl rfl ?_
          have K8 := (kp0.st p2 rfl)
          exact Kj6 _ _ _ ⟨s2, _, rfl, (ue (ue (ue (ue rfl rfl) rfl) rfl) rfl), K8⟩
      rintro y6 _ _ ⟨s9, _, rfl, rfl, Ky6⟩
      refine pu rfl rfl rfl rfl rfl ?_
      exact Kj4 _ _ _ ⟨s9, _, rfl, (ue (ue (ue rfl rfl) rfl) rfl), Ky6⟩
  rintro y4 _ _ ⟨s10, _, rfl, rfl, Ky4⟩
  refine dn ?_
  refine cd rfl (fun h11 => ?_) (fun h11 => ?_)
  ·
    refine sr ?_
    refine pu rfl rfl rfl rfl rfl ?_
    refine dn ?_
    exact re rfl Try.func37 rfl (r_t rfl r_nil) rfl ⟨_, rfl, (ow_nil 5 (Kd.int .u8) s10 10).fo Ky4 rfl, z.ky Ky4⟩
  ·
    refine sk ?_
    refine sr ?_
    refine pu rfl rfl rfl rfl rfl ?_
    refine dn ?_
    refine sq ?_
    refine sr ?_
    refine pu rfl rfl rfl rfl rfl ?_
    refine pu rfl rfl rfl rfl rfl ?_
    refine dn ?_
    refine bl ?_
    refine lpI (fun (x12 : Int × (List Int) × Int) (e : Env) (w : World) => ∃ (s : St) (e0 : Env) (vx12_0 : Value), w = s.w ∧ e = upd (upd (upd (upd e0 0 (.int .i64 x12.1)) 5 vx12_0) 24 (.int .i64 a1)) 25 (.int .i64 x12.2.2) ∧ Kp s0 s ∧ OwF (Kd.sl 5 (Kd.int .u8)) s [vx12_0] x12.2.1 11) ⟨s10, _, (.slice none 0 0), rfl, (ue (ue (ue (ue rfl rfl) rfl) rfl) rfl), Ky4, (ow_nil 5 (Kd.int .u8) _ 11)⟩ (fun g12 ih12 => ?_)
    rintro x12 _ _ ⟨s13, _, vx12_0, rfl, rfl, Kx12, Ax12_0⟩
    unfold impl_PutNum.b0
    refine sr ?_
    refine pu rfl rfl rfl rfl rfl ?_
    refine dn ?_
    refine sq ?_
    refine cd rfl (fun h15 => ?_) (fun h15 => ?_)
    ·
      refine sk ?_
      refine sq ?_
      refine bl ?_
      refine sr ?_
      refine mv vx12_0 rfl rfl rfl rfl rfl rfl ?_
      refine pu rfl rfl rfl rfl rfl ?_
      refine cv Try.underlying5 Try.underlying3 rfl rfl rfl rfl rfl rfl ?_
      refine ltF (K := (Kd.int .u8)) (cells := [(.int .u8 (IntKind.wrap .u8 x12.1))]) [(IntKind.wrap .u8 x12.1)] 12 fl_int Try.underlying24 z5 o5 (fun w => (els_flat _ _ _)) rfl rfl rfl rfl rfl rfl rfl rfl rfl rfl (fun v16 s16 p16 A16 => ?_)
      have A18 := (Ax12_0.st p16 rfl)
      refine apF fl_int sl24 A18 A16.rd rfl rfl rfl rfl rfl rfl rfl (fun v19 s19 p19 A19 => ?_)
      refine asg v19 rfl rfl rfl rfl rfl rfl ?_
      refine dn ?_
      refine rg ?_
      refine pu rfl rfl rfl rfl rfl ?_
      refine shrK rfl rfl rfl rfl rfl rfl rfl rfl ?_
      refine pu rfl rfl rfl rfl rfl ?_
      refine dn ?_
      refine ib ?_
      refine rg ?_
      refine pu rfl rfl rfl rfl rfl ?_
      refine pu rfl rfl rfl rfl rfl ?_
      refine dn ?_
      have K21 := ((Kx12.st p16 rfl).st p19 rfl)
      exact lb ih12 ⟨s19, _, v19, rfl, (ue (ue (ue (ue rfl rfl) rfl) rfl) rfl), K21, A19⟩
    ·
      refine xt rfl ?_
      refine sgb ?_
      refine sr ?_
      refine mv vx12_0 rfl rfl rfl rfl rfl rfl ?_
      refine asg vx12_0 rfl rfl rfl rfl rfl rfl ?_
      refine dn ?_
      exact re rfl Try.func37 rfl (r_t rfl r_nil) rfl ⟨_, rfl, Ax12_0.fo Kx12 rfl, z.ky Kx12⟩
noncomputable def slices_Grow_byte_byte_nil.f (a1 : Int) : Option ((List Int)) :=
  (if (decide (a1 < (0 : Int))) = true then none else ((if (decide ((IntKind.wrap .i64 (a1 - (IntKind.wrap .i64 ((0 : Int) - (([] : (List Int)).length : Int))))) > (0 : Int))) = true then (if 0 ≤ (IntKind.wrap .i64 (a1 - (IntKind.wrap .i64 ((0 : Int) - (([] : (List Int)).length : Int))))) ∧ (([] : (List Int)).length : Int) + (IntKind.wrap .i64 (a1 - (IntKind.wrap .i64 ((0 : Int) - (([] : (List Int)).length : Int))))) ≤ (Lim : Int) then (if 0 ≤ (([] : (List Int)).length : Int) ∧ (([] : (List Int)).length : Int) ≤ ((([] : (List Int)) ++ List.replicate ((IntKind.wrap .i64 (a1 - (IntKind.wrap .i64 ((0 : Int) - (([] : (List Int)).length : Int)))))).toNat (0 : Int)).length : Int) then (some ((([] : (List Int)) ++ List.replicate ((IntKind.wrap .i64 (a1 - (IntKind.wrap .i64 ((0 : Int) - (([] : (List Int)).length : Int)))))).toNat (0 : Int)).take ((([] : (List Int)).length : Int)).toNat)) else none) else none) else (some ([] : (List Int)))).bind fun y2 => (some y2)))
def slices_Grow_byte_byte_nil.Q (w : World) (F : Nat → Prop) (r : (List Int)) (v : Value) (w' : World) : Prop :=
  FO (Kd.sl 5 (Kd.int .u8)) w w' [v] r ∧ Ky [] w w'
set_option maxHeartbeats 4000000 in
set_option maxRecDepth 100000 in
theorem slices_Grow_byte_byte_nil.calls (a1 : Int) (w : World) (F : Nat → Prop)   (r : (List Int)) (m : slices_Grow_byte_byte_nil.f a1 = some r) :
    Calls Try.prog 58 #[(.slice none 0 0), (.int .i64 a1)] w fun en w' => ∃ v, en = .returned v ∧ slices_Grow_byte_byte_nil.Q w F r v w' := by
  obtain ⟨s0, rfl, kp0, z⟩ := start0 w F
  refine calls_of_TM (args := [(.slice none 0 0), (.int .i64 a1)]) (R := fun r en w' => ∃ v, en = .returned v ∧ slices_Grow_byte_byte_nil.Q s0.w F r v w') Try.func58 Try.ntmps58 rfl rfl m ?_
  unfold slices_Grow_byte_byte_nil.f
  refine sr ?_
  refine pu rfl rfl rfl rfl rfl ?_
  refine dn ?_
  refine sq ?_
  refine sr ?_
  refine pu rfl rfl rfl rfl rfl ?_
  refine pu rfl rfl rfl rfl rfl ?_
  refine dn ?_
  refine cd rfl (fun h1 => ?_) (fun h1 => ?_)
  ·
    refine rg ?_
    exact mn
  ·
    refine sk ?_
    refine sq ?_
    refine sr ?_
    refine pu rfl rfl rfl rfl rfl ?_
    refine pu rfl rfl rfl rfl rfl ?_
    refine cpn Try.underlying24 rfl rfl rfl rfl rfl rfl ?_
    refine pu rfl rfl rfl rfl rfl ?_
    refine ln (rd_nil 5 (Kd.int .u8) s0 []) Try.underlying24 rfl rfl rfl rfl rfl rfl ?_
    refine pu rfl rfl rfl rfl rfl ?_
    refine pu rfl rfl rfl rfl rfl ?_
    refine pu rfl rfl rfl rfl rfl ?_
    refine dn ?_
    refine sr ?_
    refine pu rfl rfl rfl rfl rfl ?_
    refine pu rfl rfl rfl rfl rfl ?_
    refine dn ?_
    refine jc (fun (y2 : (List Int)) (e : Env) (w : World) => ∃ (s : St) (e0 : Env) (vy2_0 : Value), w = s.w ∧ e = upd e0 0 vy2_0 ∧ Kp s0 s ∧ OwF (Kd.sl 5 (Kd.int .u8)) s [vy2_0] y2 10) (fun Gj2 Kj2 => ?_) ?_
    ·
      refine cd rfl (fun h3 => ?_) (fun h3 => ?_)
      ·
        refine rg ?_
        refine pu rfl rfl rfl rfl rfl ?_
        refine pu rfl rfl rfl rfl rfl ?_
        refine cpn Try.underlying24 rfl rfl rfl rfl rfl rfl ?_
        refine nlh Try.underlying24 z5 rfl rfl rfl rfl rfl rfl rfl ?_
        refine pu rfl rfl rfl rfl rfl ?_
        refine apZ (x0 := (0 : Int)) fl_int sl24 o5 (fun _ => ⟨rfl, rfl⟩) Try.underlying3 (ow_nil 5 (Kd.int .u8) s0 10) rfl rfl rfl rfl rfl rfl rfl (fun v4 s4 p4 A4 => ?_)
        refine pu rfl rfl rfl rfl rfl ?_
        refine ln (rd_nil 5 (Kd.int .u8) s4 []) Try.underlying24 rfl rfl rfl rfl rfl rfl ?_
        refine slo fl_int A4 Try.underlying24 z5 rfl rfl rfl rfl rfl rfl rfl (fun v6 A6 => ?_)
        refine asg v6 rfl rfl rfl rfl rfl rfl ?_
        refine dn ?_
        have K8 := (kp0.st p4 rfl)
        exact Kj2 _ _ _ ⟨s4, _, v6, rfl, (ue rfl rfl), K8, A6⟩
      ·
        refine sk ?_
        exact Kj2 _ _ _ ⟨s0, _, (.slice none 0 0), rfl, (ue rfl rfl), kp0, (ow_nil 5 (Kd.int .u8) _ 10)⟩
    rintro y2 _ _ ⟨s9, _, vy2_0, rfl, rfl, Ky2, Ay2_0⟩
    refine sr ?_
    refine mv vy2_0 rfl rfl rfl rfl rfl rfl ?_
    refine asg vy2_0 rfl rfl rfl rfl rfl rfl ?_
    refine dn ?_
    exact re rfl Try.func58 rfl (r_t rfl r_nil) rfl ⟨_, rfl, Ay2_0.fo Ky2 rfl, z.ky Ky2⟩
noncomputable def slices_Concat_byte_byte.b1 (a0 : (List (List Int))) (x15 : (List Int) × Int) : Option (((List Int) × Int) ⊕ (List Int)) :=
  (if (decide (x15.2 < (a0.length : Int))) = true then (if 0 ≤ x15.2 ∧ x15.2 < (a0.length : Int) then (if x15.1.length + (at_ a0 x15.2).length ≤ Lim then (some (.inl ((x15.1 ++ (at_ a0 x15.2)), (IntKind.wrap .i64 (x15.2 + (1 : Int)))))) else none) else none) else ((some x15.1).bind fun o => some (.inr o)))
noncomputable def slices_Concat_byte_byte.b0 (a0 : (List (List Int))) (x2 : Int × Int) : Option ((Int × Int) ⊕ (List Int)) :=
  (if (decide (x2.2 < (a0.length : Int))) = true then (if 0 ≤ x2.2 ∧ x2.2 < (a0.length : Int) then (if (decide ((IntKind.wrap .i64 (x2.1 + ((at_ a0 x2.2).length : Int))) < (0 : Int))) = true then none else (some (.inl ((IntKind.wrap .i64 (x2.1 + ((at_ a0 x2.2).length : Int))), (IntKind.wrap .i64 (x2.2 + (1 : Int))))))) else none) else (((slices_Grow_byte_byte_nil.f x2.1).bind fun r10 => (iter (slices_Concat_byte_byte.b1 a0) (r10, (0 : Int)))).bind fun o => some (.inr o)))
noncomputable def slices_Concat_byte_byte.f (a0 : (List (List Int))) : Option ((List Int)) :=
  (iter (slices_Concat_byte_byte.b0 a0) ((0 : Int), (0 : Int)))
def slices_Concat_byte_byte.Q (w : World) (F : Nat → Prop) (r : (List Int)) (v : Value) (w' : World) : Prop :=
  FO (Kd.sl 5 (Kd.int .u8)) w w' [v] r ∧ Ky [] w w'
set_option maxHeartbeats 4000000 in
set_option maxRecDepth 100000 in
theorem slices_Concat_byte_byte.calls (a0 : (List (List Int))) (w : World) (F : Nat → Prop) (w0_0 : Value) (h0_0 : (Kd.sl 24 (Kd.sl 5 (Kd.int .u8))).rd w [w0_0] a0 F) (r : (List Int)) (m : slices_Concat_byte_byte.f a0 = some r) :
    Calls Try.prog 36 #[w0_0] w fun en w' => ∃ v, en = .returned v ∧ slices_Concat_byte_byte.Q w F r v w' := by
  obtain ⟨s0, rfl, kp0, z⟩ := start0 w F
  have A0_0 := z.rd h0_0
  refine calls_of_TM (args := [w0_0]) (R := fun r en w' => ∃ v, en = .returned v ∧ slices_Concat_byte_byte.Q s0.w F r v w') Try.func36 Try.ntmps36 rfl rfl m ?_
  unfold slices_Concat_byte_byte.f
  refine sr ?_
  refine pu rfl rfl rfl rfl rfl ?_
  refine dn ?_
  refine sr ?_
  refine pu rfl rfl rfl rfl rfl ?_
  refine dn ?_
  refine sq ?_
  refine sr ?_
  refine mv w0_0 rfl rfl rfl rfl rfl rfl ?_
  refine ln A0_0 Try.underlying76 rfl rfl rfl rfl rfl rfl ?_
  refine pu rfl rfl rfl rfl rfl ?_
  refine dn ?_
  refine bl ?_
  refine lpI (fun (x2 : Int × Int) (e : Env) (w : World) => ∃ (s : St) (e0 : Env), w = s.w ∧ e = upd (upd (upd (upd (upd e0 0 w0_0) 3 (.int .i64 x2.1)) 9 w0_0) 10 (.int .i64 (a0.length : Int))) 11 (.int .i64 x2.2) ∧ Kp s0 s) ⟨s0, _, rfl, (ue (ue (ue (ue (ue rfl rfl) rfl) rfl) rfl) rfl), kp0⟩ (fun g2 ih2 => ?_)
  rintro x2 _ _ ⟨s3, _, rfl, rfl, Kx2⟩
  unfold slices_Concat_byte_byte.b0
  refine sr ?_
  refine pu rfl rfl rfl rfl rfl ?_
  refine dn ?_
  refine sq ?_
  refine cd rfl (fun h4 => ?_) (fun h4 => ?_)
  ·
    refine sk ?_
    refine sq ?_
    refine bl ?_
    refine sr ?_
    have A5 := (A0_0.kp Kx2)
    refine ix A5 Try.underlying76 z24 rfl rfl rfl rfl rfl rfl rfl rfl (fun ad6 es6 h0_6 h1_6 he6 ce6 ia6 => ?_)
    obtain ⟨v6, rfl, he6'⟩ := he6
    have A6 : RdF (Kd.sl 5 (Kd.int .u8)) s3 [v6] (at_ a0 x2.2) [0] := ⟨v6, rfl, he6'⟩
    refine lc0 ce6 Try.underlying24 rfl rfl rfl rfl rfl rfl rfl rfl ?_
    refine asg v6 rfl rfl rfl rfl rfl rfl ?_
    refine dn ?_
    refine sr ?_
    refine pu rfl rfl rfl rfl rfl ?_
    refine mv v6 rfl rfl rfl rfl rfl rfl ?_
    refine ln A6 Try.underlying24 rfl rfl rfl rfl rfl rfl ?_
    refine pu rfl rfl rfl rfl rfl ?_
    refine pu rfl rfl rfl rfl rfl ?_
    refine dn ?_
    refine sr ?_
    refine pu rfl rfl rfl rfl rfl ?_
    refine pu rfl rfl rfl rfl rfl ?_
    refine dn ?_
    refine cd rfl (fun h9 => ?_) (fun h9 => ?_)
    ·
      refine rg ?_
      exact mn
    ·
      refine sk ?_
      refine ib ?_
      refine rg ?_
      refine pu rfl rfl rfl rfl rfl ?_
      refine pu rfl rfl rfl rfl rfl ?_
      refine dn ?_
      exact lb ih2 ⟨s3, _, rfl, (ue (ue (ue (ue (ue rfl rfl) rfl) rfl) rfl) rfl), Kx2⟩
  ·
    refine xt rfl ?_
    refine sgb ?_
    refine sr ?_
    refine pu rfl rfl rfl rfl rfl ?_
    refine cl rfl rfl rfl rfl rfl Try.func58 rfl rfl rfl (fun r10 m10 => slices_Grow_byte_byte_nil.calls x2.1 s3.w (fun b => memb [] (s3.g b) = true)  r10 m10) ?_
    rintro r10 v10_0 w10 m10 ⟨f10_0, ky10⟩
    obtain ⟨s11, rfl, p11, n11⟩ := nwx s3 w10 10 ky10
    have A10_0 := f10_0.c n11
    refine asg v10_0 rfl rfl rfl rfl rfl rfl ?_
    refine dn ?_
    refine sq ?_
    refine sr ?_
    refine mv w0_0 rfl rfl rfl rfl rfl rfl ?_
    have K13 := (Kx2.st p11 rfl)
    have A14 := (A0_0.kp K13)
    refine ln A14 Try.underlying76 rfl rfl rfl rfl rfl rfl ?_
    refine pu rfl rfl rfl rfl rfl ?_
    refine dn ?_
    refine bl ?_
    refine lpI (fun (x15 : (List Int) × Int) (e : Env) (w : World) => ∃ (s : St) (e0 : Env) (vx15_0 : Value), w = s.w ∧ e = upd (upd (upd (upd e0 6 vx15_0) 25 w0_0) 26 (.int .i64 (a0.length : Int))) 27 (.int .i64 x15.2) ∧ Kp s0 s ∧ OwF (Kd.sl 5 (Kd.int .u8)) s [vx15_0] x15.1 10) ⟨s11, _, v10_0, rfl, (ue (ue (ue (ue rfl rfl) rfl) rfl) rfl), K13, A10_0⟩ (fun g15 ih15 => ?_)
    rintro x15 _ _ ⟨s16, _, vx15_0, rfl, rfl, Kx15, Ax15_0⟩
    unfold slices_Concat_byte_byte.b1
    refine sr ?_
    refine pu rfl rfl rfl rfl rfl ?_
    refine dn ?_
    refine sq ?_
    refine cd rfl (fun h18 => ?_) (fun h18 => ?_)
    ·
      refine sk ?_
      refine sq ?_
      refine bl ?_
      refine sr ?_
      have A19 := (A0_0.kp Kx15)
      refine ix A19 Try.underlying76 z24 rfl rfl rfl rfl rfl rfl rfl rfl (fun ad20 es20 h0_20 h1_20 he20 ce20 ia20 => ?_)
      obtain ⟨v20, rfl, he20'⟩ := he20
      have A20 : RdF (Kd.sl 5 (Kd.int .u8)) s16 [v20] (at_ a0 x15.2) [0] := ⟨v20, rfl, he20'⟩
      refine lc0 ce20 Try.underlying24 rfl rfl rfl rfl rfl rfl rfl rfl ?_
      refine asg v20 rfl rfl rfl rfl rfl rfl ?_
      refine dn ?_
      refine rg ?_
      refine mv vx15_0 rfl rfl rfl rfl rfl rfl ?_
      refine mv v20 rfl rfl rfl rfl rfl rfl ?_
      refine apF fl_int sl24 Ax15_0 A20 rfl rfl rfl rfl rfl rfl rfl (fun v23 s23 p23 A23 => ?_)
      refine asg v23 rfl rfl rfl rfl rfl rfl ?_
      refine dn ?_
      refine ib ?_
      refine rg ?_
      refine pu rfl rfl rfl rfl rfl ?_
      refine pu rfl rfl rfl rfl rfl ?_
      refine dn ?_
      have K25 := (Kx15.st p23 rfl)
      exact lb ih15 ⟨s23, _, v23, rfl, (ue (ue (ue (ue rfl rfl) rfl) rfl) rfl), K25, A23⟩
    ·
      refine xt rfl ?_
      refine sgb ?_
      refine sr ?_
      refine mv vx15_0 rfl rfl rfl rfl rfl rfl ?_
      refine asg vx15_0 rfl rfl rfl rfl rfl rfl ?_
      refine dn ?_
      exact re rfl Try.func36 rfl (r_t rfl r_nil) rfl ⟨_, rfl, Ax15_0.fo Kx15 rfl, z.ky Kx15⟩
noncomputable def impl_Crc.b2 (a0 : (List Int)) (x5 : Int × (List Int)) (x19 : Int × Int) : Option ((Int × Int) ⊕ Int) :=
  (if (decide (x19.2 < (a0.length : Int))) = true then (if 0 ≤ x19.2 ∧ x19.2 < (a0.length : Int) then (if 0 ≤ (iand .u32 (ixor .u32 x19.1 (IntKind.wrap .u32 (at_ a0 x19.2))) (15 : Int)) ∧ (iand .u32 (ixor .u32 x19.1 (IntKind.wrap .u32 (at_ a0 x19.2))) (15 : Int)) < (x5.2.length : Int) then (if 0 ≤ (iand .u32 (ixor .u32 (ishr .u32 (ixor .u32 x19.1 (IntKind.wrap .u32 (at_ a0 x19.2))) (4 : Int)) (at_ x5.2 (iand .u32 (ixor .u32 x19.1 (IntKind.wrap .u32 (at_ a0 x19.2))) (15 : Int)))) (15 : Int)) ∧ (iand .u32 (ixor .u32 (ishr .u32 (ixor .u32 x19.1 (IntKind.wrap .u32 (at_ a0 x19.2))) (4 : Int)) (at_ x5.2 (iand .u32 (ixor .u32 x19.1 (IntKind.wrap .u32 (at_ a0 x19.2))) (15 : Int)))) (15 : Int)) < (x5.2.length : Int) then (some (.inl ((ixor .u32 (ishr .u32 (ixor .u32 (ishr .u32 (ixor .u32 x19.1 (IntKind.wrap .u32 (at_ a0 x19.2))) (4 : Int)) (at_ x5.2 (iand .u32 (ixor .u32 x19.1 (IntKind.wrap .u32 (at_ a0 x19.2))) (15 : Int)))) (4 : Int)) (at_ x5.2 (iand .u32 (ixor .u32 (ishr .u32 (ixor .u32 x19.1 (IntKind.wrap .u32 (at_ a0 x19.2))) (4 : Int)) (at_ x5.2 (iand .u32 (ixor .u32 x19.1 (IntKind.wrap .u32 (at_ a0 x19.2))) (15 : Int)))) (15 : Int)))), (IntKind.wrap .i64 (x19.2 + (1 : Int)))))) else none) else none) else none) else ((some (IntKind.wrap .i64 (ixor .u32 (IntKind.max .u32) x19.1))).bind fun o => some (.inr o)))
noncomputable def impl_Crc.b1 (x5 : Int × (List Int)) (x10 : Int × Int) : Option ((Int × Int) ⊕ (Int × (List Int) ⊕ Int)) :=
  (if (decide (x10.2 < (4 : Int))) = true then (some (.inl ((ixor .u32 (ishr .u32 x10.1 (1 : Int)) (IntKind.wrap .u32 ((iand .u32 x10.1 (1 : Int)) * (3988292384 : Int)))), (IntKind.wrap .i64 (x10.2 + (1 : Int)))))) else ((if 0 ≤ x5.1 ∧ x5.1 < (x5.2.length : Int) then (some (.inl ((IntKind.wrap .i64 (x5.1 + (1 : Int))), (x5.2.set (x5.1).toNat x10.1)))) else none).bind fun o => some (.inr o)))
noncomputable def impl_Crc.b0 (a0 : (List Int)) (x5 : Int × (List Int)) : Option ((Int × (List Int)) ⊕ Int) :=
  (if (decide (x5.1 < (16 : Int))) = true then (iter (impl_Crc.b1 x5) ((IntKind.wrap .u32 x5.1), (0 : Int))) else ((iter (impl_Crc.b2 a0 x5) ((4294967295 : Int), (0 : Int))).bind fun o => some (.inr o)))
noncomputable def impl_Crc.f (a0 : (List Int)) : Option (Int) :=
  (if (decide ((a0.length : Int) > (65536 : Int))) = true then (some (-1 : Int)) else (iter (impl_Crc.b0 a0) ((0 : Int), (List.replicate 16 (0 : Int)))))
def impl_Crc.Q (w : World) (F : Nat → Prop) (r : Int) (v : Value) (w' : World) : Prop :=
  v = (.int .i64 r) ∧ Ky [] w w'
set_option maxHeartbeats 4000000 in
set_option maxRecDepth 100000 in
theorem impl_Crc.calls (a0 : (List Int)) (w : World) (F : Nat → Prop) (w0_0 : Value) (h0_0 : (Kd.sl 5 (Kd.int .u8)).rd w [w0_0] a0 F) (r : Int) (m : impl_Crc.f a0 = some r) :
    Calls Try.prog 60 #[w0_0] w fun en w' => ∃ v, en = .returned v ∧ impl_Crc.Q w F r v w' := by
  obtain ⟨s0, rfl, kp0, z⟩ := start0 w F
  have A0_0 := z.rd h0_0
  refine calls_of_TM (args := [w0_0]) (R := fun r en w' => ∃ v, en = .returned v ∧ impl_Crc.Q s0.w F r v w') Try.func60 Try.ntmps60 rfl rfl m ?_
  unfold impl_Crc.f
  refine sr ?_
  refine pu rfl rfl rfl rfl rfl ?_
  refine dn ?_
  refine sq ?_
  refine sr ?_
  refine mv w0_0 rfl rfl rfl rfl rfl rfl ?_
  refine ln A0_0 Try.underlying24 rfl rfl rfl rfl rfl rfl ?_
  refine pu rfl rfl rfl rfl rfl ?_
  refine dn ?_
  refine cd rfl (fun h2 => ?_) (fun h2 => ?_)
  ·
    refine sr ?_
    refine pu rfl rfl rfl rfl rfl ?_
    refine dn ?_
    exact re rfl Try.func60 rfl (r_t rfl r_nil) rfl ⟨_, rfl, rfl, z.ky kp0⟩
  ·
    refine sk ?_
    refine sr ?_
    refine ala (K := (Kd.int .u32)) (v0 := (.int .u32 (0 : Int))) (x0 := (0 : Int)) (cnt := 16) 10 o84 (fun _ => ⟨rfl, rfl⟩) rfl rfl rfl rfl rfl rfl rfl rfl (fun b3 s3 p3 A3 => ?_)
    refine dn ?_
    refine sq ?_
    refine sr ?_
    refine pu rfl rfl rfl rfl rfl ?_
    refine dn ?_
    refine bl ?_
    have K6 := (kp0.st p3 rfl)
    refine lpI (fun (x5 : Int × (List Int)) (e : Env) (w : World) => ∃ (s : St) (e0 : Env), w = s.w ∧ e = upd (upd (upd e0 0 w0_0) 3 (.pointer (some ⟨b3, 0, none⟩))) 11 (.int .i64 x5.1) ∧ Kp s0 s ∧ OwF (Kd.sl 84 (Kd.int .u32)) s [(.slice (some ⟨b3, 0, none⟩) 16 16)] x5.2 10) ⟨s3, _, rfl, (ue (ue (ue rfl rfl) rfl) rfl), K6, A3⟩ (fun g5 ih5 => ?_)
    rintro x5 _ _ ⟨s7, _, rfl, rfl, Kx5, Ax5_0⟩
    unfold impl_Crc.b0
    refine sr ?_
    refine pu rfl rfl rfl rfl rfl ?_
    refine dn ?_
    refine sq ?_
    refine cd rfl (fun h9 => ?_) (fun h9 => ?_)
    ·
      refine sk ?_
      refine sq ?_
      refine bl ?_
      refine sr ?_
      refine pu rfl rfl rfl rfl rfl ?_
      refine pu rfl rfl rfl rfl rfl ?_
      refine dn ?_
      refine sr ?_
      refine pu rfl rfl rfl rfl rfl ?_
      refine cv Try.underlying83 Try.underlying3 rfl rfl rfl rfl rfl rfl ?_
      refine pu rfl rfl rfl rfl rfl ?_
      refine dn ?_
      refine sq ?_
      refine sr ?_
      refine pu rfl rfl rfl rfl rfl ?_
      refine dn ?_
      refine bl ?_
      refine lpI (fun (x10 : Int × Int) (e : Env) (w : World) => ∃ (s : St) (e0 : Env), w = s.w ∧ e = upd (upd (upd (upd (upd (upd e0 0 w0_0) 3 (.pointer (some ⟨b3, 0, none⟩))) 4 (.int .i64 x5.1)) 5 (.int .u32 x10.1)) 11 (.int .i64 x5.1)) 16 (.int .i64 x10.2) ∧ Kp s0 s ∧ OwF (Kd.sl 84 (Kd.int .u32)) s [(.slice (some ⟨b3, 0, none⟩) 16 16)] x5.2 10) ⟨s7, _, rfl, (ue (ue (ue (ue (ue (ue rfl rfl) rfl) rfl) rfl) rfl) rfl), Kx5, Ax5_0⟩ (fun g10 ih10 => ?_)
      rintro x10 _ _ ⟨s11, _, rfl, rfl, Kx10, Cx10_8⟩
      unfold impl_Crc.b1
      refine sr ?_
      refine pu rfl rfl rfl rfl rfl ?_
      refine dn ?_
      refine sq ?_
      refine cd rfl (fun h12 => ?_) (fun h12 => ?_)
      ·
        refine sk ?_
        refine sq ?_
        refine bl ?_
        refine rg ?_
        refine pu rfl rfl rfl rfl rfl ?_
        refine shrK rfl rfl rfl rfl rfl rfl rfl rfl ?_
        refine pu rfl rfl rfl rfl rfl ?_
        refine pu rfl rfl rfl rfl rfl ?_
        refine pu rfl rfl rfl rfl rfl ?_
        refine pu rfl rfl rfl rfl rfl ?_
        refine pu rfl rfl rfl rfl rfl ?_
        refine dn ?_
        refine ib ?_
        refine rg ?_
        refine pu rfl rfl rfl rfl rfl ?_
        refine pu rfl rfl rfl rfl rfl ?_
        refine dn ?_
        exact lb ih10 ⟨s11, _, rfl, (ue (ue (ue (ue (ue (ue rfl rfl) rfl) rfl) rfl) rfl) rfl), Kx10, Cx10_8⟩
      ·
        refine xt rfl ?_
        refine sgb ?_
        refine rg ?_
        refine pu rfl rfl rfl rfl rfl ?_
        refine pu rfl rfl rfl rfl rfl ?_
        refine ixp Cx10_8.rd Try.underlying84 z83 rfl rfl rfl rfl rfl rfl rfl rfl (fun ad13 es13 h0_13 h1_13 he13 ce13 ia13 => ?_)
        obtain rfl := he13
        refine so (x' := x10.1) Cx10_8 ia13 h0_13 h1_13 cs_flat z83 rfl rfl rfl rfl rfl rfl (fun s15 p15 A15 => ?_)
        refine dn ?_
        refine ib ?_
        refine rg ?_
        refine pu rfl rfl rfl rfl rfl ?_
        refine pu rfl rfl rfl rfl rfl ?_
        refine dn ?_
        have K17 := (Kx10.st p15 rfl)
        exact lb ih5 ⟨s15, _, rfl, (ue (ue (ue rfl rfl) rfl) rfl), K17, A15⟩
    ·
      refine xt rfl ?_
      refine sgb ?_
      refine sr ?_
      refine pu rfl rfl rfl rfl rfl ?_
      refine dn ?_
      refine sq ?_
      refine sr ?_
      refine mv w0_0 rfl rfl rfl rfl rfl rfl ?_
      have A18 := (A0_0.kp Kx5)
      refine ln A18 Try.underlying24 rfl rfl rfl rfl rfl rfl ?_
      refine pu rfl rfl rfl rfl rfl ?_
      refine dn ?_
      refine bl ?_
      refine lpI (fun (x19 : Int × Int) (e : Env) (w : World) => ∃ (s : St) (e0 : Env), w = s.w ∧ e = upd (upd (upd (upd (upd e0 0 w0_0) 3 (.pointer (some ⟨b3, 0, none⟩))) 6 (.int .u32 x19.1)) 30 (.int .i64 (a0.length : Int))) 31 (.int .i64 x19.2) ∧ Kp s0 s ∧ OwF (Kd.sl 84 (Kd.int .u32)) s [(.slice (some ⟨b3, 0, none⟩) 16 16)] x5.2 10) ⟨s7, _, rfl, (ue (ue (ue (ue (ue rfl rfl) rfl) rfl) rfl) rfl), Kx5, Ax5_0⟩ (fun g19 ih19 => ?_)
      rintro x19 _ _ ⟨s20, _, rfl, rfl, Kx19, Cx19_8⟩
      unfold impl_Crc.b2
      refine sr ?_
      refine pu rfl rfl rfl rfl rfl ?_
      refine dn ?_
      refine sq ?_
      refine cd rfl (fun h21 => ?_) (fun h21 => ?_)
      ·
        refine sk ?_
        refine sq ?_
        refine bl ?_
        refine sr ?_
        refine pu rfl rfl rfl rfl rfl ?_
        refine pu rfl rfl rfl rfl rfl ?_
        refine dn ?_
        refine sr ?_
        refine pu rfl rfl rfl rfl rfl ?_
        refine mv w0_0 rfl rfl rfl rfl rfl rfl ?_
        refine pu rfl rfl rfl rfl rfl ?_
        have A22 := (A0_0.kp Kx19)
        refine ix A22 Try.underlying24 z5 rfl rfl rfl rfl rfl rfl rfl rfl (fun ad23 es23 h0_23 h1_23 he23 ce23 ia23 => ?_)
        obtain rfl := he23
        refine lc0 ce23 Try.underlying5 rfl rfl rfl rfl rfl rfl rfl rfl ?_
        refine cv Try.underlying83 Try.underlying5 rfl rfl rfl rfl rfl rfl ?_
        refine pu rfl rfl rfl rfl rfl ?_
        refine pu rfl rfl rfl rfl rfl ?_
        refine dn ?_
        refine sr ?_
        refine pu rfl rfl rfl rfl rfl ?_
        refine shrK rfl rfl rfl rfl rfl rfl rfl rfl ?_
        refine pu rfl rfl rfl rfl rfl ?_
        refine pu rfl rfl rfl rfl rfl ?_
        refine ixp Cx19_8.rd Try.underlying84 z83 rfl rfl rfl rfl rfl rfl rfl rfl (fun ad25 es25 h0_25 h1_25 he25 ce25 ia25 => ?_)
        obtain rfl := he25
        refine lc0 ce25 Try.underlying83 rfl rfl rfl rfl rfl rfl rfl rfl ?_
        refine pu rfl rfl rfl rfl rfl ?_
        refine pu rfl rfl rfl rfl rfl ?_
        refine dn ?_
        refine rg ?_
        refine pu rfl rfl rfl rfl rfl ?_
        refine shrK rfl rfl rfl rfl rfl rfl rfl rfl ?_
        refine pu rfl rfl rfl rfl rfl ?_
        refine pu rfl rfl rfl rfl rfl ?_
        refine ixp Cx19_8.rd Try.underlying84 z83 rfl rfl rfl rfl rfl rfl rfl rfl (fun ad27 es27 h0_27 h1_27 he27 ce27 ia27 => ?_)
        obtain rfl := he27
        refine lc0 ce27 Try.underlying83 rfl rfl rfl rfl rfl rfl rfl rfl ?_
        refine pu rfl rfl rfl rfl rfl ?_
        refine pu rfl rfl rfl rfl rfl ?_
        refine dn ?_
        refine ib ?_
        refine rg ?_
        refine pu rfl rfl rfl rfl rfl ?_
        refine pu rfl rfl rfl rfl rfl ?_
        refine dn ?_
        exact lb ih19 ⟨s20, _, rfl, (ue (ue (ue (ue (ue rfl rfl) rfl) rfl) rfl) rfl), Kx19, Cx19_8⟩
      ·
        refine xt rfl ?_
        refine sgb ?_
        refine sr ?_
        refine pu rfl rfl rfl rfl rfl ?_
        refine pu rfl rfl rfl rfl rfl ?_
        refine cv Try.underlying3 Try.underlying83 rfl rfl rfl rfl rfl rfl ?_
        refine pu rfl rfl rfl rfl rfl ?_
        refine dn ?_
        exact re rfl Try.func60 rfl (r_t rfl r_nil) rfl ⟨_, rfl, rfl, z.ky Kx19⟩
noncomputable def impl_Frame.f (a0 : Int) (a1 : (List Int)) : Option ((List Int)) :=
  ((impl_within.f a0 (1 : Int) (255 : Int)).bind fun r2 => (if ((!r2) || (decide ((a1.length : Int) > (1000 : Int)))) = true then (some ([] : (List Int))) else ((impl_PutNum.f (a1.length : Int) (2 : Int)).bind fun r13 => (if ([(IntKind.wrap .u8 a0)]).length + r13.length ≤ Lim then (if ([(IntKind.wrap .u8 a0)] ++ r13).length + a1.length ≤ Lim then ((impl_Crc.f (([(IntKind.wrap .u8 a0)] ++ r13) ++ a1)).bind fun r23 => ((impl_PutNum.f r23 (4 : Int)).bind fun r25 => (if (([(IntKind.wrap .u8 a0)] ++ r13) ++ a1).length + r25.length ≤ Lim then (some ((([(IntKind.wrap .u8 a0)] ++ r13) ++ a1) ++ r25)) else none))) else none) else none))))
def impl_Frame.Q (w : World) (F : Nat → Prop) (r : (List Int)) (v : Value) (w' : World) : Prop :=
  FO (Kd.sl 5 (Kd.int .u8)) w w' [v] r ∧ Ky [] w w'
set_option maxHeartbeats 4000000 in
set_option maxRecDepth 100000 in
theorem impl_Frame.calls (a0 : Int) (a1 : (List Int)) (w : World) (F : Nat → Prop) (w1_0 : Value) (h1_0 : (Kd.sl 5 (Kd.int .u8)).rd w [w1_0] a1 F) (r : (List Int)) (m : impl_Frame.f a0 a1 = some r) :
    Calls Try.prog 39 #[(.int .i64 a0), w1_0] w fun en w' => ∃ v, en = .returned v ∧ impl_Frame.Q w F r v w' := by
  obtain ⟨s0, rfl, kp0, z⟩ := start0 w F
  have A1_0 := z.rd h1_0
  refine calls_of_TM (args := [(.int .i64 a0), w1_0]) (R := fun r en w' => ∃ v, en = .returned v ∧ impl_Frame.Q s0.w F r v w') Try.func39 Try.ntmps39 rfl rfl m ?_
  unfold impl_Frame.f
  refine sr ?_
  refine pu rfl rfl rfl rfl rfl ?_
  refine dn ?_
  refine sq ?_
  refine sr ?_
  refine pu rfl rfl rfl rfl rfl ?_
  refine cl rfl rfl rfl rfl rfl Try.func34 rfl rfl rfl (fun r2 m2 => impl_within.calls a0 (1 : Int) (255 : Int) s0.w (fun b => memb [] (s0.g b) = true)  r2 m2) ?_
  rintro r2 _ w2 m2 ⟨rfl, ky2⟩
  obtain ⟨s3, rfl, p3, n3⟩ := nwx s0 w2 10 ky2
  refine pu rfl rfl rfl rfl rfl ?_
  refine pu rfl rfl rfl rfl rfl ?_
  refine jy [9, 10, 11, 12, 13] [] 13 (.bool ((!r2) || (decide ((a1.length : Int) > (1000 : Int))))) rfl (fun Kg4 => ?_) (fun j4 => ?_)
  ·
    rcases Bool.eq_false_or_eq_true (!r2) with hb4 | hb4
    ·
      refine sbT hb4 ?_
      refine uw rfl rfl rfl rfl ?_
      refine uw rfl rfl rfl rfl ?_
      refine uw rfl rfl rfl rfl ?_
      refine pu rfl rfl rfl rfl rfl ?_
      exact Kg4 _ (Ag.put ((Ag.put ((Ag.put ((Ag.put (Ag.base rfl) rfl)) rfl)) rfl)) rfl) (by rw [hb4]; rfl)
    ·
      refine sbT hb4 ?_
      refine mv w1_0 rfl rfl rfl rfl rfl rfl ?_
      have K5 := (kp0.st p3 rfl)
      have A6 := (A1_0.kp K5)
      refine ln A6 Try.underlying24 rfl rfl rfl rfl rfl rfl ?_
      refine pu rfl rfl rfl rfl rfl ?_
      refine pu rfl rfl rfl rfl rfl ?_
      exact Kg4 _ (Ag.put ((Ag.put ((Ag.put ((Ag.put (Ag.base rfl) rfl)) rfl)) rfl)) rfl) (by rw [hb4]; rfl)
  refine dn ?_
  refine cd rfl (fun h7 => ?_) (fun h7 => ?_)
  ·
    refine sr ?_
    refine pu rfl rfl rfl rfl rfl ?_
    refine dn ?_
    have K8 := (kp0.st p3 rfl)
    exact re rfl Try.func39 rfl (r_t rfl r_nil) rfl ⟨_, rfl, (ow_nil 5 (Kd.int .u8) s3 10).fo K8 rfl, z.ky K8⟩
  ·
    refine sk ?_
    refine sr ?_
    refine pu rfl rfl rfl rfl rfl ?_
    refine cv Try.underlying5 Try.underlying3 rfl rfl rfl rfl rfl rfl ?_
    refine ltF (K := (Kd.int .u8)) (cells := [(.int .u8 (IntKind.wrap .u8 a0))]) [(IntKind.wrap .u8 a0)] 11 fl_int Try.underlying24 z5 o5 (fun w => (els_flat _ _ _)) rfl rfl rfl rfl rfl rfl rfl rfl rfl rfl (fun v9 s9 p9 A9 => ?_)
    refine mv w1_0 rfl rfl rfl rfl rfl rfl ?_
    have K11 := ((kp0.st p3 rfl).st p9 rfl)
    have A12 := (A1_0.kp K11)
    refine ln A12 Try.underlying24 rfl rfl rfl rfl rfl rfl ?_
    refine cl rfl rfl rfl rfl rfl Try.func37 rfl rfl rfl (fun r13 m13 => impl_PutNum.calls (a1.length : Int) (2 : Int) s9.w (fun b => memb [] (s9.g b) = true)  r13 m13) ?_
    rintro r13 v13_0 w13 m13 ⟨f13_0, ky13⟩
    obtain ⟨s14, rfl, p14, n14⟩ := nwx s9 w13 12 ky13
    have A13_0 := f13_0.c n14
    have A16 := (A9.st p14 rfl)
    refine apF fl_int sl24 A16 A13_0.rd rfl rfl rfl rfl rfl rfl rfl (fun v17 s17 p17 A17 => ?_)
    refine asg v17 rfl rfl rfl rfl rfl rfl ?_
    refine dn ?_
    refine sr ?_
    refine mv v17 rfl rfl rfl rfl rfl rfl ?_
    refine mv w1_0 rfl rfl rfl rfl rfl rfl ?_
    have K19 := ((K11.st p14 rfl).st p17 rfl)
    have A20 := (A1_0.kp K19)
    refine apF fl_int sl24 A17 A20 rfl rfl rfl rfl rfl rfl rfl (fun v21 s21 p21 A21 => ?_)
    refine asg v21 rfl rfl rfl rfl rfl rfl ?_
    refine dn ?_
    refine sr ?_
    refine mv v21 rfl rfl rfl rfl rfl rfl ?_
    refine mv v21 rfl rfl rfl rfl rfl rfl ?_
    refine cl rfl rfl rfl rfl rfl Try.func60 rfl rfl rfl (fun r23 m23 => impl_Crc.calls (([(IntKind.wrap .u8 a0)] ++ r13) ++ a1) s21.w (fun b => memb [11] (s21.g b) = true) v21 A21.rd r23 m23) ?_
    rintro r23 _ w23 m23 ⟨rfl, ky23⟩
    obtain ⟨s24, rfl, p24, n24⟩ := nwx s21 w23 13 ky23
    refine cl rfl rfl rfl rfl rfl Try.func37 rfl rfl rfl (fun r25 m25 => impl_PutNum.calls r23 (4 : Int) s24.w (fun b => memb [] (s24.g b) = true)  r25 m25) ?_
    rintro r25 v25_0 w25 m25 ⟨f25_0, ky25⟩
    obtain ⟨s26, rfl, p26, n26⟩ := nwx s24 w25 14 ky25
    have A25_0 := f25_0.c n26
    have A28 := ((A21.st p24 rfl).st p26 rfl)
    refine apF fl_int sl24 A28 A25_0.rd rfl rfl rfl rfl rfl rfl rfl (fun v29 s29 p29 A29 => ?_)
    refine asg v29 rfl rfl rfl rfl rfl rfl ?_
    refine dn ?_
    have K31 := ((((K19.st p21 rfl).st p24 rfl).st p26 rfl).st p29 rfl)
    exact re rfl Try.func39 rfl (r_t rfl r_nil) rfl ⟨_, rfl, A29.fo K31 rfl, z.ky K31⟩
noncomputable def slices_Clone_byte_byte.f (a0 : (List Int)) : Option ((List Int)) :=
  (if ([] : (List Int)).length + a0.length ≤ Lim then (some (([] : (List Int)) ++ a0)) else none)
def slices_Clone_byte_byte.Q (w : World) (F : Nat → Prop) (r : (List Int)) (v : Value) (w' : World) : Prop :=
  FO (Kd.sl 5 (Kd.int .u8)) w w' [v] r ∧ Ky [] w w'
set_option maxHeartbeats 4000000 in
set_option maxRecDepth 100000 in
theorem slices_Clone_byte_byte.calls (a0 : (List Int)) (w : World) (F : Nat → Prop) (w0_0 : Value) (h0_0 : (Kd.sl 5 (Kd.int .u8)).rd w [w0_0] a0 F) (r : (List Int)) (m : slices_Clone_byte_byte.f a0 = some r) :
    Calls Try.prog 59 #[w0_0] w fun en w' => ∃ v, en = .returned v ∧ slices_Clone_byte_byte.Q w F r v w' := by
  obtain ⟨s0, rfl, kp0, z⟩ := start0 w F
  have A0_0 := z.rd h0_0
  refine calls_of_TM (args := [w0_0]) (R := fun r en w' => ∃ v, en = .returned v ∧ slices_Clone_byte_byte.Q s0.w F r v w') Try.func59 Try.ntmps59 rfl rfl m ?_
  unfold slices_Clone_byte_byte.f
  refine sr ?_
  refine pu rfl rfl rfl rfl rfl ?_
  refine dn ?_
  refine sq ?_
  refine sr ?_
  refine mv w0_0 rfl rfl rfl rfl rfl rfl ?_
  refine nq A0_0 Try.underlying24 rfl rfl rfl rfl rfl rfl rfl (fun nb2 hn2 => ?_)
  refine dn ?_
  refine cdb rfl (fun h3 => ?_) (fun h3 => ?_)
  ·
    obtain rfl := hn2 h3
    refine mg fun _ => ?_
    refine sr ?_
    refine pu rfl rfl rfl rfl rfl ?_
    refine dn ?_
    exact re rfl Try.func59 rfl (r_t rfl r_nil) rfl ⟨_, rfl, (ow_nil 5 (Kd.int .u8) s0 10).fo kp0 rfl, z.ky kp0⟩
  ·
    refine sk ?_
    refine sr ?_
    refine lt0 (K := (Kd.int .u8)) 10 Try.underlying24 z5 rfl rfl rfl rfl rfl (fun v4 s4 p4 A4 => ?_)
    refine mv w0_0 rfl rfl rfl rfl rfl rfl ?_
    have K6 := (kp0.st p4 rfl)
    have A7 := (A0_0.kp K6)
    refine apF fl_int sl24 A4 A7 rfl rfl rfl rfl rfl rfl rfl (fun v8 s8 p8 A8 => ?_)
    refine asg v8 rfl rfl rfl rfl rfl rfl ?_
    refine dn ?_
    have K10 := (K6.st p8 rfl)
    exact re rfl Try.func59 rfl (r_t rfl r_nil) rfl ⟨_, rfl, A8.fo K10 rfl, z.ky K10⟩
noncomputable def impl_filled.f (a0 : (List Int)) (a1 : Int) : Option ((List Int)) :=
  ((slices_Clone_byte_byte.f a0).bind fun r2 => (if 0 ≤ (IntKind.wrap .i64 (a1 - (a0.length : Int))) ∧ (r2.length : Int) + (IntKind.wrap .i64 (a1 - (a0.length : Int))) ≤ (Lim : Int) then (some (r2 ++ List.replicate ((IntKind.wrap .i64 (a1 - (a0.length : Int)))).toNat (0 : Int))) else none))
def impl_filled.Q (w : World) (F : Nat → Prop) (r : (List Int)) (v : Value) (w' : World) : Prop :=
  FO (Kd.sl 5 (Kd.int .u8)) w w' [v] r ∧ Ky [] w w'
set_option maxHeartbeats 4000000 in
set_option maxRecDepth 100000 in
theorem impl_filled.calls (a0 : (List Int)) (a1 : Int) (w : World) (F : Nat → Prop) (w0_0 : Value) (h0_0 : (Kd.sl 5 (Kd.int .u8)).rd w [w0_0] a0 F) (r : (List Int)) (m : impl_filled.f a0 a1 = some r) :
    Calls Try.prog 38 #[w0_0, (.int .i64 a1)] w fun en w' => ∃ v, en = .returned v ∧ impl_filled.Q w F r v w' := by
  obtain ⟨s0, rfl, kp0, z⟩ := start0 w F
  have A0_0 := z.rd h0_0
  refine calls_of_TM (args := [w0_0, (.int .i64 a1)]) (R := fun r en w' => ∃ v, en = .returned v ∧ impl_filled.Q s0.w F r v w') Try.func38 Try.ntmps38 rfl rfl m ?_
  unfold impl_filled.f
  refine sr ?_
  refine pu rfl rfl rfl rfl rfl ?_
  refine dn ?_
  refine sr ?_
  refine mv w0_0 rfl rfl rfl rfl rfl rfl ?_
  refine cl rfl rfl rfl rfl rfl Try.func59 rfl rfl rfl (fun r2 m2 => slices_Clone_byte_byte.calls a0 s0.w (fun b => memb [0] (s0.g b) = true) w0_0 A0_0 r2 m2) ?_
  rintro r2 v2_0 w2 m2 ⟨f2_0, ky2⟩
  obtain ⟨s3, rfl, p3, n3⟩ := nwx s0 w2 10 ky2
  have A2_0 := f2_0.c n3
  refine pu rfl rfl rfl rfl rfl ?_
  refine mv w0_0 rfl rfl rfl rfl rfl rfl ?_
  have K5 := (kp0.st p3 rfl)
  have A6 := (A0_0.kp K5)
  refine ln A6 Try.underlying24 rfl rfl rfl rfl rfl rfl ?_
  refine pu rfl rfl rfl rfl rfl ?_
  refine apZ (x0 := (0 : Int)) fl_int sl24 o5 (fun _ => ⟨rfl, rfl⟩) Try.underlying3 A2_0 rfl rfl rfl rfl rfl rfl rfl (fun v7 s7 p7 A7 => ?_)
  refine asg v7 rfl rfl rfl rfl rfl rfl ?_
  refine dn ?_
  have K9 := (K5.st p7 rfl)
  exact re rfl Try.func38 rfl (r_t rfl r_nil) rfl ⟨_, rfl, A7.fo K9 rfl, z.ky K9⟩
noncomputable def impl_ControlBytes.f (a0 : Control) : Option ((List Int)) :=
  ((impl_within.f a0.Seq (1 : Int) (1000000 : Int)).bind fun r3 => ((if (!r3) = true then (some true) else ((impl_within.f a0.Area (0 : Int) (1 : Int)).bind fun r9 => (some (!r9)))).bind fun y5 => ((if y5 = true then (some true) else ((impl_isLsn.f a0.Lsn).bind fun r16 => (some (!r16)))).bind fun y15 => ((if y15 = true then (some true) else ((impl_within.f a0.Next (1 : Int) (401 : Int)).bind fun r23 => (some (!r23)))).bind fun y22 => ((if y22 = true then (some true) else ((impl_within.f a0.Pages (0 : Int) (16 : Int)).bind fun r30 => (some (!r30)))).bind fun y29 => (if y29 = true then (some ([] : (List Int))) else ((impl_PutNum.f a0.Seq (4 : Int)).bind fun r59 => ((impl_PutNum.f a0.Area (1 : Int)).bind fun r68 => ((impl_PutNum.f a0.Lsn (4 : Int)).bind fun r76 => ((impl_PutNum.f a0.Next (4 : Int)).bind fun r83 => ((impl_PutNum.f a0.Pages (1 : Int)).bind fun r88 => ((slices_Concat_byte_byte.f ([r59, r68, r76, r83, r88])).bind fun r97 => ((impl_Frame.f (9 : Int) r97).bind fun r100 => ((impl_filled.f r100 (64 : Int)).bind fun r103 => (some r103)))))))))))))))
def impl_ControlBytes.Q (w : World) (F : Nat → Prop) (r : (List Int)) (v : Value) (w' : World) : Prop :=
  FO (Kd.sl 5 (Kd.int .u8)) w w' [v] r ∧ Ky [] w w'
set_option maxHeartbeats 4000000 in
set_option maxRecDepth 100000 in
theorem impl_ControlBytes.calls (a0 : Control) (w : World) (F : Nat → Prop)   (r : (List Int)) (m : impl_ControlBytes.f a0 = some r) :
    Calls Try.prog 9 #[(.agg #[(.int .i64 a0.Seq), (.int .i64 a0.Area), (.int .i64 a0.Lsn), (.int .i64 a0.Next), (.int .i64 a0.Pages)])] w fun en w' => ∃ v, en = .returned v ∧ impl_ControlBytes.Q w F r v w' := by
  obtain ⟨s0, rfl, kp0, z⟩ := start0 w F
  refine calls_of_TM (args := [(.agg #[(.int .i64 a0.Seq), (.int .i64 a0.Area), (.int .i64 a0.Lsn), (.int .i64 a0.Next), (.int .i64 a0.Pages)])]) (R := fun r en w' => ∃ v, en = .returned v ∧ impl_ControlBytes.Q s0.w F r v w') Try.func9 Try.ntmps9 rfl rfl m ?_
  unfold impl_ControlBytes.f
  refine sr ?_
  refine bx (cs := [(.int .i64 a0.Seq), (.int .i64 a0.Area), (.int .i64 a0.Lsn), (.int .i64 a0.Next), (.int .i64 a0.Pages)]) 10 rfl rfl rfl rfl rfl rfl (fun b1 s1 p1 B1 => ?_)
  refine pu rfl rfl rfl rfl rfl ?_
  refine dn ?_
  refine sq ?_
  refine sr ?_
  refine fa fa26_0 rfl rfl rfl rfl rfl rfl ?_
  refine ld B1 Try.underlying3 rfl rfl rfl rfl rfl rfl rfl rfl ?_
  refine cl rfl rfl rfl rfl rfl Try.func34 rfl rfl rfl (fun r3 m3 => impl_within.calls a0.Seq (1 : Int) (1000000 : Int) s1.w (fun b => memb [] (s1.g b) = true)  r3 m3) ?_
  rintro r3 _ w3 m3 ⟨rfl, ky3⟩
  obtain ⟨s4, rfl, p4, n4⟩ := nwx s1 w3 11 ky3
  refine pu rfl rfl rfl rfl rfl ?_
  refine pu rfl rfl rfl rfl rfl ?_
  refine ji [10, 11, 12, 13, 14, 15, 16, 17, 18, 19, 20, 21, 22, 23, 24, 25, 26, 27] (fun (y5 : Bool) (e : Env) (w : World) => ∃ (s : St) (e0 : Env), w = s.w ∧ e = upd (upd e0 1 (.pointer (some ⟨b1, 0, none⟩))) 13 (.bool y5) ∧ Kp s0 s ∧ BlF s b1 26 [(.int .i64 a0.Seq), (.int .i64 a0.Area), (.int .i64 a0.Lsn), (.int .i64 a0.Next), (.int .i64 a0.Pages)] 10) (fun Gj5 Kj5 => ?_) ?_
  ·
    rcases Bool.eq_false_or_eq_true (!r3) with hb5 | hb5
    ·
      refine sbT hb5 ?_
      rw [if_pos hb5]
      refine uw rfl rfl rfl rfl ?_
      refine uw rfl rfl rfl rfl ?_
      refine uw rfl rfl rfl rfl ?_
      refine uw rfl rfl rfl rfl ?_
      refine pu rfl rfl rfl rfl rfl ?_
      have A6 := (BlF.st B1 p4 rfl)
      have K7 := ((kp0.st p1 rfl).st p4 rfl)
      exact Kj5 _ _ _ ⟨s4, _, rfl, (ue (ue rfl rfl) rfl), K7, A6⟩
    ·
      refine sbT hb5 ?_
      rw [if_neg (by rw [hb5]; decide)]
      refine fa fa26_1 rfl rfl rfl rfl rfl rfl ?_
      have A8 := (BlF.st B1 p4 rfl)
      refine ld A8 Try.underlying3 rfl rfl rfl rfl rfl rfl rfl rfl ?_
      refine cl rfl rfl rfl rfl rfl Try.func34 rfl rfl rfl (fun r9 m9 => impl_within.calls a0.Area (0 : Int) (1 : Int) s4.w (fun b => memb [] (s4.g b) = true)  r9 m9) ?_
      rintro r9 _ w9 m9 ⟨rfl, ky9⟩
      obtain ⟨s10, rfl, p10, n10⟩ := nwx s4 w9 12 ky9
      refine pu rfl rfl rfl rfl rfl ?_
      refine pu rfl rfl rfl rfl rfl ?_
      have A11 := (BlF.st A8 p10 rfl)
      have K12 := (((kp0.st p1 rfl).st p4 rfl).st p10 rfl)
      exact Kj5 _ _ _ ⟨s10, _, rfl, (ue (ue rfl rfl) rfl), K12, A11⟩
  rintro y5 _ _ ⟨s13, _, rfl, rfl, Ky5, By5_b1⟩
  refine pu rfl rfl rfl rfl rfl ?_
  refine ji [16, 17, 18, 19, 20, 21, 22, 23, 24, 25, 26, 27] (fun (y15 : Bool) (e : Env) (w : World) => ∃ (s : St) (e0 : Env), w = s.w ∧ e = upd (upd e0 1 (.pointer (some ⟨b1, 0, none⟩))) 19 (.bool y15) ∧ Kp s0 s ∧ BlF s b1 26 [(.int .i64 a0.Seq), (.int .i64 a0.Area), (.int .i64 a0.Lsn), (.int .i64 a0.Next), (.int .i64 a0.Pages)] 10) (fun Gj15 Kj15 => ?_) ?_
  ·
    rcases Bool.eq_false_or_eq_true y5 with hb15 | hb15
    ·
      refine sbT hb15 ?_
      rw [if_pos hb15]
      refine uw rfl rfl rfl rfl ?_
      refine uw rfl rfl rfl rfl ?_
      refine uw rfl rfl rfl rfl ?_
      refine uw rfl rfl rfl rfl ?_
      refine pu rfl rfl rfl rfl rfl ?_
      exact Kj15 _ _ _ ⟨s13, _, rfl, (ue (ue rfl rfl) rfl), Ky5, By5_b1⟩
    ·
      refine sbT hb15 ?_
      rw [if_neg (by rw [hb15]; decide)]
      refine fa fa26_2 rfl rfl rfl rfl rfl rfl ?_
      refine ld By5_b1 Try.underlying3 rfl rfl rfl rfl rfl rfl rfl rfl ?_
      refine cl rfl rfl rfl rfl rfl Try.func35 rfl rfl rfl (fun r16 m16 => impl_isLsn.calls a0.Lsn s13.w (fun b => memb [] (s13.g b) = true)  r16 m16) ?_
      rintro r16 _ w16 m16 ⟨rfl, ky16⟩
      obtain ⟨s17, rfl, p17, n17⟩ := nwx s13 w16 13 ky16
      refine pu rfl rfl rfl rfl rfl ?_
      refine pu rfl rfl rfl rfl rfl ?_
      have A18 := (BlF.st By5_b1 p17 rfl)
      have K19 := (Ky5.st p17 rfl)
      exact Kj15 _ _ _ ⟨s17, _, rfl, (ue (ue rfl rfl) rfl), K19, A18⟩
  rintro y15 _ _ ⟨s20, _, rfl, rfl, Ky15, By15_b1⟩
  refine pu rfl rfl rfl rfl rfl ?_
  refine ji [22, 23, 24, 25, 26, 27] (fun (y22 : Bool) (e : Env) (w : World) => ∃ (s : St) (e0 : Env), w = s.w ∧ e = upd (upd e0 1 (.pointer (some ⟨b1, 0, none⟩))) 25 (.bool y22) ∧ Kp s0 s ∧ BlF s b1 26 [(.int .i64 a0.Seq), (.int .i64 a0.Area), (.int .i64 a0.Lsn), (.int .i64 a0.Next), (.int .i64 a0.Pages)] 10) (fun Gj22 Kj22 => ?_) ?_
  ·
    rcases Bool.eq_false_or_eq_true y15 with hb22 | hb22
    ·
      refine sbT hb22 ?_
      rw [if_pos hb22]
      refine uw rfl rfl rfl rfl ?_
      refine uw rfl rfl rfl rfl ?_
      refine uw rfl rfl rfl rfl ?_
      refine uw rfl rfl rfl rfl ?_
      refine pu rfl rfl rfl rfl rfl ?_
      exact Kj22 _ _ _ ⟨s20, _, rfl, (ue (ue rfl rfl) rfl), Ky15, By15_b1⟩
    ·
      refine sbT hb22 ?_
      rw [if_neg (by rw [hb22]; decide)]
      refine fa fa26_3 rfl rfl rfl rfl rfl rfl ?_
      refine ld By15_b1 Try.underlying3 rfl rfl rfl rfl rfl rfl rfl rfl ?_
      refine cl rfl rfl rfl rfl rfl Try.func34 rfl rfl rfl (fun r23 m23 => impl_within.calls a0.Next (1 : Int) (401 : Int) s20.w (fun b => memb [] (s20.g b) = true)  r23 m23) ?_
      rintro r23 _ w23 m23 ⟨rfl, ky23⟩
      obtain ⟨s24, rfl, p24, n24⟩ := nwx s20 w23 14 ky23
      refine pu rfl rfl rfl rfl rfl ?_
      refine pu rfl rfl rfl rfl rfl ?_
      have A25 := (BlF.st By15_b1 p24 rfl)
      have K26 := (Ky15.st p24 rfl)
      exact Kj22 _ _ _ ⟨s24, _, rfl, (ue (ue rfl rfl) rfl), K26, A25⟩
  rintro y22 _ _ ⟨s27, _, rfl, rfl, Ky22, By22_b1⟩
  refine pu rfl rfl rfl rfl rfl ?_
  refine ji [] (fun (y29 : Bool) (e : Env) (w : World) => ∃ (s : St) (e0 : Env), w = s.w ∧ e = upd (upd e0 1 (.pointer (some ⟨b1, 0, none⟩))) 31 (.bool y29) ∧ Kp s0 s ∧ BlF s b1 26 [(.int .i64 a0.Seq), (.int .i64 a0.Area), (.int .i64 a0.Lsn), (.int .i64 a0.Next), (.int .i64 a0.Pages)] 10) (fun Gj29 Kj29 => ?_) ?_
  ·
    rcases Bool.eq_false_or_eq_true y22 with hb29 | hb29
    ·
      refine sbT hb29 ?_
      rw [if_pos hb29]
      refine uw rfl rfl rfl rfl ?_
      refine uw rfl rfl rfl rfl ?_
      refine uw rfl rfl rfl rfl ?_
      refine uw rfl rfl rfl rfl ?_
      refine pu rfl rfl rfl rfl rfl ?_
      exact Kj29 _ _ _ ⟨s27, _, rfl, (ue (ue rfl rfl) rfl), Ky22, By22_b1⟩
    ·
      refine sbT hb29 ?_
      rw [if_neg (by rw [hb29]; decide)]
      refine fa fa26_4 rfl rfl rfl rfl rfl rfl ?_
      refine ld By22_b1 Try.underlying3 rfl rfl rfl rfl rfl rfl rfl rfl ?_
      refine cl rfl rfl rfl rfl rfl Try.func34 rfl rfl rfl (fun r30 m30 => impl_within.calls a0.Pages (0 : Int) (16 : Int) s27.w (fun b => memb [] (s27.g b) = true)  r30 m30) ?_
      rintro r30 _ w30 m30 ⟨rfl, ky30⟩
      obtain ⟨s31, rfl, p31, n31⟩ := nwx s27 w30 15 ky30
      refine pu rfl rfl rfl rfl rfl ?_
      refine pu rfl rfl rfl rfl rfl ?_
      have A32 := (BlF.st By22_b1 p31 rfl)
      have K33 := (Ky22.st p31 rfl)
      exact Kj29 _ _ _ ⟨s31, _, rfl, (ue (ue rfl rfl) rfl), K33, A32⟩
  rintro y29 _ _ ⟨s34, _, rfl, rfl, Ky29, By29_b1⟩
  refine dn ?_
  refine cd rfl (fun h36 => ?_) (fun h36 => ?_)
  ·
    refine sr ?_
    refine pu rfl rfl rfl rfl rfl ?_
    refine dn ?_
    exact re rfl Try.func9 rfl (r_t rfl r_nil) rfl ⟨_, rfl, (ow_nil 5 (Kd.int .u8) s34 10).fo Ky29 rfl, z.ky Ky29⟩
  ·
    refine sk ?_
    refine sq ?_
    refine zdraw [[], [0], [1], [], [3], [4, 2], [], [6], [7, 5], [], [9], [10, 8], [], [12], [13, 11], [2, 5, 8, 11, 14], [15, 14], [16, 16, 0, 1, 2, 3, 4, 5, 6, 7, 8, 9, 10, 11, 12, 13, 14, 15, 16]] [some 32, some 33, some 34, some 35, some 36, some 37, some 38, some 39, some 40, some 41, some 42, some 43, some 44, some 45, some 46, some 47, some 48, some 3] [[1], [32], [33], [1], [35], [36], [1], [38], [39], [1], [41], [42], [1], [44], [45], [34, 37, 40, 43, 46], [47], [48]] [0, 1, 2, 3, 4, 5, 6, 7, 8, 9, 10, 11, 12, 13, 14, 15, 16, 17] ⟨by kernel_rfl, by kernel_rfl, by kernel_rfl⟩ (by kernel_rfl) (fun s37 p37 l37 tb37 zd37 => ?_)
    have zd38 := zd37.add 0 32 (.pointer (some ⟨b1, 0, none⟩)) rfl
    have A39 := (BlF.st By29_b1 p37 rfl)
    have zd40 := zd38.add 1 33 (.int .i64 a0.Seq) rfl
    have zd41 := zd40.add 3 35 (.pointer (some ⟨b1, 1, none⟩)) rfl
    have A42 := (BlF.st By29_b1 p37 rfl)
    have zd43 := zd41.add 4 36 (.int .i64 a0.Area) rfl
    have zd44 := zd43.add 6 38 (.pointer (some ⟨b1, 2, none⟩)) rfl
    have A45 := (BlF.st By29_b1 p37 rfl)
    have zd46 := zd44.add 7 39 (.int .i64 a0.Lsn) rfl
    have zd47 := zd46.add 9 41 (.pointer (some ⟨b1, 3, none⟩)) rfl
    have A48 := (BlF.st By29_b1 p37 rfl)
    have zd49 := zd47.add 10 42 (.int .i64 a0.Next) rfl
    have zd50 := zd49.add 12 44 (.pointer (some ⟨b1, 4, none⟩)) rfl
    have A51 := (BlF.st By29_b1 p37 rfl)
    have zd52 := zd50.add 13 45 (.int .i64 a0.Pages) rfl
    have A54 := (BlF.st By29_b1 p37 rfl)
    have A55 := (BlF.st By29_b1 p37 rfl)
    have A56 := (BlF.st By29_b1 p37 rfl)
    have A57 := (BlF.st By29_b1 p37 rfl)
    have A58 := (BlF.st By29_b1 p37 rfl)
    refine zstep 2 [some 45, some 44, some 42, some 41, some 39, some 38, some 36, some 35] tb37 zd52 (pq_cons (ld_q A58 Try.underlying3 rfl rfl rfl rfl rfl rfl rfl rfl) rfl (pq_cons (fa_q fa26_4 rfl rfl rfl rfl rfl rfl) rfl (pq_cons (ld_q A57 Try.underlying3 rfl rfl rfl rfl rfl rfl rfl rfl) rfl (pq_cons (fa_q fa26_3 rfl rfl rfl rfl rfl rfl) rfl (pq_cons (ld_q A56 Try.underlying3 rfl rfl rfl rfl rfl rfl rfl rfl) rfl (pq_cons (fa_q fa26_2 rfl rfl rfl rfl rfl rfl) rfl (pq_cons (ld_q A55 Try.underlying3 rfl rfl rfl rfl rfl rfl rfl rfl) rfl (pq_cons (fa_q fa26_1 rfl rfl rfl rfl rfl rfl) rfl (pq_cons (ld_q A54 Try.underlying3 rfl rfl rfl rfl rfl rfl rfl rfl) rfl (pq_cons (fa_q fa26_0 rfl rfl rfl rfl rfl rfl) rfl pq_nil)))))))))) (by kernel_rfl) rfl (fun l53 e53 zd53 => ?_)
    refine cl rfl rfl rfl rfl rfl Try.func37 rfl rfl rfl (fun r59 m59 => impl_PutNum.calls a0.Seq (4 : Int) s37.w (fun b => memb [] (s37.g b) = true)  r59 m59) ?_
    rintro r59 v59_0 w59 m59 ⟨f59_0, ky59⟩
    obtain ⟨s60, rfl, p60, n60⟩ := nwx s37 w59 16 ky59
    have A59_0 := f59_0.c n60
    refine zdone (L' := [13, 12, 10, 9, 7, 6, 4, 3]) (D' := [0, 1, 2]) zd53 rfl rfl rfl (fun zd62 => ?_)
    have A64 := (BlF.st (BlF.st By29_b1 p37 rfl) p60 rfl)
    have A65 := (BlF.st (BlF.st By29_b1 p37 rfl) p60 rfl)
    have A66 := (BlF.st (BlF.st By29_b1 p37 rfl) p60 rfl)
    have A67 := (BlF.st (BlF.st By29_b1 p37 rfl) p60 rfl)
    refine zstep 5 [some 45, some 44, some 42, some 41, some 39, some 38] tb37 zd62 (pq_cons (ld_q A67 Try.underlying3 rfl rfl rfl rfl rfl rfl rfl rfl) rfl (pq_cons (fa_q fa26_4 rfl rfl rfl rfl rfl rfl) rfl (pq_cons (ld_q A66 Try.underlying3 rfl rfl rfl rfl rfl rfl rfl rfl) rfl (pq_cons (fa_q fa26_3 rfl rfl rfl rfl rfl rfl) rfl (pq_cons (ld_q A65 Try.underlying3 rfl rfl rfl rfl rfl rfl rfl rfl) rfl (pq_cons (fa_q fa26_2 rfl rfl rfl rfl rfl rfl) rfl (pq_cons (ld_q A64 Try.underlying3 rfl rfl rfl rfl rfl rfl rfl rfl) rfl (pq_cons (fa_q fa26_1 rfl rfl rfl rfl rfl rfl) rfl pq_nil)))))))) (by kernel_rfl) rfl (fun l63 e63 zd63 => ?_)
    refine cl rfl rfl rfl rfl rfl Try.func37 rfl rfl rfl (fun r68 m68 => impl_PutNum.calls a0.Area (1 : Int) s60.w (fun b => memb [] (s60.g b) = true)  r68 m68) ?_
    rintro r68 v68_0 w68 m68 ⟨f68_0, ky68⟩
    obtain ⟨s69, rfl, p69, n69⟩ := nwx s60 w68 17 ky68
    have A68_0 := f68_0.c n69
    refine zdone (L' := [13, 12, 10, 9, 7, 6]) (D' := [3, 4, 5, 0, 1, 2]) zd63 rfl rfl rfl (fun zd71 => ?_)
    have A73 := (BlF.st (BlF.st (BlF.st By29_b1 p37 rfl) p60 rfl) p69 rfl)
    have A74 := (BlF.st (BlF.st (BlF.st By29_b1 p37 rfl) p60 rfl) p69 rfl)
    have A75 := (BlF.st (BlF.st (BlF.st By29_b1 p37 rfl) p60 rfl) p69 rfl)
    refine zstep 8 [some 45, some 44, some 42, some 41] tb37 zd71 (pq_cons (ld_q A75 Try.underlying3 rfl rfl rfl rfl rfl rfl rfl rfl) rfl (pq_cons (fa_q fa26_4 rfl rfl rfl rfl rfl rfl) rfl (pq_cons (ld_q A74 Try.underlying3 rfl rfl rfl rfl rfl rfl rfl rfl) rfl (pq_cons (fa_q fa26_3 rfl rfl rfl rfl rfl rfl) rfl (pq_cons (ld_q A73 Try.underlying3 rfl rfl rfl rfl rfl rfl rfl rfl) rfl (pq_cons (fa_q fa26_2 rfl rfl rfl rfl rfl rfl) rfl pq_nil)))))) (by kernel_rfl) rfl (fun l72 e72 zd72 => ?_)
    refine cl rfl rfl rfl rfl rfl Try.func37 rfl rfl rfl (fun r76 m76 => impl_PutNum.calls a0.Lsn (4 : Int) s69.w (fun b => memb [] (s69.g b) = true)  r76 m76) ?_
    rintro r76 v76_0 w76 m76 ⟨f76_0, ky76⟩
    obtain ⟨s77, rfl, p77, n77⟩ := nwx s69 w76 18 ky76
    have A76_0 := f76_0.c n77
    refine zdone (L' := [13, 12, 10, 9]) (D' := [6, 7, 8, 3, 4, 5, 0, 1, 2]) zd72 rfl rfl rfl (fun zd79 => ?_)
    have A81 := (BlF.st (BlF.st (BlF.st (BlF.st By29_b1 p37 rfl) p60 rfl) p69 rfl) p77 rfl)
    have A82 := (BlF.st (BlF.st (BlF.st (BlF.st By29_b1 p37 rfl) p60 rfl) p69 rfl) p77 rfl)
    refine zstep 11 [some 45, some 44] tb37 zd79 (pq_cons (ld_q A82 Try.underlying3 rfl rfl rfl rfl rfl rfl rfl rfl) rfl (pq_cons (fa_q fa26_4 rfl rfl rfl rfl rfl rfl) rfl (pq_cons (ld_q A81 Try.underlying3 rfl rfl rfl rfl rfl rfl rfl rfl) rfl (pq_cons (fa_q fa26_3 rfl rfl rfl rfl rfl rfl) rfl pq_nil)))) (by kernel_rfl) rfl (fun l80 e80 zd80 => ?_)
    refine cl rfl rfl rfl rfl rfl Try.func37 rfl rfl rfl (fun r83 m83 => impl_PutNum.calls a0.Next (4 : Int) s77.w (fun b => memb [] (s77.g b) = true)  r83 m83) ?_
    rintro r83 v83_0 w83 m83 ⟨f83_0, ky83⟩
    obtain ⟨s84, rfl, p84, n84⟩ := nwx s77 w83 19 ky83
    have A83_0 := f83_0.c n84
    refine zdone (L' := [13, 12]) (D' := [9, 10, 11, 6, 7, 8, 3, 4, 5, 0, 1, 2]) zd80 rfl rfl rfl (fun zd86 => ?_)
    have A87 := (BlF.st (BlF.st (BlF.st (BlF.st (BlF.st By29_b1 p37 rfl) p60 rfl) p69 rfl) p77 rfl) p84 rfl)
    refine zfin [14, 15, 16, 17] tb37 zd86 (pq_cons (ld_q A87 Try.underlying3 rfl rfl rfl rfl rfl rfl rfl rfl) rfl (pq_cons (fa_q fa26_4 rfl rfl rfl rfl rfl rfl) rfl pq_nil)) (by kernel_rfl) (by decide) ?_
    refine cl rfl rfl rfl rfl rfl Try.func37 rfl rfl rfl (fun r88 m88 => impl_PutNum.calls a0.Pages (1 : Int) s84.w (fun b => memb [] (s84.g b) = true)  r88 m88) ?_
    rintro r88 v88_0 w88 m88 ⟨f88_0, ky88⟩
    obtain ⟨s89, rfl, p89, n89⟩ := nwx s84 w88 20 ky88
    have A88_0 := f88_0.c n89
    have A91 := ((((A59_0.st p69 rfl).st p77 rfl).st p84 rfl).st p89 rfl)
    have A92 := (((A68_0.st p77 rfl).st p84 rfl).st p89 rfl)
    have A93 := ((A76_0.st p84 rfl).st p89 rfl)
    have A94 := (A83_0.st p89 rfl)
    refine ltR (K := (Kd.sl 5 (Kd.int .u8))) (cells := [v59_0, v68_0, v76_0, v83_0, v88_0]) [r59, r68, r76, r83, r88] 21 [16, 17, 18, 19, 20] rfl Try.underlying76 z24 o24 (el_cons (RdF.sub (D := [16, 17, 18, 19, 20]) A91.rd rfl) (el_cons (RdF.sub (D := [16, 17, 18, 19, 20]) A92.rd rfl) (el_cons (RdF.sub (D := [16, 17, 18, 19, 20]) A93.rd rfl) (el_cons (RdF.sub (D := [16, 17, 18, 19, 20]) A94.rd rfl) (el_cons (RdF.sub (D := [16, 17, 18, 19, 20]) A88_0.rd rfl) el_nil))))) rfl rfl rfl rfl rfl rfl rfl rfl rfl (lfill_pc (pc_c (oc A91.rd.one) (pc_c (oc A92.rd.one) (pc_c (oc A93.rd.one) (pc_c (oc A94.rd.one) (pc_c (oc A88_0.rd.one) pc_n))))) rfl) (fun v95 s95 p95 A95 => ?_)
    refine cl rfl rfl rfl rfl rfl Try.func36 rfl rfl rfl (fun r97 m97 => slices_Concat_byte_byte.calls ([r59, r68, r76, r83, r88]) s95.w (fun b => memb [21, 16, 17, 18, 19, 20] (s95.g b) = true) v95 A95.rd r97 m97) ?_
    rintro r97 v97_0 w97 m97 ⟨f97_0, ky97⟩
    obtain ⟨s98, rfl, p98, n98⟩ := nwx s95 w97 22 ky97
    have A97_0 := f97_0.c n98
    refine asg v97_0 rfl rfl rfl rfl rfl rfl ?_
    refine dn ?_
    refine sr ?_
    refine mv v97_0 rfl rfl rfl rfl rfl rfl ?_
    refine cl rfl rfl rfl rfl rfl Try.func39 rfl rfl rfl (fun r100 m100 => impl_Frame.calls (9 : Int) r97 s98.w (fun b => memb [22] (s98.g b) = true) v97_0 A97_0.rd r100 m100) ?_
    rintro r100 v100_0 w100 m100 ⟨f100_0, ky100⟩
    obtain ⟨s101, rfl, p101, n101⟩ := nwx s98 w100 23 ky100
    have A100_0 := f100_0.c n101
    refine cl rfl rfl rfl rfl rfl Try.func38 rfl rfl rfl (fun r103 m103 => impl_filled.calls r100 (64 : Int) s101.w (fun b => memb [23] (s101.g b) = true) v100_0 A100_0.rd r103 m103) ?_
    rintro r103 v103_0 w103 m103 ⟨f103_0, ky103⟩
    obtain ⟨s104, rfl, p104, n104⟩ := nwx s101 w103 24 ky103
    have A103_0 := f103_0.c n104
    refine asg v103_0 rfl rfl rfl rfl rfl rfl ?_
    refine dn ?_
    have K106 := ((((((((((Ky29.st p37 rfl).st p60 rfl).st p69 rfl).st p77 rfl).st p84 rfl).st p89 rfl).st p95 rfl).st p98 rfl).st p101 rfl).st p104 rfl)
    exact re rfl Try.func9 rfl (r_t rfl r_nil) rfl ⟨_, rfl, A103_0.fo K106 rfl, z.ky K106⟩
noncomputable def laws_eqByteS.b0 (a0 : (List Int)) (a1 : (List Int)) (x4 : Int) : Option (Int ⊕ Bool) :=
  (if (decide (x4 < (a0.length : Int))) = true then (if 0 ≤ x4 ∧ x4 < (a0.length : Int) then (if 0 ≤ x4 ∧ x4 < (a1.length : Int) then (if ((at_ a0 x4) != (at_ a1 x4)) = true then (some (.inr false)) else (some (.inl (IntKind.wrap .i64 (x4 + (1 : Int)))))) else none) else none) else ((some true).bind fun o => some (.inr o)))
noncomputable def laws_eqByteS.f (a0 : (List Int)) (a1 : (List Int)) : Option (Bool) :=
  (if ((a0.length : Int) != (a1.length : Int)) = true then (some false) else (iter (laws_eqByteS.b0 a0 a1) (0 : Int)))
def laws_eqByteS.Q (w : World) (F : Nat → Prop) (r : Bool) (v : Value) (w' : World) : Prop :=
  v = (.bool r) ∧ Ky [] w w'
set_option maxHeartbeats 4000000 in
set_option maxRecDepth 100000 in
theorem laws_eqByteS.calls (a0 : (List Int)) (a1 : (List Int)) (w : World) (F : Nat → Prop) (w0_0 : Value) (w1_0 : Value) (h0_0 : (Kd.sl 5 (Kd.int .u8)).rd w [w0_0] a0 F) (h1_0 : (Kd.sl 5 (Kd.int .u8)).rd w [w1_0] a1 F) (r : Bool) (m : laws_eqByteS.f a0 a1 = some r) :
    Calls Try.prog 10 #[w0_0, w1_0] w fun en w' => ∃ v, en = .returned v ∧ laws_eqByteS.Q w F r v w' := by
  obtain ⟨s0, rfl, kp0, z⟩ := start0 w F
  have A0_0 := z.rd h0_0
  have A1_0 := z.rd h1_0
  refine calls_of_TM (args := [w0_0, w1_0]) (R := fun r en w' => ∃ v, en = .returned v ∧ laws_eqByteS.Q s0.w F r v w') Try.func10 Try.ntmps10 rfl rfl m ?_
  unfold laws_eqByteS.f
  refine sr ?_
  refine pu rfl rfl rfl rfl rfl ?_
  refine dn ?_
  refine sq ?_
  refine sr ?_
  refine mv w0_0 rfl rfl rfl rfl rfl rfl ?_
  refine ln A0_0 Try.underlying24 rfl rfl rfl rfl rfl rfl ?_
  refine mv w1_0 rfl rfl rfl rfl rfl rfl ?_
  refine ln A1_0 Try.underlying24 rfl rfl rfl rfl rfl rfl ?_
  refine pu rfl rfl rfl rfl rfl ?_
  refine dn ?_
  refine cd rfl (fun h3 => ?_) (fun h3 => ?_)
  ·
    refine sr ?_
    refine pu rfl rfl rfl rfl rfl ?_
    refine dn ?_
    exact re rfl Try.func10 rfl (r_t rfl r_nil) rfl ⟨_, rfl, rfl, z.ky kp0⟩
  ·
    refine sk ?_
    refine sq ?_
    refine sr ?_
    refine pu rfl rfl rfl rfl rfl ?_
    refine dn ?_
    refine bl ?_
    refine lpI (fun (x4 : Int) (e : Env) (w : World) => ∃ (s : St) (e0 : Env), w = s.w ∧ e = upd (upd (upd e0 0 w0_0) 1 w1_0) 5 (.int .i64 x4) ∧ Kp s0 s) ⟨s0, _, rfl, (ue (ue (ue rfl rfl) rfl) rfl), kp0⟩ (fun g4 ih4 => ?_)
    rintro x4 _ _ ⟨s5, _, rfl, rfl, Kx4⟩
    unfold laws_eqByteS.b0
    refine sq ?_
    refine sr ?_
    refine pu rfl rfl rfl rfl rfl ?_
    refine mv w0_0 rfl rfl rfl rfl rfl rfl ?_
    have A6 := (A0_0.kp Kx4)
    refine ln A6 Try.underlying24 rfl rfl rfl rfl rfl rfl ?_
    refine pu rfl rfl rfl rfl rfl ?_
    refine dn ?_
    refine cd rfl (fun h7 => ?_) (fun h7 => ?_)
    ·
      refine sk ?_
      refine sq ?_
      refine bl ?_
      refine sq ?_
      refine zdraw [[], [], [0, 1], [2], [], [], [4, 5], [6], [3, 7]] [some 17, some 18, some 19, some 20, some 21, some 22, some 23, some 24, some 25] [[0], [5], [17, 18], [19], [1], [5], [21, 22], [23], [20, 24]] [0, 1, 2, 3, 4, 5, 6, 7, 8] ⟨by kernel_rfl, by kernel_rfl, by kernel_rfl⟩ (by kernel_rfl) (fun s8 p8 l8 tb8 zd8 => ?_)
      have zd9 := zd8.add 0 17 w0_0 rfl
      have zd10 := zd9.add 1 18 (.int .i64 x4) rfl
      have K11 := (Kx4.st p8 rfl)
      have A12 := (A0_0.kp K11)
      refine mg fun hg13 => ?_
      obtain ⟨ad13, es13, he13, ce13, ia13⟩ := ix_e A12 rfl hg13.1 hg13.2
      have h0_13 := hg13.1
      have h1_13 := hg13.2
      obtain rfl := he13
      have zd15 := zd10.add 2 19 (.pointer (some ad13)) rfl
      have zd16 := zd15.add 3 20 (.int .u8 (at_ a0 x4)) rfl
      have zd17 := zd16.add 4 21 w1_0 rfl
      have zd18 := zd17.add 5 22 (.int .i64 x4) rfl
      have A19 := (A1_0.kp K11)
      refine mg fun hg20 => ?_
      obtain ⟨ad20, es20, he20, ce20, ia20⟩ := ix_e A19 rfl hg20.1 hg20.2
      have h0_20 := hg20.1
      have h1_20 := hg20.2
      obtain rfl := he20
      have zd22 := zd18.add 6 23 (.pointer (some ad20)) rfl
      have zd23 := zd22.add 7 24 (.int .u8 (at_ a1 x4)) rfl
      refine zfin [8] tb8 zd23 (pq_cons (lc0_q ce20 Try.underlying5 rfl rfl rfl rfl rfl rfl rfl rfl) rfl (pq_cons (ix_q A19 Try.underlying24 z5 hg20.1 hg20.2 ia20 rfl rfl rfl rfl rfl rfl rfl) rfl (pq_cons (pu_q rfl rfl rfl rfl rfl rfl) rfl (pq_cons (mv_q w1_0 rfl rfl rfl rfl rfl rfl) rfl (pq_cons (lc0_q ce13 Try.underlying5 rfl rfl rfl rfl rfl rfl rfl rfl) rfl (pq_cons (ix_q A12 Try.underlying24 z5 hg13.1 hg13.2 ia13 rfl rfl rfl rfl rfl rfl rfl) rfl (pq_cons (pu_q rfl rfl rfl rfl rfl rfl) rfl (pq_cons (mv_q w0_0 rfl rfl rfl rfl rfl rfl) rfl pq_nil)))))))) (by kernel_rfl) (by decide) ?_
      refine pu rfl rfl rfl rfl rfl ?_
      refine dn ?_
      refine cd rfl (fun h24 => ?_) (fun h24 => ?_)
      ·
        refine sr ?_
        refine pu rfl rfl rfl rfl rfl ?_
        refine dn ?_
        refine sgi ?_
        exact re rfl Try.func10 rfl (r_t rfl r_nil) rfl ⟨_, rfl, rfl, z.ky K11⟩
      ·
        refine sk ?_
        refine ib ?_
        refine rg ?_
        refine pu rfl rfl rfl rfl rfl ?_
        refine pu rfl rfl rfl rfl rfl ?_
        refine pu rfl rfl rfl rfl rfl ?_
        refine dn ?_
        exact lb ih4 ⟨s8, _, rfl, (ue (ue (ue rfl rfl) rfl) rfl), K11⟩
    ·
      refine xt rfl ?_
      refine sgb ?_
      refine sr ?_
      refine pu rfl rfl rfl rfl rfl ?_
      refine dn ?_
      exact re rfl Try.func10 rfl (r_t rfl r_nil) rfl ⟨_, rfl, rfl, z.ky Kx4⟩
noncomputable def laws_markByteS.b0  (x2 : (List Int) × Int × Int) : Option (((List Int) × Int × Int) ⊕ (Int × (List Int))) :=
  (if (decide (x2.2.2 < (x2.1.length : Int))) = true then (if 0 ≤ x2.2.2 ∧ x2.2.2 < (x2.1.length : Int) then (some (.inl ((x2.1.set (x2.2.2).toNat (IntKind.wrap .u8 x2.2.1)), (IntKind.wrap .i64 (x2.2.1 + (1 : Int))), (IntKind.wrap .i64 (x2.2.2 + (1 : Int)))))) else none) else ((some (x2.2.1, x2.1)).bind fun o => some (.inr o)))
noncomputable def laws_markByteS.f (a0 : (List Int)) (a1 : Int) : Option (Int × (List Int)) :=
  (iter laws_markByteS.b0 (a0, a1, (0 : Int)))
def laws_markByteS.Q (w : World) (F : Nat → Prop) (os : List Nat) (w0_0 : Value) (r : Int × (List Int)) (v : Value) (w' : World) : Prop :=
  v = (.int .i64 r.1) ∧ FW (Kd.sl 5 (Kd.int .u8)) os w w' [w0_0] r.2 ∧ Ky os w w'
set_option maxHeartbeats 4000000 in
set_option maxRecDepth 100000 in
theorem laws_markByteS.calls (a0 : (List Int)) (a1 : Int) (w : World) (F : Nat → Prop) (w0_0 : Value) (os : List Nat) (h0_0 : (Kd.sl 5 (Kd.int .u8)).ow w [w0_0] a0 os) (hn : os.Nodup) (hF : ∀ b, F b → b ∉ os) (r : Int × (List Int)) (m : laws_markByteS.f a0 a1 = some r) :
    Calls Try.prog 11 #[w0_0, (.int .i64 a1)] w fun en w' => ∃ v, en = .returned v ∧ laws_markByteS.Q w F os w0_0 r v w' := by
  obtain ⟨s0, rfl, kp0, z⟩ := start1 w F os hF
  have A0_0 := z.ow h0_0 hn
  refine calls_of_TM (args := [w0_0, (.int .i64 a1)]) (R := fun r en w' => ∃ v, en = .returned v ∧ laws_markByteS.Q s0.w F os w0_0 r v w') Try.func11 Try.ntmps11 rfl rfl m ?_
  unfold laws_markByteS.f
  refine sr ?_
  refine pu rfl rfl rfl rfl rfl ?_
  refine dn ?_
  refine sq ?_
  refine sr ?_
  refine pu rfl rfl rfl rfl rfl ?_
  refine dn ?_
  refine bl ?_
  refine lpI (fun (x2 : (List Int) × Int × Int) (e : Env) (w : World) => ∃ (s : St) (e0 : Env), w = s.w ∧ e = upd (upd (upd e0 0 w0_0) 1 (.int .i64 x2.2.1)) 5 (.int .i64 x2.2.2) ∧ Kp s0 s ∧ OwF (Kd.sl 5 (Kd.int .u8)) s [w0_0] x2.1 2) ⟨s0, _, rfl, (ue (ue (ue rfl rfl) rfl) rfl), kp0, A0_0⟩ (fun g2 ih2 => ?_)
  rintro x2 _ _ ⟨s3, _, rfl, rfl, Kx2, Ax2_0⟩
  unfold laws_markByteS.b0
  refine sq ?_
  refine sr ?_
  refine pu rfl rfl rfl rfl rfl ?_
  refine mv w0_0 rfl rfl rfl rfl rfl rfl ?_
  refine ln Ax2_0.rd Try.underlying24 rfl rfl rfl rfl rfl rfl ?_
  refine pu rfl rfl rfl rfl rfl ?_
  refine dn ?_
  refine cd rfl (fun h5 => ?_) (fun h5 => ?_)
  ·
    refine sk ?_
    refine sq ?_
    refine bl ?_
    refine sr ?_
    refine mv w0_0 rfl rfl rfl rfl rfl rfl ?_
    refine pu rfl rfl rfl rfl rfl ?_
    refine pu rfl rfl rfl rfl rfl ?_
    refine cv Try.underlying5 Try.underlying3 rfl rfl rfl rfl rfl rfl ?_
    refine ix Ax2_0.rd Try.underlying24 z5 rfl rfl rfl rfl rfl rfl rfl rfl (fun ad6 es6 h0_6 h1_6 he6 ce6 ia6 => ?_)
    obtain rfl := he6
    refine so (x' := (IntKind.wrap .u8 x2.2.1)) Ax2_0 ia6 h0_6 h1_6 cs_flat z5 rfl rfl rfl rfl rfl rfl (fun s8 p8 A8 => ?_)
    refine dn ?_
    refine rg ?_
    refine pu rfl rfl rfl rfl rfl ?_
    refine pu rfl rfl rfl rfl rfl ?_
    refine pu rfl rfl rfl rfl rfl ?_
    refine dn ?_
    refine ib ?_
    refine rg ?_
    refine pu rfl rfl rfl rfl rfl ?_
    refine pu rfl rfl rfl rfl rfl ?_
    refine pu rfl rfl rfl rfl rfl ?_
    refine dn ?_
    have K10 := (Kx2.st p8 rfl)
    exact lb ih2 ⟨s8, _, rfl, (ue (ue (ue rfl rfl) rfl) rfl), K10, A8⟩
  ·
    refine xt rfl ?_
    refine sgb ?_
    refine sr ?_
    refine pu rfl rfl rfl rfl rfl ?_
    refine pu rfl rfl rfl rfl rfl ?_
    refine dn ?_
    exact re rfl Try.func11 rfl (r_t rfl r_nil) rfl ⟨_, rfl, rfl, z.fw Kx2 Ax2_0, z.ky Kx2⟩
noncomputable def laws_heldByteS.b0 (a0 : (List Int)) (x2 : Int × Int) : Option ((Int × Int) ⊕ Int) :=
  (if (decide (x2.2 < (a0.length : Int))) = true then (if 0 ≤ x2.2 ∧ x2.2 < (a0.length : Int) then (if ((at_ a0 x2.2) != (IntKind.wrap .u8 x2.1)) = true then (some (.inr (-1 : Int))) else (some (.inl ((IntKind.wrap .i64 (x2.1 + (1 : Int))), (IntKind.wrap .i64 (x2.2 + (1 : Int))))))) else none) else ((some x2.1).bind fun o => some (.inr o)))
noncomputable def laws_heldByteS.f (a0 : (List Int)) (a1 : Int) : Option (Int) :=
  (iter (laws_heldByteS.b0 a0) (a1, (0 : Int)))
def laws_heldByteS.Q (w : World) (F : Nat → Prop) (r : Int) (v : Value) (w' : World) : Prop :=
  v = (.int .i64 r) ∧ Ky [] w w'
set_option maxHeartbeats 4000000 in
set_option maxRecDepth 100000 in
theorem laws_heldByteS.calls (a0 : (List Int)) (a1 : Int) (w : World) (F : Nat → Prop) (w0_0 : Value) (h0_0 : (Kd.sl 5 (Kd.int .u8)).rd w [w0_0] a0 F) (r : Int) (m : laws_heldByteS.f a0 a1 = some r) :
    Calls Try.prog 12 #[w0_0, (.int .i64 a1)] w fun en w' => ∃ v, en = .returned v ∧ laws_heldByteS.Q w F r v w' := by
  obtain ⟨s0, rfl, kp0, z⟩ := start0 w F
  have A0_0 := z.rd h0_0
  refine calls_of_TM (args := [w0_0, (.int .i64 a1)]) (R := fun r en w' => ∃ v, en = .returned v ∧ laws_heldByteS.Q s0.w F r v w') Try.func12 Try.ntmps12 rfl rfl m ?_
  unfold laws_heldByteS.f
  refine sr ?_
  refine pu rfl rfl rfl rfl rfl ?_
  refine dn ?_
  refine sq ?_
  refine sr ?_
  refine pu rfl rfl rfl rfl rfl ?_
  refine dn ?_
  refine bl ?_
  refine lpI (fun (x2 : Int × Int) (e : Env) (w : World) => ∃ (s : St) (e0 : Env), w = s.w ∧ e = upd (upd (upd e0 0 w0_0) 1 (.int .i64 x2.1)) 5 (.int .i64 x2.2) ∧ Kp s0 s) ⟨s0, _, rfl, (ue (ue (ue rfl rfl) rfl) rfl), kp0⟩ (fun g2 ih2 => ?_)
  rintro x2 _ _ ⟨s3, _, rfl, rfl, Kx2⟩
  unfold laws_heldByteS.b0
  refine sq ?_
  refine sr ?_
  refine pu rfl rfl rfl rfl rfl ?_
  refine mv w0_0 rfl rfl rfl rfl rfl rfl ?_
  have A4 := (A0_0.kp Kx2)
  refine ln A4 Try.underlying24 rfl rfl rfl rfl rfl rfl ?_
  refine pu rfl rfl rfl rfl rfl ?_
  refine dn ?_
  refine cd rfl (fun h5 => ?_) (fun h5 => ?_)
  ·
    refine sk ?_
    refine sq ?_
    refine bl ?_
    refine sq ?_
    refine sr ?_
    refine mv w0_0 rfl rfl rfl rfl rfl rfl ?_
    refine pu rfl rfl rfl rfl rfl ?_
    refine ix A4 Try.underlying24 z5 rfl rfl rfl rfl rfl rfl rfl rfl (fun ad6 es6 h0_6 h1_6 he6 ce6 ia6 => ?_)
    obtain rfl := he6
    refine lc0 ce6 Try.underlying5 rfl rfl rfl rfl rfl rfl rfl rfl ?_
    refine pu rfl rfl rfl rfl rfl ?_
    refine cv Try.underlying5 Try.underlying3 rfl rfl rfl rfl rfl rfl ?_
    refine pu rfl rfl rfl rfl rfl ?_
    refine dn ?_
    refine cd rfl (fun h8 => ?_) (fun h8 => ?_)
    ·
      refine sr ?_
      refine pu rfl rfl rfl rfl rfl ?_
      refine dn ?_
      refine sgi ?_
      exact re rfl Try.func12 rfl (r_t rfl r_nil) rfl ⟨_, rfl, rfl, z.ky Kx2⟩
    ·
      refine sk ?_
      refine rg ?_
      refine pu rfl rfl rfl rfl rfl ?_
      refine pu rfl rfl rfl rfl rfl ?_
      refine pu rfl rfl rfl rfl rfl ?_
      refine dn ?_
      refine ib ?_
      refine rg ?_
      refine pu rfl rfl rfl rfl rfl ?_
      refine pu rfl rfl rfl rfl rfl ?_
      refine pu rfl rfl rfl rfl rfl ?_
      refine dn ?_
      exact lb ih2 ⟨s3, _, rfl, (ue (ue (ue rfl rfl) rfl) rfl), Kx2⟩
  ·
    refine xt rfl ?_
    refine sgb ?_
    refine sr ?_
    refine pu rfl rfl rfl rfl rfl ?_
    refine pu rfl rfl rfl rfl rfl ?_
    refine dn ?_
    exact re rfl Try.func12 rfl (r_t rfl r_nil) rfl ⟨_, rfl, rfl, z.ky Kx2⟩
noncomputable def laws_big.f (a0 : (List Int)) : Option (Bool) :=
  (some (decide ((a0.length : Int) > (1048576 : Int))))
def laws_big.Q (w : World) (F : Nat → Prop) (r : Bool) (v : Value) (w' : World) : Prop :=
  v = (.bool r) ∧ Ky [] w w'
set_option maxHeartbeats 4000000 in
set_option maxRecDepth 100000 in
theorem laws_big.calls (a0 : (List Int)) (w : World) (F : Nat → Prop) (w0_0 : Value) (h0_0 : (Kd.sl 5 (Kd.int .u8)).rd w [w0_0] a0 F) (r : Bool) (m : laws_big.f a0 = some r) :
    Calls Try.prog 13 #[w0_0] w fun en w' => ∃ v, en = .returned v ∧ laws_big.Q w F r v w' := by
  obtain ⟨s0, rfl, kp0, z⟩ := start0 w F
  have A0_0 := z.rd h0_0
  refine calls_of_TM (args := [w0_0]) (R := fun r en w' => ∃ v, en = .returned v ∧ laws_big.Q s0.w F r v w') Try.func13 Try.ntmps13 rfl rfl m ?_
  unfold laws_big.f
  refine sr ?_
  refine pu rfl rfl rfl rfl rfl ?_
  refine dn ?_
  refine sr ?_
  refine mv w0_0 rfl rfl rfl rfl rfl rfl ?_
  refine ln A0_0 Try.underlying24 rfl rfl rfl rfl rfl rfl ?_
  refine pu rfl rfl rfl rfl rfl ?_
  refine pu rfl rfl rfl rfl rfl ?_
  refine dn ?_
  exact re rfl Try.func13 rfl (r_t rfl r_nil) rfl ⟨_, rfl, rfl, z.ky kp0⟩
noncomputable def spec_l1New.b0 (a0 : (List Int)) (x2 : Int × Int) : Option ((Int × Int) ⊕ l1Cur) :=
  (if ((decide (x2.2 < (a0.length : Int))) && (decide (x2.2 < (4000 : Int)))) = true then (if 0 ≤ x2.2 ∧ x2.2 < (a0.length : Int) then (some (.inl ((iand .i64 (IntKind.wrap .i64 ((IntKind.wrap .i64 ((IntKind.wrap .i64 (x2.1 * (131 : Int))) + (IntKind.wrap .i64 (at_ a0 x2.2)))) + (7 : Int))) (1073741823 : Int)), (IntKind.wrap .i64 (x2.2 + (1 : Int)))))) else none) else ((some (l1Cur.mk a0 (0 : Int) x2.1)).bind fun o => some (.inr o)))
noncomputable def spec_l1New.f (a0 : (List Int)) : Option (l1Cur) :=
  (iter (spec_l1New.b0 a0) ((IntKind.wrap .i64 ((25252 : Int) + (a0.length : Int))), (0 : Int)))
def spec_l1New.Q (w : World) (F : Nat → Prop) (r : l1Cur) (v : Value) (w' : World) : Prop :=
  ∃ (v0 : Nat) (v1 : Value), v = (.pointer (some ⟨v0, 0, none⟩)) ∧ BlN w w' v0 79 [v1, (.int .i64 r.i), (.int .i64 r.h)] ∧ FRF (Kd.sl 5 (Kd.int .u8)) F w w' [v1] r.b ∧ Ky [] w w'
set_option maxHeartbeats 4000000 in
set_option maxRecDepth 100000 in
theorem spec_l1New.calls (a0 : (List Int)) (w : World) (F : Nat → Prop) (w0_0 : Value) (h0_0 : (Kd.sl 5 (Kd.int .u8)).rd w [w0_0] a0 F) (r : l1Cur) (m : spec_l1New.f a0 = some r) :
    Calls Try.prog 40 #[w0_0] w fun en w' => ∃ v, en = .returned v ∧ spec_l1New.Q w F r v w' := by
  obtain ⟨s0, rfl, kp0, z⟩ := start0 w F
  have A0_0 := z.rd h0_0
  refine calls_of_TM (args := [w0_0]) (R := fun r en w' => ∃ v, en = .returned v ∧ spec_l1New.Q s0.w F r v w') Try.func40 Try.ntmps40 rfl rfl m ?_
  unfold spec_l1New.f
  refine sr ?_
  refine pu rfl rfl rfl rfl rfl ?_
  refine dn ?_
  refine sr ?_
  refine mv w0_0 rfl rfl rfl rfl rfl rfl ?_
  refine ln A0_0 Try.underlying24 rfl rfl rfl rfl rfl rfl ?_
  refine pu rfl rfl rfl rfl rfl ?_
  refine pu rfl rfl rfl rfl rfl ?_
  refine dn ?_
  refine sq ?_
  refine sr ?_
  refine pu rfl rfl rfl rfl rfl ?_
  refine dn ?_
  refine bl ?_
  refine lpI (fun (x2 : Int × Int) (e : Env) (w : World) => ∃ (s : St) (e0 : Env), w = s.w ∧ e = upd (upd (upd e0 0 w0_0) 3 (.int .i64 x2.1)) 4 (.int .i64 x2.2) ∧ Kp s0 s) ⟨s0, _, rfl, (ue (ue (ue rfl rfl) rfl) rfl), kp0⟩ (fun g2 ih2 => ?_)
  rintro x2 _ _ ⟨s3, _, rfl, rfl, Kx2⟩
  unfold spec_l1New.b0
  refine sq ?_
  refine sr ?_
  refine pu rfl rfl rfl rfl rfl ?_
  refine mv w0_0 rfl rfl rfl rfl rfl rfl ?_
  have A4 := (A0_0.kp Kx2)
  refine ln A4 Try.underlying24 rfl rfl rfl rfl rfl rfl ?_
  refine pu rfl rfl rfl rfl rfl ?_
  refine pu rfl rfl rfl rfl rfl ?_
  refine jy [12, 13, 14, 15] [] 15 (.bool ((decide (x2.2 < (a0.length : Int))) && (decide (x2.2 < (4000 : Int))))) rfl (fun Kg5 => ?_) (fun j5 => ?_)
  ·
    rcases Bool.eq_false_or_eq_true (decide (x2.2 < (a0.length : Int))) with hb5 | hb5
    ·
      refine sbT hb5 ?_
      refine pu rfl rfl rfl rfl rfl ?_
      refine pu rfl rfl rfl rfl rfl ?_
      refine pu rfl rfl rfl rfl rfl ?_
      exact Kg5 _ (Ag.put ((Ag.put ((Ag.put (Ag.base rfl) rfl)) rfl)) rfl) (by rw [hb5]; rfl)
    ·
      refine sbT hb5 ?_
      refine uw rfl rfl rfl rfl ?_
      refine uw rfl rfl rfl rfl ?_
      refine pu rfl rfl rfl rfl rfl ?_
      exact Kg5 _ (Ag.put ((Ag.put ((Ag.put (Ag.base rfl) rfl)) rfl)) rfl) (by rw [hb5]; rfl)
  refine dn ?_
  refine cd rfl (fun h6 => ?_) (fun h6 => ?_)
  ·
    refine sk ?_
    refine sq ?_
    refine bl ?_
    refine rg ?_
    refine pu rfl rfl rfl rfl rfl ?_
    refine pu rfl rfl rfl rfl rfl ?_
    refine mv w0_0 rfl rfl rfl rfl rfl rfl ?_
    refine pu rfl rfl rfl rfl rfl ?_
    refine ix A4 Try.underlying24 z5 rfl rfl rfl rfl rfl rfl rfl rfl (fun ad7 es7 h0_7 h1_7 he7 ce7 ia7 => ?_)
    obtain rfl := he7
    refine lc0 ce7 Try.underlying5 rfl rfl rfl rfl rfl rfl rfl rfl ?_
    refine cv Try.underlying3 Try.underlying5 rfl rfl rfl rfl rfl rfl ?_
    refine pu rfl rfl rfl rfl rfl ?_
    refine pu rfl rfl rfl rfl rfl ?_
    refine pu rfl rfl rfl rfl rfl ?_
    refine pu rfl rfl rfl rfl rfl ?_
    refine dn ?_
    refine ib ?_
    refine rg ?_
    refine pu rfl rfl rfl rfl rfl ?_
    refine pu rfl rfl rfl rfl rfl ?_
    refine pu rfl rfl rfl rfl rfl ?_
    refine dn ?_
    exact lb ih2 ⟨s3, _, rfl, (ue (ue (ue rfl rfl) rfl) rfl), Kx2⟩
  ·
    refine xt rfl ?_
    refine sgb ?_
    refine sr ?_
    refine mv w0_0 rfl rfl rfl rfl rfl rfl ?_
    refine pu rfl rfl rfl rfl rfl ?_
    refine bd (cells := [w0_0, (.int .i64 (0 : Int)), (.int .i64 x2.1)]) pl79 o79 rfl rfl rfl rfl rfl (lfill_pc (pc_c (oc A4.one) (pc_c rfl pc_n)) rfl) ?_
    refine bx (cs := [w0_0, (.int .i64 (0 : Int)), (.int .i64 x2.1)]) 10 rfl rfl rfl rfl rfl rfl (fun b9 s9 p9 B9 => ?_)
    refine pu rfl rfl rfl rfl rfl ?_
    refine dn ?_
    have K11 := (Kx2.st p9 rfl)
    exact re rfl Try.func40 rfl (r_t rfl r_nil) rfl ⟨_, rfl, b9, w0_0, rfl, BlF.fo B9 K11 rfl, z.rf K11 A0_0, z.ky K11⟩
noncomputable def spec_l1Byte.f (a0 : l1Cur) : Option (Int × l1Cur) :=
  ((if (decide (a0.i < (a0.b.length : Int))) = true then (if 0 ≤ a0.i ∧ a0.i < (a0.b.length : Int) then (some ((iand .i64 (IntKind.wrap .i64 ((iand .i64 (ixor .i64 (ishr .i64 (IntKind.wrap .i64 ((IntKind.wrap .i64 (a0.h * (6364136223846793005 : Int))) + (1442695040888963407 : Int))) (33 : Int)) (ishr .i64 (IntKind.wrap .i64 ((IntKind.wrap .i64 (a0.h * (6364136223846793005 : Int))) + (1442695040888963407 : Int))) (45 : Int))) (255 : Int)) + (IntKind.wrap .i64 (at_ a0.b a0.i)))) (255 : Int)), (IntKind.wrap .i64 (a0.i + (1 : Int))))) else none) else (some ((iand .i64 (ixor .i64 (ishr .i64 (IntKind.wrap .i64 ((IntKind.wrap .i64 (a0.h * (6364136223846793005 : Int))) + (1442695040888963407 : Int))) (33 : Int)) (ishr .i64 (IntKind.wrap .i64 ((IntKind.wrap .i64 (a0.h * (6364136223846793005 : Int))) + (1442695040888963407 : Int))) (45 : Int))) (255 : Int)), a0.i))).bind fun y38 => (some (y38.1, (l1Cur.mk a0.b y38.2 (IntKind.wrap .i64 ((IntKind.wrap .i64 (a0.h * (6364136223846793005 : Int))) + (1442695040888963407 : Int)))))))
def spec_l1Byte.Q (w : World) (F : Nat → Prop) (p0 : Nat) (w0_0 : Value) (r : Int × l1Cur) (v : Value) (w' : World) : Prop :=
  v = (.int .i64 r.1) ∧ BlW w' p0 79 [w0_0, (.int .i64 r.2.i), (.int .i64 r.2.h)] ∧ Ky [p0] w w'
set_option maxHeartbeats 4000000 in
set_option maxRecDepth 100000 in
theorem spec_l1Byte.calls (a0 : l1Cur) (w : World) (F : Nat → Prop) (p0 : Nat) (w0_0 : Value) (h0_0 : (Kd.sl 5 (Kd.int .u8)).rd w [w0_0] a0.b F) (hb0 : BlW w p0 79 [w0_0, (.int .i64 a0.i), (.int .i64 a0.h)]) (hF : ∀ b, F b → b ∉ [p0]) (r : Int × l1Cur) (m : spec_l1Byte.f a0 = some r) :
    Calls Try.prog 61 #[(.pointer (some ⟨p0, 0, none⟩))] w fun en w' => ∃ v, en = .returned v ∧ spec_l1Byte.Q w F p0 w0_0 r v w' := by
  obtain ⟨s0, rfl, kp0, z⟩ := start1 w F [p0] hF
  have A0_0 := z.rd h0_0
  have B0 := z.bl hb0 (by simp)
  refine calls_of_TM (args := [(.pointer (some ⟨p0, 0, none⟩))]) (R := fun r en w' => ∃ v, en = .returned v ∧ spec_l1Byte.Q s0.w F p0 w0_0 r v w') Try.func61 Try.ntmps61 rfl rfl m ?_
  unfold spec_l1Byte.f
  refine sr ?_
  refine pu rfl rfl rfl rfl rfl ?_
  refine dn ?_
  refine sr ?_
  refine pu rfl rfl rfl rfl rfl ?_
  refine pu rfl rfl rfl rfl rfl ?_
  refine pu rfl rfl rfl rfl rfl ?_
  refine fa fa79_2 rfl rfl rfl rfl rfl rfl ?_
  refine ld B0 Try.underlying3 rfl rfl rfl rfl rfl rfl rfl rfl ?_
  refine pu rfl rfl rfl rfl rfl ?_
  refine pu rfl rfl rfl rfl rfl ?_
  refine pu rfl rfl rfl rfl rfl ?_
  refine fa fa79_2 rfl rfl rfl rfl rfl rfl ?_
  refine sv B0 z3 rfl rfl rfl rfl rfl rfl rfl rfl (fun s3 p3 B3 => ?_)
  refine dn ?_
  refine sq ?_
  refine zdraw [[], [0], [1], [2], [3], [], [5], [6], [7], [8], [4, 9], [10], [11, 0, 1, 2, 3, 4, 5, 6, 7, 8, 9, 10, 11]] [some 13, some 14, some 15, some 16, some 17, some 18, some 19, some 20, some 21, some 22, some 23, some 24, some 3] [[0], [13], [14], [15], [16], [0], [18], [19], [20], [21], [17, 22], [23], [24]] [0, 1, 2, 3, 4, 5, 6, 7, 8, 9, 10, 11, 12] ⟨by kernel_rfl, by kernel_rfl, by kernel_rfl⟩ (by kernel_rfl) (fun s5 p5 l5 tb5 zd5 => ?_)
  have zd6 := zd5.add 0 13 (.pointer (some ⟨p0, 0, none⟩)) rfl
  have zd7 := zd6.add 1 14 (.pointer (some ⟨p0, 0, none⟩)) rfl
  have zd8 := zd7.add 2 15 (.pointer (some ⟨p0, 2, none⟩)) rfl
  have A9 := (BlF.st B3 p5 rfl)
  have zd10 := zd8.add 3 16 (.int .i64 (IntKind.wrap .i64 ((IntKind.wrap .i64 (a0.h * (6364136223846793005 : Int))) + (1442695040888963407 : Int)))) rfl
  have zd11 := zd10.add 4 17 (.int .i64 (ishr .i64 (IntKind.wrap .i64 ((IntKind.wrap .i64 (a0.h * (6364136223846793005 : Int))) + (1442695040888963407 : Int))) (33 : Int))) rfl
  have zd12 := zd11.add 5 18 (.pointer (some ⟨p0, 0, none⟩)) rfl
  have zd13 := zd12.add 6 19 (.pointer (some ⟨p0, 0, none⟩)) rfl
  have zd14 := zd13.add 7 20 (.pointer (some ⟨p0, 2, none⟩)) rfl
  have A15 := (BlF.st B3 p5 rfl)
  have zd16 := zd14.add 8 21 (.int .i64 (IntKind.wrap .i64 ((IntKind.wrap .i64 (a0.h * (6364136223846793005 : Int))) + (1442695040888963407 : Int)))) rfl
  have zd17 := zd16.add 9 22 (.int .i64 (ishr .i64 (IntKind.wrap .i64 ((IntKind.wrap .i64 (a0.h * (6364136223846793005 : Int))) + (1442695040888963407 : Int))) (45 : Int))) rfl
  have A18 := (BlF.st B3 p5 rfl)
  have A19 := (BlF.st B3 p5 rfl)
  refine zfin [10, 11, 12] tb5 zd17 (pq_cons (shrK_q rfl rfl rfl rfl rfl rfl rfl rfl) rfl (pq_cons (ld_q A19 Try.underlying3 rfl rfl rfl rfl rfl rfl rfl rfl) rfl (pq_cons (fa_q fa79_2 rfl rfl rfl rfl rfl rfl) rfl (pq_cons (pu_q rfl rfl rfl rfl rfl rfl) rfl (pq_cons (pu_q rfl rfl rfl rfl rfl rfl) rfl (pq_cons (shrK_q rfl rfl rfl rfl rfl rfl rfl rfl) rfl (pq_cons (ld_q A18 Try.underlying3 rfl rfl rfl rfl rfl rfl rfl rfl) rfl (pq_cons (fa_q fa79_2 rfl rfl rfl rfl rfl rfl) rfl (pq_cons (pu_q rfl rfl rfl rfl rfl rfl) rfl (pq_cons (pu_q rfl rfl rfl rfl rfl rfl) rfl pq_nil)))))))))) (by kernel_rfl) (by decide) ?_
  refine pu rfl rfl rfl rfl rfl ?_
  refine pu rfl rfl rfl rfl rfl ?_
  refine pu rfl rfl rfl rfl rfl ?_
  refine dn ?_
  refine sq ?_
  refine sq ?_
  refine zdraw [[], [0], [1], [2], [], [4], [5], [6], [7], [3, 8]] [some 25, some 26, some 27, some 28, some 29, some 30, some 31, some 32, some 33, some 34] [[0], [25], [26], [27], [0], [29], [30], [31], [32], [28, 33]] [0, 1, 2, 3, 4, 5, 6, 7, 8, 9] ⟨by kernel_rfl, by kernel_rfl, by kernel_rfl⟩ (by kernel_rfl) (fun s20 p20 l20 tb20 zd20 => ?_)
  have zd21 := zd20.add 0 25 (.pointer (some ⟨p0, 0, none⟩)) rfl
  have zd22 := zd21.add 1 26 (.pointer (some ⟨p0, 0, none⟩)) rfl
  have zd23 := zd22.add 2 27 (.pointer (some ⟨p0, 1, none⟩)) rfl
  have A24 := (BlF.st (BlF.st B3 p5 rfl) p20 rfl)
  have zd25 := zd23.add 3 28 (.int .i64 a0.i) rfl
  have zd26 := zd25.add 4 29 (.pointer (some ⟨p0, 0, none⟩)) rfl
  have zd27 := zd26.add 5 30 (.pointer (some ⟨p0, 0, none⟩)) rfl
  have zd28 := zd27.add 6 31 (.pointer (some ⟨p0, 0, none⟩)) rfl
  have A29 := (BlF.st (BlF.st B3 p5 rfl) p20 rfl)
  have zd30 := zd28.add 7 32 w0_0 rfl
  have K31 := (((kp0.st p3 rfl).st p5 rfl).st p20 rfl)
  have A32 := (A0_0.kp K31)
  have zd33 := zd30.add 8 33 (.int .i64 (a0.b.length : Int)) rfl
  have A34 := (BlF.st (BlF.st B3 p5 rfl) p20 rfl)
  have A35 := (BlF.st (BlF.st B3 p5 rfl) p20 rfl)
  have K36 := (((kp0.st p3 rfl).st p5 rfl).st p20 rfl)
  have A37 := (A0_0.kp K36)
  refine zfin [9] tb20 zd33 (pq_cons (ln_q A37 Try.underlying24 rfl rfl rfl rfl rfl rfl) rfl (pq_cons (ld_q A35 Try.underlying24 rfl rfl rfl rfl rfl rfl rfl rfl) rfl (pq_cons (fa_q fa79_0 rfl rfl rfl rfl rfl rfl) rfl (pq_cons (pu_q rfl rfl rfl rfl rfl rfl) rfl (pq_cons (pu_q rfl rfl rfl rfl rfl rfl) rfl (pq_cons (ld_q A34 Try.underlying3 rfl rfl rfl rfl rfl rfl rfl rfl) rfl (pq_cons (fa_q fa79_1 rfl rfl rfl rfl rfl rfl) rfl (pq_cons (pu_q rfl rfl rfl rfl rfl rfl) rfl (pq_cons (pu_q rfl rfl rfl rfl rfl rfl) rfl pq_nil))))))))) (by kernel_rfl) (by decide) ?_
  refine pu rfl rfl rfl rfl rfl ?_
  refine dn ?_
  refine jc (fun (y38 : Int × Int) (e : Env) (w : World) => ∃ (s : St) (e0 : Env), w = s.w ∧ e = upd e0 3 (.int .i64 y38.1) ∧ Kp s0 s ∧ BlF s p0 79 [w0_0, (.int .i64 y38.2), (.int .i64 (IntKind.wrap .i64 ((IntKind.wrap .i64 (a0.h * (6364136223846793005 : Int))) + (1442695040888963407 : Int))))] 2) (fun Gj38 Kj38 => ?_) ?_
  ·
    refine cd rfl (fun h39 => ?_) (fun h39 => ?_)
    ·
      refine sq ?_
      refine zdraw [[], [], [1], [2], [3], [], [5], [6], [7], [4, 8], [9], [10], [0, 11], [12], [13, 0, 1, 2, 3, 4, 5, 6, 7, 8, 9, 10, 11, 12, 13]] [some 35, some 36, some 37, some 38, some 39, some 40, some 41, some 42, some 43, some 44, some 45, some 46, some 47, some 48, some 3] [[3], [0], [36], [37], [38], [0], [40], [41], [42], [39, 43], [44], [45], [35, 46], [47], [48]] [0, 1, 2, 3, 4, 5, 6, 7, 8, 9, 10, 11, 12, 13, 14] ⟨by kernel_rfl, by kernel_rfl, by kernel_rfl⟩ (by kernel_rfl) (fun s40 p40 l40 tb40 zd40 => ?_)
      have zd41 := zd40.add 0 35 (.int .i64 (iand .i64 (ixor .i64 (ishr .i64 (IntKind.wrap .i64 ((IntKind.wrap .i64 (a0.h * (6364136223846793005 : Int))) + (1442695040888963407 : Int))) (33 : Int)) (ishr .i64 (IntKind.wrap .i64 ((IntKind.wrap .i64 (a0.h * (6364136223846793005 : Int))) + (1442695040888963407 : Int))) (45 : Int))) (255 : Int))) rfl
      have zd42 := zd41.add 1 36 (.pointer (some ⟨p0, 0, none⟩)) rfl
      have zd43 := zd42.add 2 37 (.pointer (some ⟨p0, 0, none⟩)) rfl
      have zd44 := zd43.add 3 38 (.pointer (some ⟨p0, 0, none⟩)) rfl
      have A45 := (BlF.st (BlF.st (BlF.st B3 p5 rfl) p20 rfl) p40 rfl)
      have zd46 := zd44.add 4 39 w0_0 rfl
      have zd47 := zd46.add 5 40 (.pointer (some ⟨p0, 0, none⟩)) rfl
      have zd48 := zd47.add 6 41 (.pointer (some ⟨p0, 0, none⟩)) rfl
      have zd49 := zd48.add 7 42 (.pointer (some ⟨p0, 1, none⟩)) rfl
      have A50 := (BlF.st (BlF.st (BlF.st B3 p5 rfl) p20 rfl) p40 rfl)
      have zd51 := zd49.add 8 43 (.int .i64 a0.i) rfl
      have K52 := ((((kp0.st p3 rfl).st p5 rfl).st p20 rfl).st p40 rfl)
      have A53 := (A0_0.kp K52)
      refine mg fun hg54 => ?_
      obtain ⟨ad54, es54, he54, ce54, ia54⟩ := ix_e A53 rfl hg54.1 hg54.2
      have h0_54 := hg54.1
      have h1_54 := hg54.2
      obtain rfl := he54
      have zd56 := zd51.add 9 44 (.pointer (some ad54)) rfl
      have zd57 := zd56.add 10 45 (.int .u8 (at_ a0.b a0.i)) rfl
      have zd58 := zd57.add 11 46 (.int .i64 (IntKind.wrap .i64 (at_ a0.b a0.i))) rfl
      have A59 := (BlF.st (BlF.st (BlF.st B3 p5 rfl) p20 rfl) p40 rfl)
      have A60 := (BlF.st (BlF.st (BlF.st B3 p5 rfl) p20 rfl) p40 rfl)
      refine zfin [12, 13, 14] tb40 zd58 (pq_cons (cv_q Try.underlying3 Try.underlying5 rfl rfl rfl rfl rfl rfl) rfl (pq_cons (lc0_q ce54 Try.underlying5 rfl rfl rfl rfl rfl rfl rfl rfl) rfl (pq_cons (ix_q A53 Try.underlying24 z5 hg54.1 hg54.2 ia54 rfl rfl rfl rfl rfl rfl rfl) rfl (pq_cons (ld_q A60 Try.underlying3 rfl rfl rfl rfl rfl rfl rfl rfl) rfl (pq_cons (fa_q fa79_1 rfl rfl rfl rfl rfl rfl) rfl (pq_cons (pu_q rfl rfl rfl rfl rfl rfl) rfl (pq_cons (pu_q rfl rfl rfl rfl rfl rfl) rfl (pq_cons (ld_q A59 Try.underlying24 rfl rfl rfl rfl rfl rfl rfl rfl) rfl (pq_cons (fa_q fa79_0 rfl rfl rfl rfl rfl rfl) rfl (pq_cons (pu_q rfl rfl rfl rfl rfl rfl) rfl (pq_cons (pu_q rfl rfl rfl rfl rfl rfl) rfl (pq_cons (pu_q rfl rfl rfl rfl rfl rfl) rfl pq_nil)))))))))))) (by kernel_rfl) (by decide) ?_
      refine pu rfl rfl rfl rfl rfl ?_
      refine pu rfl rfl rfl rfl rfl ?_
      refine pu rfl rfl rfl rfl rfl ?_
      refine dn ?_
      refine rg ?_
      refine pu rfl rfl rfl rfl rfl ?_
      refine pu rfl rfl rfl rfl rfl ?_
      refine pu rfl rfl rfl rfl rfl ?_
      refine fa fa79_1 rfl rfl rfl rfl rfl rfl ?_
      have A61 := (BlF.st (BlF.st (BlF.st B3 p5 rfl) p20 rfl) p40 rfl)
      refine ld A61 Try.underlying3 rfl rfl rfl rfl rfl rfl rfl rfl ?_
      refine pu rfl rfl rfl rfl rfl ?_
      refine pu rfl rfl rfl rfl rfl ?_
      refine fa fa79_1 rfl rfl rfl rfl rfl rfl ?_
      refine sv A61 z3 rfl rfl rfl rfl rfl rfl rfl rfl (fun s62 p62 B62 => ?_)
      refine dn ?_
      have K64 := (K52.st p62 rfl)
      exact Kj38 _ _ _ ⟨s62, _, rfl, (ue rfl rfl), K64, B62⟩
    ·
      refine sk ?_
      have A65 := (BlF.st (BlF.st B3 p5 rfl) p20 rfl)
      have K66 := (((kp0.st p3 rfl).st p5 rfl).st p20 rfl)
      exact Kj38 _ _ _ ⟨s20, _, rfl, (ue rfl rfl), K66, A65⟩
  rintro y38 _ _ ⟨s67, _, rfl, rfl, Ky38, By38_p0⟩
  refine sr ?_
  refine pu rfl rfl rfl rfl rfl ?_
  refine pu rfl rfl rfl rfl rfl ?_
  refine dn ?_
  exact re rfl Try.func61 rfl (r_t rfl r_nil) rfl ⟨_, rfl, rfl, (BlF.w By38_p0), z.ky Ky38⟩
noncomputable def spec_l1Below.f (a0 : l1Cur) (a1 : Int) : Option (Int × l1Cur) :=
  (if (decide (a1 ≤ (0 : Int))) = true then (some ((0 : Int), a0)) else (if (decide (a1 ≤ (256 : Int))) = true then ((spec_l1Byte.f a0).bind fun r5 => (if a1 ≠ 0 then (some ((r5.1.tmod a1), (l1Cur.mk a0.b r5.2.i r5.2.h))) else none)) else ((spec_l1Byte.f a0).bind fun r9 => ((spec_l1Byte.f (l1Cur.mk a0.b r9.2.i r9.2.h)).bind fun r14 => ((spec_l1Byte.f (l1Cur.mk a0.b r14.2.i r14.2.h)).bind fun r19 => ((spec_l1Byte.f (l1Cur.mk a0.b r19.2.i r19.2.h)).bind fun r24 => (if a1 ≠ 0 then (some (((IntKind.wrap .i64 ((IntKind.wrap .i64 ((IntKind.wrap .i64 ((IntKind.wrap .i64 (r9.1 * (16777216 : Int))) + (IntKind.wrap .i64 (r14.1 * (65536 : Int))))) + (IntKind.wrap .i64 (r19.1 * (256 : Int))))) + r24.1)).tmod a1), (l1Cur.mk a0.b r24.2.i r24.2.h))) else none)))))))
def spec_l1Below.Q (w : World) (F : Nat → Prop) (p0 : Nat) (w0_0 : Value) (r : Int × l1Cur) (v : Value) (w' : World) : Prop :=
  v = (.int .i64 r.1) ∧ BlW w' p0 79 [w0_0, (.int .i64 r.2.i), (.int .i64 r.2.h)] ∧ Ky [p0] w w'
set_option maxHeartbeats 4000000 in
set_option maxRecDepth 100000 in
theorem spec_l1Below.calls (a0 : l1Cur) (a1 : Int) (w : World) (F : Nat → Prop) (p0 : Nat) (w0_0 : Value) (h0_0 : (Kd.sl 5 (Kd.int .u8)).rd w [w0_0] a0.b F) (hb0 : BlW w p0 79 [w0_0, (.int .i64 a0.i), (.int .i64 a0.h)]) (hF : ∀ b, F b → b ∉ [p0]) (r : Int × l1Cur) (m : spec_l1Below.f a0 a1 = some r) :
    Calls Try.prog 41 #[(.pointer (some ⟨p0, 0, none⟩)), (.int .i64 a1)] w fun en w' => ∃ v, en = .returned v ∧ spec_l1Below.Q w F p0 w0_0 r v w' := by
  obtain ⟨s0, rfl, kp0, z⟩ := start1 w F [p0] hF
  have A0_0 := z.rd h0_0
  have B0 := z.bl hb0 (by simp)
  refine calls_of_TM (args := [(.pointer (some ⟨p0, 0, none⟩)), (.int .i64 a1)]) (R := fun r en w' => ∃ v, en = .returned v ∧ spec_l1Below.Q s0.w F p0 w0_0 r v w') Try.func41 Try.ntmps41 rfl rfl m ?_
  unfold spec_l1Below.f
  refine sr ?_
  refine pu rfl rfl rfl rfl rfl ?_
  refine dn ?_
  refine sq ?_
  refine sr ?_
  refine pu rfl rfl rfl rfl rfl ?_
  refine pu rfl rfl rfl rfl rfl ?_
  refine dn ?_
  refine cd rfl (fun h3 => ?_) (fun h3 => ?_)
  ·
    refine sr ?_
    refine pu rfl rfl rfl rfl rfl ?_
    refine dn ?_
    exact re rfl Try.func41 rfl (r_t rfl r_nil) rfl ⟨_, rfl, rfl, (BlF.w B0), z.ky kp0⟩
  ·
    refine sk ?_
    refine sq ?_
    refine sr ?_
    refine pu rfl rfl rfl rfl rfl ?_
    refine pu rfl rfl rfl rfl rfl ?_
    refine dn ?_
    refine cd rfl (fun h4 => ?_) (fun h4 => ?_)
    ·
      refine sr ?_
      refine pu rfl rfl rfl rfl rfl ?_
      refine cl rfl rfl rfl rfl rfl Try.func61 rfl rfl rfl (fun r5 m5 => spec_l1Byte.calls a0 s0.w (fun b => memb [0] (s0.g b) = true) p0 w0_0 A0_0 (BlF.w B0) (BlF.apart B0 rfl) r5 m5) ?_
      rintro r5 _ w5 m5 ⟨rfl, bw5, ky5⟩
      obtain ⟨s6, rfl, p6, n6, g6⟩ := nwb 10 B0 ky5
      have B6 := blf_mk bw5 g6
      refine pu rfl rfl rfl rfl rfl ?_
      refine rem_ rfl rfl rfl rfl rfl rfl rfl ?_
      refine pu rfl rfl rfl rfl rfl ?_
      refine dn ?_
      have K8 := (kp0.st p6 rfl)
      exact re rfl Try.func41 rfl (r_t rfl r_nil) rfl ⟨_, rfl, rfl, (BlF.w B6), z.ky K8⟩
    ·
      refine sk ?_
      refine sr ?_
      refine pu rfl rfl rfl rfl rfl ?_
      refine cl rfl rfl rfl rfl rfl Try.func61 rfl rfl rfl (fun r9 m9 => spec_l1Byte.calls a0 s0.w (fun b => memb [0] (s0.g b) = true) p0 w0_0 A0_0 (BlF.w B0) (BlF.apart B0 rfl) r9 m9) ?_
      rintro r9 _ w9 m9 ⟨rfl, bw9, ky9⟩
      obtain ⟨s10, rfl, p10, n10, g10⟩ := nwb 11 B0 ky9
      have B10 := blf_mk bw9 g10
      refine pu rfl rfl rfl rfl rfl ?_
      refine dn ?_
      refine sr ?_
      refine pu rfl rfl rfl rfl rfl ?_
      have K12 := (kp0.st p10 rfl)
      have A13 := (A0_0.kp K12)
      refine cl rfl rfl rfl rfl rfl Try.func61 rfl rfl rfl (fun r14 m14 => spec_l1Byte.calls (l1Cur.mk a0.b r9.2.i r9.2.h) s10.w (fun b => memb [0] (s10.g b) = true) p0 w0_0 A13 (BlF.w B10) (BlF.apart B10 rfl) r14 m14) ?_
      rintro r14 _ w14 m14 ⟨rfl, bw14, ky14⟩
      obtain ⟨s15, rfl, p15, n15, g15⟩ := nwb 12 B10 ky14
      have B15 := blf_mk bw14 g15
      refine pu rfl rfl rfl rfl rfl ?_
      refine dn ?_
      refine sr ?_
      refine pu rfl rfl rfl rfl rfl ?_
      have K17 := (K12.st p15 rfl)
      have A18 := (A0_0.kp K17)
      refine cl rfl rfl rfl rfl rfl Try.func61 rfl rfl rfl (fun r19 m19 => spec_l1Byte.calls (l1Cur.mk a0.b r14.2.i r14.2.h) s15.w (fun b => memb [0] (s15.g b) = true) p0 w0_0 A18 (BlF.w B15) (BlF.apart B15 rfl) r19 m19) ?_
      rintro r19 _ w19 m19 ⟨rfl, bw19, ky19⟩
      obtain ⟨s20, rfl, p20, n20, g20⟩ := nwb 13 B15 ky19
      have B20 := blf_mk bw19 g20
      refine pu rfl rfl rfl rfl rfl ?_
      refine dn ?_
      refine sr ?_
      refine pu rfl rfl rfl rfl rfl ?_
      have K22 := (K17.st p20 rfl)
      have A23 := (A0_0.kp K22)
      refine cl rfl rfl rfl rfl rfl Try.func61 rfl rfl rfl (fun r24 m24 => spec_l1Byte.calls (l1Cur.mk a0.b r19.2.i r19.2.h) s20.w (fun b => memb [0] (s20.g b) = true) p0 w0_0 A23 (BlF.w B20) (BlF.apart B20 rfl) r24 m24) ?_
      rintro r24 _ w24 m24 ⟨rfl, bw24, ky24⟩
      obtain ⟨s25, rfl, p25, n25, g25⟩ := nwb 14 B20 ky24
      have B25 := blf_mk bw24 g25
      refine pu rfl rfl rfl rfl rfl ?_
      refine dn ?_
      refine sr ?_
      refine pu rfl rfl rfl rfl rfl ?_
      refine pu rfl rfl rfl rfl rfl ?_
      refine pu rfl rfl rfl rfl rfl ?_
      refine pu rfl rfl rfl rfl rfl ?_
      refine pu rfl rfl rfl rfl rfl ?_
      refine pu rfl rfl rfl rfl rfl ?_
      refine pu rfl rfl rfl rfl rfl ?_
      refine pu rfl rfl rfl rfl rfl ?_
      refine pu rfl rfl rfl rfl rfl ?_
      refine pu rfl rfl rfl rfl rfl ?_
      refine pu rfl rfl rfl rfl rfl ?_
      refine rem_ rfl rfl rfl rfl rfl rfl rfl ?_
      refine pu rfl rfl rfl rfl rfl ?_
      refine dn ?_
      have K27 := (K22.st p25 rfl)
      exact re rfl Try.func41 rfl (r_t rfl r_nil) rfl ⟨_, rfl, rfl, (BlF.w B25), z.ky K27⟩
noncomputable def spec_l1PickInt.f (a0 : l1Cur) (a1 : (List Int)) : Option (Int × l1Cur) :=
  ((spec_l1Below.f a0 (a1.length : Int)).bind fun r4 => (if 0 ≤ r4.1 ∧ r4.1 < (a1.length : Int) then (some ((at_ a1 r4.1), (l1Cur.mk a0.b r4.2.i r4.2.h))) else none))
def spec_l1PickInt.Q (w : World) (F : Nat → Prop) (p0 : Nat) (w0_0 : Value) (r : Int × l1Cur) (v : Value) (w' : World) : Prop :=
  v = (.int .i64 r.1) ∧ BlW w' p0 79 [w0_0, (.int .i64 r.2.i), (.int .i64 r.2.h)] ∧ Ky [p0] w w'
set_option maxHeartbeats 4000000 in
set_option maxRecDepth 100000 in
theorem spec_l1PickInt.calls (a0 : l1Cur) (a1 : (List Int)) (w : World) (F : Nat → Prop) (p0 : Nat) (w0_0 : Value) (w1_0 : Value) (h0_0 : (Kd.sl 5 (Kd.int .u8)).rd w [w0_0] a0.b F) (h1_0 : (Kd.sl 3 (Kd.int .i64)).rd w [w1_0] a1 F) (hb0 : BlW w p0 79 [w0_0, (.int .i64 a0.i), (.int .i64 a0.h)]) (hF : ∀ b, F b → b ∉ [p0]) (r : Int × l1Cur) (m : spec_l1PickInt.f a0 a1 = some r) :
    Calls Try.prog 42 #[(.pointer (some ⟨p0, 0, none⟩)), w1_0] w fun en w' => ∃ v, en = .returned v ∧ spec_l1PickInt.Q w F p0 w0_0 r v w' := by
  obtain ⟨s0, rfl, kp0, z⟩ := start1 w F [p0] hF
  have A0_0 := z.rd h0_0
  have B0 := z.bl hb0 (by simp)
  have A1_0 := z.rd h1_0
  refine calls_of_TM (args := [(.pointer (some ⟨p0, 0, none⟩)), w1_0]) (R := fun r en w' => ∃ v, en = .returned v ∧ spec_l1PickInt.Q s0.w F p0 w0_0 r v w') Try.func42 Try.ntmps42 rfl rfl m ?_
  unfold spec_l1PickInt.f
  refine sr ?_
  refine pu rfl rfl rfl rfl rfl ?_
  refine dn ?_
  refine sr ?_
  refine mv w1_0 rfl rfl rfl rfl rfl rfl ?_
  refine pu rfl rfl rfl rfl rfl ?_
  refine mv w1_0 rfl rfl rfl rfl rfl rfl ?_
  refine ln A1_0 Try.underlying37 rfl rfl rfl rfl rfl rfl ?_
  refine cl rfl rfl rfl rfl rfl Try.func41 rfl rfl rfl (fun r4 m4 => spec_l1Below.calls a0 (a1.length : Int) s0.w (fun b => memb [0] (s0.g b) = true) p0 w0_0 A0_0 (BlF.w B0) (BlF.apart B0 rfl) r4 m4) ?_
  rintro r4 _ w4 m4 ⟨rfl, bw4, ky4⟩
  obtain ⟨s5, rfl, p5, n5, g5⟩ := nwb 10 B0 ky4
  have B5 := blf_mk bw4 g5
  have K7 := (kp0.st p5 rfl)
  have A8 := (A1_0.kp K7)
  refine ix A8 Try.underlying37 z3 rfl rfl rfl rfl rfl rfl rfl rfl (fun ad9 es9 h0_9 h1_9 he9 ce9 ia9 => ?_)
  obtain rfl := he9
  refine lc0 ce9 Try.underlying3 rfl rfl rfl rfl rfl rfl rfl rfl ?_
  refine pu rfl rfl rfl rfl rfl ?_
  refine dn ?_
  exact re rfl Try.func42 rfl (r_t rfl r_nil) rfl ⟨_, rfl, rfl, (BlF.w B5), z.ky K7⟩
noncomputable def spec_DrawControlBytes.f (a0 : (List Int)) : Option (Control) :=
  ((spec_l1New.f a0).bind fun r6 => ((spec_l1Below.f r6 (300 : Int)).bind fun r10 => ((spec_l1Below.f (l1Cur.mk r6.b r10.2.i r10.2.h) (2 : Int)).bind fun r14 => ((spec_l1Below.f (l1Cur.mk r6.b r14.2.i r14.2.h) (3000 : Int)).bind fun r18 => ((spec_l1Below.f (l1Cur.mk r6.b r18.2.i r18.2.h) (30 : Int)).bind fun r22 => ((spec_l1Below.f (l1Cur.mk r6.b r22.2.i r22.2.h) (16 : Int)).bind fun r26 => ((spec_l1Below.f (l1Cur.mk r6.b r26.2.i r26.2.h) (12 : Int)).bind fun r34 => ((if (r34.1 == (0 : Int)) = true then ((spec_l1PickInt.f (l1Cur.mk r6.b r34.2.i r34.2.h) ([(0 : Int), (1000000 : Int), (1000001 : Int)])).bind fun r43 => (some (r43.1, r14.1, (IntKind.wrap .i64 ((1 : Int) + r18.1)), (IntKind.wrap .i64 ((1 : Int) + r22.1)), r26.1))) else ((if (r34.1 == (1 : Int)) = true then ((spec_l1PickInt.f (l1Cur.mk r6.b r34.2.i r34.2.h) ([(-1 : Int), (2 : Int)])).bind fun r57 => (some (r57.1, (IntKind.wrap .i64 ((1 : Int) + r18.1)), (IntKind.wrap .i64 ((1 : Int) + r22.1)), r26.1))) else ((if (r34.1 == (2 : Int)) = true then ((spec_l1PickInt.f (l1Cur.mk r6.b r34.2.i r34.2.h) ([(0 : Int), (1000000 : Int), (1000001 : Int)])).bind fun r71 => (some (r71.1, (IntKind.wrap .i64 ((1 : Int) + r22.1)), r26.1))) else ((if (r34.1 == (3 : Int)) = true then ((spec_l1PickInt.f (l1Cur.mk r6.b r34.2.i r34.2.h) ([(0 : Int), (401 : Int), (402 : Int)])).bind fun r85 => (some (r85.1, r26.1))) else ((if (r34.1 == (4 : Int)) = true then ((spec_l1PickInt.f (l1Cur.mk r6.b r34.2.i r34.2.h) ([(-1 : Int), (16 : Int), (17 : Int)])).bind fun r99 => (some r99.1)) else (some r26.1)).bind fun y94 => (some ((IntKind.wrap .i64 ((1 : Int) + r22.1)), y94)))).bind fun y80 => (some ((IntKind.wrap .i64 ((1 : Int) + r18.1)), y80.1, y80.2)))).bind fun y66 => (some (r14.1, y66.1, y66.2.1, y66.2.2)))).bind fun y52 => (some ((IntKind.wrap .i64 ((1 : Int) + r10.1)), y52.1, y52.2.1, y52.2.2.1, y52.2.2.2)))).bind fun y38 => (some (Control.mk y38.1 y38.2.1 y38.2.2.1 y38.2.2.2.1 y38.2.2.2.2))))))))))
def spec_DrawControlBytes.Q (w : World) (F : Nat → Prop) (r : Control) (v : Value) (w' : World) : Prop :=
  v = (.agg #[(.int .i64 r.Seq), (.int .i64 r.Area), (.int .i64 r.Lsn), (.int .i64 r.Next), (.int .i64 r.Pages)]) ∧ Ky [] w w'
set_option maxHeartbeats 4000000 in
set_option maxRecDepth 100000 in
theorem spec_DrawControlBytes.calls (a0 : (List Int)) (w : World) (F : Nat → Prop) (w0_0 : Value) (h0_0 : (Kd.sl 5 (Kd.int .u8)).rd w [w0_0] a0 F) (r : Control) (m : spec_DrawControlBytes.f a0 = some r) :
    Calls Try.prog 14 #[w0_0] w fun en w' => ∃ v, en = .returned v ∧ spec_DrawControlBytes.Q w F r v w' := by
  obtain ⟨s0, rfl, kp0, z⟩ := start0 w F
  have A0_0 := z.rd h0_0
  refine calls_of_TM (args := [w0_0]) (R := fun r en w' => ∃ v, en = .returned v ∧ spec_DrawControlBytes.Q s0.w F r v w') Try.func14 Try.ntmps14 rfl rfl m ?_
  unfold spec_DrawControlBytes.f
  refine sr ?_
  refine al (cs := [(.int .i64 (0 : Int)), (.int .i64 (0 : Int)), (.int .i64 (0 : Int)), (.int .i64 (0 : Int)), (.int .i64 (0 : Int))]) 10 rfl rfl rfl rfl rfl o26 rfl (fun b2 s2 p2 B2 => ?_)
  refine dn ?_
  refine sr ?_
  refine mv w0_0 rfl rfl rfl rfl rfl rfl ?_
  have K4 := (kp0.st p2 rfl)
  have A5 := (A0_0.kp K4)
  refine cl rfl rfl rfl rfl rfl Try.func40 rfl rfl rfl (fun r6 m6 => spec_l1New.calls a0 s2.w (fun b => memb [0] (s2.g b) = true) w0_0 A5 r6 m6) ?_
  rintro r6 _ w6 m6 ⟨v6_0, v6_1, rfl, f6_0, f6_1, ky6⟩
  obtain ⟨s7, rfl, p7, n7⟩ := nwx s2 w6 11 ky6
  have A6_0 := f6_0.c n7
  have A6_1 := f6_1.c n7
  refine pu rfl rfl rfl rfl rfl ?_
  refine dn ?_
  refine sr ?_
  refine pu rfl rfl rfl rfl rfl ?_
  refine cl rfl rfl rfl rfl rfl Try.func41 rfl rfl rfl (fun r10 m10 => spec_l1Below.calls r6 (300 : Int) s7.w (fun b => memb [0] (s7.g b) = true) v6_0 v6_1 A6_1 (BlF.w A6_0) (BlF.apart A6_0 rfl) r10 m10) ?_
  rintro r10 _ w10 m10 ⟨rfl, bw10, ky10⟩
  obtain ⟨s11, rfl, p11, n11, g11⟩ := nwb 12 A6_0 ky10
  have B11 := blf_mk bw10 g11
  refine pu rfl rfl rfl rfl rfl ?_
  refine pu rfl rfl rfl rfl rfl ?_
  have A13 := (A6_1.st p11 rfl)
  refine cl rfl rfl rfl rfl rfl Try.func41 rfl rfl rfl (fun r14 m14 => spec_l1Below.calls (l1Cur.mk r6.b r10.2.i r10.2.h) (2 : Int) s11.w (fun b => memb [0] (s11.g b) = true) v6_0 v6_1 A13 (BlF.w B11) (BlF.apart B11 rfl) r14 m14) ?_
  rintro r14 _ w14 m14 ⟨rfl, bw14, ky14⟩
  obtain ⟨s15, rfl, p15, n15, g15⟩ := nwb 13 B11 ky14
  have B15 := blf_mk bw14 g15
  refine pu rfl rfl rfl rfl rfl ?_
  have A17 := (A13.st p15 rfl)
  refine cl rfl rfl rfl rfl rfl Try.func41 rfl rfl rfl (fun r18 m18 => spec_l1Below.calls (l1Cur.mk r6.b r14.2.i r14.2.h) (3000 : Int) s15.w (fun b => memb [0] (s15.g b) = true) v6_0 v6_1 A17 (BlF.w B15) (BlF.apart B15 rfl) r18 m18) ?_
  rintro r18 _ w18 m18 ⟨rfl, bw18, ky18⟩
  obtain ⟨s19, rfl, p19, n19, g19⟩ := nwb 14 B15 ky18
  have B19 := blf_mk bw18 g19
  refine pu rfl rfl rfl rfl rfl ?_
  refine pu rfl rfl rfl rfl rfl ?_
  have A21 := (A17.st p19 rfl)
  refine cl rfl rfl rfl rfl rfl Try.func41 rfl rfl rfl (fun r22 m22 => spec_l1Below.calls (l1Cur.mk r6.b r18.2.i r18.2.h) (30 : Int) s19.w (fun b => memb [0] (s19.g b) = true) v6_0 v6_1 A21 (BlF.w B19) (BlF.apart B19 rfl) r22 m22) ?_
  rintro r22 _ w22 m22 ⟨rfl, bw22, ky22⟩
  obtain ⟨s23, rfl, p23, n23, g23⟩ := nwb 15 B19 ky22
  have B23 := blf_mk bw22 g23
  refine pu rfl rfl rfl rfl rfl ?_
  refine pu rfl rfl rfl rfl rfl ?_
  have A25 := (A21.st p23 rfl)
  refine cl rfl rfl rfl rfl rfl Try.func41 rfl rfl rfl (fun r26 m26 => spec_l1Below.calls (l1Cur.mk r6.b r22.2.i r22.2.h) (16 : Int) s23.w (fun b => memb [0] (s23.g b) = true) v6_0 v6_1 A25 (BlF.w B23) (BlF.apart B23 rfl) r26 m26) ?_
  rintro r26 _ w26 m26 ⟨rfl, bw26, ky26⟩
  obtain ⟨s27, rfl, p27, n27, g27⟩ := nwb 16 B23 ky26
  have B27 := blf_mk bw26 g27
  refine bd (cells := [(.int .i64 (IntKind.wrap .i64 ((1 : Int) + r10.1))), (.int .i64 r14.1), (.int .i64 (IntKind.wrap .i64 ((1 : Int) + r18.1))), (.int .i64 (IntKind.wrap .i64 ((1 : Int) + r22.1))), (.int .i64 r26.1)]) pl26 o26 rfl rfl rfl rfl rfl rfl ?_
  refine al (cs := [(.int .i64 (0 : Int)), (.int .i64 (0 : Int)), (.int .i64 (0 : Int)), (.int .i64 (0 : Int)), (.int .i64 (0 : Int))]) 17 rfl rfl rfl rfl rfl o26 rfl (fun b29 s29 p29 B29 => ?_)
  refine sva (vs := [(.int .i64 (IntKind.wrap .i64 ((1 : Int) + r10.1))), (.int .i64 r14.1), (.int .i64 (IntKind.wrap .i64 ((1 : Int) + r18.1))), (.int .i64 (IntKind.wrap .i64 ((1 : Int) + r22.1))), (.int .i64 r26.1)]) B29 z26 rfl rfl rfl rfl rfl rfl (on_cons rfl (on_cons rfl (on_cons rfl (on_cons rfl (on_cons rfl on_nil))))) rfl (fun s31 p31 B31 => ?_)
  refine dn ?_
  refine sq ?_
  refine sr ?_
  refine pu rfl rfl rfl rfl rfl ?_
  have A33 := (((A25.st p27 rfl).st p29 rfl).st p31 rfl)
  have A35 := (BlF.st (BlF.st B27 p29 rfl) p31 rfl)
  refine cl rfl rfl rfl rfl rfl Try.func41 rfl rfl rfl (fun r34 m34 => spec_l1Below.calls (l1Cur.mk r6.b r26.2.i r26.2.h) (12 : Int) s31.w (fun b => memb [0] (s31.g b) = true) v6_0 v6_1 A33 (BlF.w A35) (BlF.apart A35 rfl) r34 m34) ?_
  rintro r34 _ w34 m34 ⟨rfl, bw34, ky34⟩
  obtain ⟨s36, rfl, p36, n36, g36⟩ := nwb 18 A35 ky34
  have B36 := blf_mk bw34 g36
  refine dn ?_
  refine bl ?_
  refine sr ?_
  refine pu rfl rfl rfl rfl rfl ?_
  refine pu rfl rfl rfl rfl rfl ?_
  refine dn ?_
  refine jc (fun (y38 : Int × Int × Int × Int × Int) (e : Env) (w : World) => ∃ (s : St) (e0 : Env), w = s.w ∧ e = upd (upd e0 2 (.pointer (some ⟨b2, 0, none⟩))) 4 (.pointer (some ⟨b29, 0, none⟩)) ∧ Kp s0 s ∧ BlF s b29 26 [(.int .i64 y38.1), (.int .i64 y38.2.1), (.int .i64 y38.2.2.1), (.int .i64 y38.2.2.2.1), (.int .i64 y38.2.2.2.2)] 17 ∧ BlF s b2 26 [(.int .i64 (0 : Int)), (.int .i64 (0 : Int)), (.int .i64 (0 : Int)), (.int .i64 (0 : Int)), (.int .i64 (0 : Int))] 10) (fun Gj38 Kj38 => ?_) ?_
  ·
    refine cd rfl (fun h39 => ?_) (fun h39 => ?_)
    ·
      refine rg ?_
      refine pu rfl rfl rfl rfl rfl ?_
      refine ltF (K := (Kd.int .i64)) (cells := [(.int .i64 (0 : Int)), (.int .i64 (1000000 : Int)), (.int .i64 (1000001 : Int))]) [(0 : Int), (1000000 : Int), (1000001 : Int)] 19 fl_int Try.underlying37 z3 o3 (fun w => (els_flat _ _ _)) rfl rfl rfl rfl rfl rfl rfl rfl rfl rfl (fun v40 s40 p40 A40 => ?_)
      have A42 := ((A33.st p36 rfl).st p40 rfl)
      have A44 := (BlF.st B36 p40 rfl)
      refine cl rfl rfl rfl rfl rfl Try.func42 rfl rfl rfl (fun r43 m43 => spec_l1PickInt.calls (l1Cur.mk r6.b r34.2.i r34.2.h) ([(0 : Int), (1000000 : Int), (1000001 : Int)]) s40.w (fun b => memb [0, 19] (s40.g b) = true) v6_0 v6_1 v40 (A42.sub (D := [0, 19]) rfl) (A40.rd.sub (D := [0, 19]) rfl) (BlF.w A44) (BlF.apart A44 rfl) r43 m43) ?_
      rintro r43 _ w43 m43 ⟨rfl, bw43, ky43⟩
      obtain ⟨s45, rfl, p45, n45, g45⟩ := nwb 20 A44 ky43
      have B45 := blf_mk bw43 g45
      refine fa fa26_0 rfl rfl rfl rfl rfl rfl ?_
      have A47 := (BlF.st (BlF.st (BlF.st B31 p36 rfl) p40 rfl) p45 rfl)
      refine sv A47 z3 rfl rfl rfl rfl rfl rfl rfl rfl (fun s48 p48 B48 => ?_)
      refine dn ?_
      have A50 := (BlF.st (BlF.st (BlF.st (BlF.st (BlF.st (BlF.st (BlF.st (BlF.st (BlF.st (BlF.st (BlF.st (BlF.st B2 p7 rfl) p11 rfl) p15 rfl) p19 rfl) p23 rfl) p27 rfl) p29 rfl) p31 rfl) p36 rfl) p40 rfl) p45 rfl) p48 rfl)
      have K51 := ((((((((((((K4.st p7 rfl).st p11 rfl).st p15 rfl).st p19 rfl).st p23 rfl).st p27 rfl).st p29 rfl).st p31 rfl).st p36 rfl).st p40 rfl).st p45 rfl).st p48 rfl)
      exact Kj38 _ _ _ ⟨s48, _, rfl, (ue (ue rfl rfl) rfl), K51, B48, A50⟩
    ·
      refine sr ?_
      refine pu rfl rfl rfl rfl rfl ?_
      refine pu rfl rfl rfl rfl rfl ?_
      refine dn ?_
      refine jc (fun (y52 : Int × Int × Int × Int) (e : Env) (w : World) => ∃ (s : St) (e0 : Env), w = s.w ∧ e = upd (upd e0 2 (.pointer (some ⟨b2, 0, none⟩))) 4 (.pointer (some ⟨b29, 0, none⟩)) ∧ Kp s0 s ∧ BlF s b29 26 [(.int .i64 (IntKind.wrap .i64 ((1 : Int) + r10.1))), (.int .i64 y52.1), (.int .i64 y52.2.1), (.int .i64 y52.2.2.1), (.int .i64 y52.2.2.2)] 17 ∧ BlF s b2 26 [(.int .i64 (0 : Int)), (.int .i64 (0 : Int)), (.int .i64 (0 : Int)), (.int .i64 (0 : Int)), (.int .i64 (0 : Int))] 10) (fun Gj52 Kj52 => ?_) ?_
      ·
        refine cd rfl (fun h53 => ?_) (fun h53 => ?_)
        ·
          refine rg ?_
          refine pu rfl rfl rfl rfl rfl ?_
          refine ltF (K := (Kd.int .i64)) (cells := [(.int .i64 (-1 : Int)), (.int .i64 (2 : Int))]) [(-1 : Int), (2 : Int)] 21 fl_int Try.underlying37 z3 o3 (fun w => (els_flat _ _ _)) rfl rfl rfl rfl rfl rfl rfl rfl rfl rfl (fun v54 s54 p54 A54 => ?_)
          have A56 := ((A33.st p36 rfl).st p54 rfl)
          have A58 := (BlF.st B36 p54 rfl)
          refine cl rfl rfl rfl rfl rfl Try.func42 rfl rfl rfl (fun r57 m57 => spec_l1PickInt.calls (l1Cur.mk r6.b r34.2.i r34.2.h) ([(-1 : Int), (2 : Int)]) s54.w (fun b => memb [0, 21] (s54.g b) = true) v6_0 v6_1 v54 (A56.sub (D := [0, 21]) rfl) (A54.rd.sub (D := [0, 21]) rfl) (BlF.w A58) (BlF.apart A58 rfl) r57 m57) ?_
          rintro r57 _ w57 m57 ⟨rfl, bw57, ky57⟩
          obtain ⟨s59, rfl, p59, n59, g59⟩ := nwb 22 A58 ky57
          have B59 := blf_mk bw57 g59
          refine fa fa26_1 rfl rfl rfl rfl rfl rfl ?_
          have A61 := (BlF.st (BlF.st (BlF.st B31 p36 rfl) p54 rfl) p59 rfl)
          refine sv A61 z3 rfl rfl rfl rfl rfl rfl rfl rfl (fun s62 p62 B62 => ?_)
          refine dn ?_
          have A64 := (BlF.st (BlF.st (BlF.st (BlF.st (BlF.st (BlF.st (BlF.st (BlF.st (BlF.st (BlF.st (BlF.st (BlF.st B2 p7 rfl) p11 rfl) p15 rfl) p19 rfl) p23 rfl) p27 rfl) p29 rfl) p31 rfl) p36 rfl) p54 rfl) p59 rfl) p62 rfl)
          have K65 := ((((((((((((K4.st p7 rfl).st p11 rfl).st p15 rfl).st p19 rfl).st p23 rfl).st p27 rfl).st p29 rfl).st p31 rfl).st p36 rfl).st p54 rfl).st p59 rfl).st p62 rfl)
          exact Kj52 _ _ _ ⟨s62, _, rfl, (ue (ue rfl rfl) rfl), K65, B62, A64⟩
        ·
          refine sr ?_
          refine pu rfl rfl rfl rfl rfl ?_
          refine pu rfl rfl rfl rfl rfl ?_
          refine dn ?_
          refine jc (fun (y66 : Int × Int × Int) (e : Env) (w : World) => ∃ (s : St) (e0 : Env), w = s.w ∧ e = upd (upd e0 2 (.pointer (some ⟨b2, 0, none⟩))) 4 (.pointer (some ⟨b29, 0, none⟩)) ∧ Kp s0 s ∧ BlF s b29 26 [(.int .i64 (IntKind.wrap .i64 ((1 : Int) + r10.1))), (.int .i64 r14.1), (.int .i64 y66.1), (.int .i64 y66.2.1), (.int .i64 y66.2.2)] 17 ∧ BlF s b2 26 [(.int .i64 (0 : Int)), (.int .i64 (0 : Int)), (.int .i64 (0 : Int)), (.int .i64 (0 : Int)), (.int .i64 (0 : Int))] 10) (fun Gj66 Kj66 => ?_) ?_
          ·
            refine cd rfl (fun h67 => ?_) (fun h67 => ?_)
            ·
              refine rg ?_
              refine pu rfl rfl rfl rfl rfl ?_
              refine ltF (K := (Kd.int .i64)) (cells := [(.int .i64 (0 : Int)), (.int .i64 (1000000 : Int)), (.int .i64 (1000001 : Int))]) [(0 : Int), (1000000 : Int), (1000001 : Int)] 23 fl_int Try.underlying37 z3 o3 (fun w => (els_flat _ _ _)) rfl rfl rfl rfl rfl rfl rfl rfl rfl rfl (fun v68 s68 p68 A68 => ?_)
              have A70 := ((A33.st p36 rfl).st p68 rfl)
              have A72 := (BlF.st B36 p68 rfl)
              refine cl rfl rfl rfl rfl rfl Try.func42 rfl rfl rfl (fun r71 m71 => spec_l1PickInt.calls (l1Cur.mk r6.b r34.2.i r34.2.h) ([(0 : Int), (1000000 : Int), (1000001 : Int)]) s68.w (fun b => memb [0, 23] (s68.g b) = true) v6_0 v6_1 v68 (A70.sub (D := [0, 23]) rfl) (A68.rd.sub (D := [0, 23]) rfl) (BlF.w A72) (BlF.apart A72 rfl) r71 m71) ?_
              rintro r71 _ w71 m71 ⟨rfl, bw71, ky71⟩
              obtain ⟨s73, rfl, p73, n73, g73⟩ := nwb 24 A72 ky71
              have B73 := blf_mk bw71 g73
              refine fa fa26_2 rfl rfl rfl rfl rfl rfl ?_
              have A75 := (BlF.st (BlF.st (BlF.st B31 p36 rfl) p68 rfl) p73 rfl)
              refine sv A75 z3 rfl rfl rfl rfl rfl rfl rfl rfl (fun s76 p76 B76 => ?_)
              refine dn ?_
              have A78 := (BlF.st (BlF.st (BlF.st (BlF.st (BlF.st (BlF.st (BlF.st (BlF.st (BlF.st (BlF.st (BlF.st (BlF.st B2 p7 rfl) p11 rfl) p15 rfl) p19 rfl) p23 rfl) p27 rfl) p29 rfl) p31 rfl) p36 rfl) p68 rfl) p73 rfl) p76 rfl)
              have K79 := ((((((((((((K4.st p7 rfl).st p11 rfl).st p15 rfl).st p19 rfl).st p23 rfl).st p27 rfl).st p29 rfl).st p31 rfl).st p36 rfl).st p68 rfl).st p73 rfl).st p76 rfl)
              exact Kj66 _ _ _ ⟨s76, _, rfl, (ue (ue rfl rfl) rfl), K79, B76, A78⟩
            ·
              refine sr ?_
              refine pu rfl rfl rfl rfl rfl ?_
              refine pu rfl rfl rfl rfl rfl ?_
              refine dn ?_
              refine jc (fun (y80 : Int × Int) (e : Env) (w : World) => ∃ (s : St) (e0 : Env), w = s.w ∧ e = upd (upd e0 2 (.pointer (some ⟨b2, 0, none⟩))) 4 (.pointer (some ⟨b29, 0, none⟩)) ∧ Kp s0 s ∧ BlF s b29 26 [(.int .i64 (IntKind.wrap .i64 ((1 : Int) + r10.1))), (.int .i64 r14.1), (.int .i64 (IntKind.wrap .i64 ((1 : Int) + r18.1))), (.int .i64 y80.1), (.int .i64 y80.2)] 17 ∧ BlF s b2 26 [(.int .i64 (0 : Int)), (.int .i64 (0 : Int)), (.int .i64 (0 : Int)), (.int .i64 (0 : Int)), (.int .i64 (0 : Int))] 10) (fun Gj80 Kj80 => ?_) ?_
              ·
                refine cd rfl (fun h81 => ?_) (fun h81 => ?_)
                ·
                  refine rg ?_
                  refine pu rfl rfl rfl rfl rfl ?_
                  refine ltF (K := (Kd.int .i64)) (cells := [(.int .i64 (0 : Int)), (.int .i64 (401 : Int)), (.int .i64 (402 : Int))]) [(0 : Int), (401 : Int), (402 : Int)] 25 fl_int Try.underlying37 z3 o3 (fun w => (els_flat _ _ _)) rfl rfl rfl rfl rfl rfl rfl rfl rfl rfl (fun v82 s82 p82 A82 => ?_)
                  have A84 := ((A33.st p36 rfl).st p82 rfl)
                  have A86 := (BlF.st B36 p82 rfl)
                  refine cl rfl rfl rfl rfl rfl Try.func42 rfl rfl rfl (fun r85 m85 => spec_l1PickInt.calls (l1Cur.mk r6.b r34.2.i r34.2.h) ([(0 : Int), (401 : Int), (402 : Int)]) s82.w (fun b => memb [0, 25] (s82.g b) = true) v6_0 v6_1 v82 (A84.sub (D := [0, 25]) rfl) (A82.rd.sub (D := [0, 25]) rfl) (BlF.w A86) (BlF.apart A86 rfl) r85 m85) ?_
                  rintro r85 _ w85 m85 ⟨rfl, bw85, ky85⟩
                  obtain ⟨s87, rfl, p87, n87, g87⟩ := nwb 26 A86 ky85
                  have B87 := blf_mk bw85 g87
                  refine fa fa26_3 rfl rfl rfl rfl rfl rfl ?_
                  have A89 := (BlF.st (BlF.st (BlF.st B31 p36 rfl) p82 rfl) p87 rfl)
                  refine sv A89 z3 rfl rfl rfl rfl rfl rfl rfl rfl (fun s90 p90 B90 => ?_)
                  refine dn ?_
                  have A92 := (BlF.st (BlF.st (BlF.st (BlF.st (BlF.st (BlF.st (BlF.st (BlF.st (BlF.st (BlF.st (BlF.st (BlF.st B2 p7 rfl) p11 rfl) p15 rfl) p19 rfl) p23 rfl) p27 rfl) p29 rfl) p31 rfl) p36 rfl) p82 rfl) p87 rfl) p90 rfl)
                  have K93 := ((((((((((((K4.st p7 rfl).st p11 rfl).st p15 rfl).st p19 rfl).st p23 rfl).st p27 rfl).st p29 rfl).st p31 rfl).st p36 rfl).st p82 rfl).st p87 rfl).st p90 rfl)
                  exact Kj80 _ _ _ ⟨s90, _, rfl, (ue (ue rfl rfl) rfl), K93, B90, A92⟩
                ·
                  refine sr ?_
                  refine pu rfl rfl rfl rfl rfl ?_
                  refine pu rfl rfl rfl rfl rfl ?_
                  refine dn ?_
                  refine jc (fun (y94 : Int) (e : Env) (w : World) => ∃ (s : St) (e0 : Env), w = s.w ∧ e = upd (upd e0 2 (.pointer (some ⟨b2, 0, none⟩))) 4 (.pointer (some ⟨b29, 0, none⟩)) ∧ Kp s0 s ∧ BlF s b29 26 [(.int .i64 (IntKind.wrap .i64 ((1 : Int) + r10.1))), (.int .i64 r14.1), (.int .i64 (IntKind.wrap .i64 ((1 : Int) + r18.1))), (.int .i64 (IntKind.wrap .i64 ((1 : Int) + r22.1))), (.int .i64 y94)] 17 ∧ BlF s b2 26 [(.int .i64 (0 : Int)), (.int .i64 (0 : Int)), (.int .i64 (0 : Int)), (.int .i64 (0 : Int)), (.int .i64 (0 : Int))] 10) (fun Gj94 Kj94 => ?_) ?_
                  ·
                    refine cd rfl (fun h95 => ?_) (fun h95 => ?_)
                    ·
                      refine rg ?_
                      refine pu rfl rfl rfl rfl rfl ?_
                      refine ltF (K := (Kd.int .i64)) (cells := [(.int .i64 (-1 : Int)), (.int .i64 (16 : Int)), (.int .i64 (17 : Int))]) [(-1 : Int), (16 : Int), (17 : Int)] 27 fl_int Try.underlying37 z3 o3 (fun w => (els_flat _ _ _)) rfl rfl rfl rfl rfl rfl rfl rfl rfl rfl (fun v96 s96 p96 A96 => ?_)
                      have A98 := ((A33.st p36 rfl).st p96 rfl)
                      have A100 := (BlF.st B36 p96 rfl)
                      refine cl rfl rfl rfl rfl rfl Try.func42 rfl rfl rfl (fun r99 m99 => spec_l1PickInt.calls (l1Cur.mk r6.b r34.2.i r34.2.h) ([(-1 : Int), (16 : Int), (17 : Int)]) s96.w (fun b => memb [0, 27] (s96.g b) = true) v6_0 v6_1 v96 (A98.sub (D := [0, 27]) rfl) (A96.rd.sub (D := [0, 27]) rfl) (BlF.w A100) (BlF.apart A100 rfl) r99 m99) ?_
                      rintro r99 _ w99 m99 ⟨rfl, bw99, ky99⟩
                      obtain ⟨s101, rfl, p101, n101, g101⟩ := nwb 28 A100 ky99
                      have B101 := blf_mk bw99 g101
                      refine fa fa26_4 rfl rfl rfl rfl rfl rfl ?_
                      have A103 := (BlF.st (BlF.st (BlF.st B31 p36 rfl) p96 rfl) p101 rfl)
                      refine sv A103 z3 rfl rfl rfl rfl rfl rfl rfl rfl (fun s104 p104 B104 => ?_)
                      refine dn ?_
                      have A106 := (BlF.st (BlF.st (BlF.st (BlF.st (BlF.st (BlF.st (BlF.st (BlF.st (BlF.st (BlF.st (BlF.st (BlF.st B2 p7 rfl) p11 rfl) p15 rfl) p19 rfl) p23 rfl) p27 rfl) p29 rfl) p31 rfl) p36 rfl) p96 rfl) p101 rfl) p104 rfl)
                      have K107 := ((((((((((((K4.st p7 rfl).st p11 rfl).st p15 rfl).st p19 rfl).st p23 rfl).st p27 rfl).st p29 rfl).st p31 rfl).st p36 rfl).st p96 rfl).st p101 rfl).st p104 rfl)
                      exact Kj94 _ _ _ ⟨s104, _, rfl, (ue (ue rfl rfl) rfl), K107, B104, A106⟩
                    ·
                      refine sk ?_
                      have A108 := (BlF.st B31 p36 rfl)
                      have A109 := (BlF.st (BlF.st (BlF.st (BlF.st (BlF.st (BlF.st (BlF.st (BlF.st (BlF.st B2 p7 rfl) p11 rfl) p15 rfl) p19 rfl) p23 rfl) p27 rfl) p29 rfl) p31 rfl) p36 rfl)
                      have K110 := (((((((((K4.st p7 rfl).st p11 rfl).st p15 rfl).st p19 rfl).st p23 rfl).st p27 rfl).st p29 rfl).st p31 rfl).st p36 rfl)
                      exact Kj94 _ _ _ ⟨s36, _, rfl, (ue (ue rfl rfl) rfl), K110, A108, A109⟩
                  rintro y94 _ _ ⟨s111, _, rfl, rfl, Ky94, By94_b29, By94_b2⟩
                  exact Kj80 _ _ _ ⟨s111, _, rfl, (ue (ue rfl rfl) rfl), Ky94, By94_b29, By94_b2⟩
              rintro y80 _ _ ⟨s114, _, rfl, rfl, Ky80, By80_b29, By80_b2⟩
              exact Kj66 _ _ _ ⟨s114, _, rfl, (ue (ue rfl rfl) rfl), Ky80, By80_b29, By80_b2⟩
          rintro y66 _ _ ⟨s117, _, rfl, rfl, Ky66, By66_b29, By66_b2⟩
          exact Kj52 _ _ _ ⟨s117, _, rfl, (ue (ue rfl rfl) rfl), Ky66, By66_b29, By66_b2⟩
      rintro y52 _ _ ⟨s120, _, rfl, rfl, Ky52, By52_b29, By52_b2⟩
      exact Kj38 _ _ _ ⟨s120, _, rfl, (ue (ue rfl rfl) rfl), Ky52, By52_b29, By52_b2⟩
  rintro y38 _ _ ⟨s123, _, rfl, rfl, Ky38, By38_b29, By38_b2⟩
  refine ib ?_
  refine sr ?_
  refine lda (es := [(.int .i64 y38.1), (.int .i64 y38.2.1), (.int .i64 y38.2.2.1), (.int .i64 y38.2.2.2.1), (.int .i64 y38.2.2.2.2)]) By38_b29 Try.underlying26 z26 rfl rfl rfl rfl rfl rfl rfl rfl ?_
  refine sva (vs := [(.int .i64 y38.1), (.int .i64 y38.2.1), (.int .i64 y38.2.2.1), (.int .i64 y38.2.2.2.1), (.int .i64 y38.2.2.2.2)]) By38_b2 z26 rfl rfl rfl rfl rfl rfl (on_cons rfl (on_cons rfl (on_cons rfl (on_cons rfl (on_cons rfl on_nil))))) rfl (fun s126 p126 B126 => ?_)
  refine dn ?_
  have K128 := (Ky38.st p126 rfl)
  exact re rfl Try.func14 rfl (r_b B126 Try.underlying26 rfl z26 rfl r_nil) rfl ⟨_, rfl, rfl, z.ky K128⟩
noncomputable def impl_hasBytes.f (a0 : (List Int)) (a1 : Int) (a2 : Int) : Option (Bool) :=
  ((impl_within.f a1 (0 : Int) (a0.length : Int)).bind fun r2 => (some (r2 && (decide (a2 ≤ (IntKind.wrap .i64 ((a0.length : Int) - a1)))))))
def impl_hasBytes.Q (w : World) (F : Nat → Prop) (r : Bool) (v : Value) (w' : World) : Prop :=
  v = (.bool r) ∧ Ky [] w w'
set_option maxHeartbeats 4000000 in
set_option maxRecDepth 100000 in
theorem impl_hasBytes.calls (a0 : (List Int)) (a1 : Int) (a2 : Int) (w : World) (F : Nat → Prop) (w0_0 : Value) (h0_0 : (Kd.sl 5 (Kd.int .u8)).rd w [w0_0] a0 F) (r : Bool) (m : impl_hasBytes.f a0 a1 a2 = some r) :
    Calls Try.prog 62 #[w0_0, (.int .i64 a1), (.int .i64 a2)] w fun en w' => ∃ v, en = .returned v ∧ impl_hasBytes.Q w F r v w' := by
  obtain ⟨s0, rfl, kp0, z⟩ := start0 w F
  have A0_0 := z.rd h0_0
  refine calls_of_TM (args := [w0_0, (.int .i64 a1), (.int .i64 a2)]) (R := fun r en w' => ∃ v, en = .returned v ∧ impl_hasBytes.Q s0.w F r v w') Try.func62 Try.ntmps62 rfl rfl m ?_
  unfold impl_hasBytes.f
  refine sr ?_
  refine pu rfl rfl rfl rfl rfl ?_
  refine dn ?_
  refine sr ?_
  refine pu rfl rfl rfl rfl rfl ?_
  refine mv w0_0 rfl rfl rfl rfl rfl rfl ?_
  refine ln A0_0 Try.underlying24 rfl rfl rfl rfl rfl rfl ?_
  refine cl rfl rfl rfl rfl rfl Try.func34 rfl rfl rfl (fun r2 m2 => impl_within.calls a1 (0 : Int) (a0.length : Int) s0.w (fun b => memb [] (s0.g b) = true)  r2 m2) ?_
  rintro r2 _ w2 m2 ⟨rfl, ky2⟩
  obtain ⟨s3, rfl, p3, n3⟩ := nwx s0 w2 10 ky2
  refine pu rfl rfl rfl rfl rfl ?_
  refine jy [11, 12, 13, 14, 15, 16, 17, 18] [12] 18 (.bool (r2 && (decide (a2 ≤ (IntKind.wrap .i64 ((a0.length : Int) - a1)))))) rfl (fun Kg4 => ?_) (fun j4 => ?_)
  ·
    rcases Bool.eq_false_or_eq_true r2 with hb4 | hb4
    ·
      refine sbT hb4 ?_
      refine pu rfl rfl rfl rfl rfl ?_
      refine mv w0_0 rfl rfl rfl rfl rfl rfl ?_
      have K5 := (kp0.st p3 rfl)
      have A6 := (A0_0.kp K5)
      refine ln A6 Try.underlying24 rfl rfl rfl rfl rfl rfl ?_
      refine pu rfl rfl rfl rfl rfl ?_
      refine pu rfl rfl rfl rfl rfl ?_
      refine pu rfl rfl rfl rfl rfl ?_
      refine pu rfl rfl rfl rfl rfl ?_
      exact Kg4 _ (Ag.put ((Ag.put ((Ag.put ((Ag.put ((Ag.put ((Ag.put ((Ag.put (Ag.base rfl) rfl)) rfl)) rfl)) rfl)) rfl)) rfl)) rfl) (by rw [hb4]; rfl)
    ·
      refine sbT hb4 ?_
      refine uw rfl rfl rfl rfl ?_
      refine uw rfl rfl rfl rfl ?_
      refine uw rfl rfl rfl rfl ?_
      refine uw rfl rfl rfl rfl ?_
      refine uw rfl rfl rfl rfl ?_
      refine uw rfl rfl rfl rfl ?_
      refine pu rfl rfl rfl rfl rfl ?_
      exact Kg4 _ (Ag.put ((Ag.put ((Ag.put ((Ag.put ((Ag.put ((Ag.put ((Ag.put (Ag.base rfl) rfl)) rfl)) rfl)) rfl)) rfl)) rfl)) rfl) (by rw [hb4]; rfl)
  refine pu rfl rfl rfl rfl rfl ?_
  refine dn ?_
  have K7 := (kp0.st p3 rfl)
  exact re rfl Try.func62 rfl (r_t rfl r_nil) rfl ⟨_, rfl, rfl, z.ky K7⟩
noncomputable def impl_GetNum.b0 (a0 : (List Int)) (a1 : Int) (x13 : Int × Int) : Option ((Int × Int) ⊕ (Int × Bool)) :=
  (if (decide (x13.2 ≥ (0 : Int))) = true then (if 0 ≤ (IntKind.wrap .i64 (a1 + x13.2)) ∧ (IntKind.wrap .i64 (a1 + x13.2)) < (a0.length : Int) then (some (.inl ((ior .u64 (ishl .u64 x13.1 (8 : Int)) (IntKind.wrap .u64 (at_ a0 (IntKind.wrap .i64 (a1 + x13.2))))), (IntKind.wrap .i64 (x13.2 - (1 : Int)))))) else none) else ((if (decide (x13.1 ≥ (9223372036854775808 : Int))) = true then (some ((0 : Int), false)) else (some ((IntKind.wrap .i64 x13.1), true))).bind fun o => some (.inr o)))
noncomputable def impl_GetNum.f (a0 : (List Int)) (a1 : Int) (a2 : Int) : Option (Int × Bool) :=
  ((impl_within.f a2 (1 : Int) (8 : Int)).bind fun r2 => ((if (!r2) = true then (some true) else ((impl_hasBytes.f a0 a1 a2).bind fun r8 => (some (!r8)))).bind fun y4 => (if y4 = true then (some ((0 : Int), false)) else (iter (impl_GetNum.b0 a0 a1) ((0 : Int), (IntKind.wrap .i64 (a2 - (1 : Int))))))))
def impl_GetNum.Q (w : World) (F : Nat → Prop) (r : Int × Bool) (v : Value) (w' : World) : Prop :=
  v = .tuple #[(.int .i64 r.1), (.bool r.2)] ∧ Ky [] w w'
set_option maxHeartbeats 4000000 in
set_option maxRecDepth 100000 in
theorem impl_GetNum.calls (a0 : (List Int)) (a1 : Int) (a2 : Int) (w : World) (F : Nat → Prop) (w0_0 : Value) (h0_0 : (Kd.sl 5 (Kd.int .u8)).rd w [w0_0] a0 F) (r : Int × Bool) (m : impl_GetNum.f a0 a1 a2 = some r) :
    Calls Try.prog 44 #[w0_0, (.int .i64 a1), (.int .i64 a2)] w fun en w' => ∃ v, en = .returned v ∧ impl_GetNum.Q w F r v w' := by
  obtain ⟨s0, rfl, kp0, z⟩ := start0 w F
  have A0_0 := z.rd h0_0
  refine calls_of_TM (args := [w0_0, (.int .i64 a1), (.int .i64 a2)]) (R := fun r en w' => ∃ v, en = .returned v ∧ impl_GetNum.Q s0.w F r v w') Try.func44 Try.ntmps44 rfl rfl m ?_
  unfold impl_GetNum.f
  refine sr ?_
  refine pu rfl rfl rfl rfl rfl ?_
  refine pu rfl rfl rfl rfl rfl ?_
  refine dn ?_
  refine sq ?_
  refine sr ?_
  refine pu rfl rfl rfl rfl rfl ?_
  refine cl rfl rfl rfl rfl rfl Try.func34 rfl rfl rfl (fun r2 m2 => impl_within.calls a2 (1 : Int) (8 : Int) s0.w (fun b => memb [] (s0.g b) = true)  r2 m2) ?_
  rintro r2 _ w2 m2 ⟨rfl, ky2⟩
  obtain ⟨s3, rfl, p3, n3⟩ := nwx s0 w2 10 ky2
  refine pu rfl rfl rfl rfl rfl ?_
  refine pu rfl rfl rfl rfl rfl ?_
  refine ji [] (fun (y4 : Bool) (e : Env) (w : World) => ∃ (s : St) (e0 : Env), w = s.w ∧ e = upd (upd (upd (upd e0 0 w0_0) 1 (.int .i64 a1)) 2 (.int .i64 a2)) 19 (.bool y4) ∧ Kp s0 s) (fun Gj4 Kj4 => ?_) ?_
  ·
    rcases Bool.eq_false_or_eq_true (!r2) with hb4 | hb4
    ·
      refine sbT hb4 ?_
      rw [if_pos hb4]
      refine uw rfl rfl rfl rfl ?_
      refine uw rfl rfl rfl rfl ?_
      refine uw rfl rfl rfl rfl ?_
      refine uw rfl rfl rfl rfl ?_
      refine uw rfl rfl rfl rfl ?_
      refine pu rfl rfl rfl rfl rfl ?_
      have K5 := (kp0.st p3 rfl)
      exact Kj4 _ _ _ ⟨s3, _, rfl, (ue (ue (ue (ue rfl rfl) rfl) rfl) rfl), K5⟩
    ·
      refine sbT hb4 ?_
      rw [if_neg (by rw [hb4]; decide)]
      refine mv w0_0 rfl rfl rfl rfl rfl rfl ?_
      refine pu rfl rfl rfl rfl rfl ?_
      refine pu rfl rfl rfl rfl rfl ?_
      have K6 := (kp0.st p3 rfl)
      have A7 := (A0_0.kp K6)
      refine cl rfl rfl rfl rfl rfl Try.func62 rfl rfl rfl (fun r8 m8 => impl_hasBytes.calls a0 a1 a2 s3.w (fun b => memb [0] (s3.g b) = true) w0_0 A7 r8 m8) ?_
      rintro r8 _ w8 m8 ⟨rfl, ky8⟩
      obtain ⟨s9, rfl, p9, n9⟩ := nwx s3 w8 11 ky8
      refine pu rfl rfl rfl rfl rfl ?_
      refine pu rfl rfl rfl rfl rfl ?_
      have K10 := (K6.st p9 rfl)
      exact Kj4 _ _ _ ⟨s9, _, rfl, (ue (ue (ue (ue rfl rfl) rfl) rfl) rfl), K10⟩
  rintro y4 _ _ ⟨s11, _, rfl, rfl, Ky4⟩
  refine dn ?_
  refine cd rfl (fun h12 => ?_) (fun h12 => ?_)
  ·
    refine sr ?_
    refine pu rfl rfl rfl rfl rfl ?_
    refine pu rfl rfl rfl rfl rfl ?_
    refine dn ?_
    exact re rfl Try.func44 rfl (r_t rfl (r_t rfl r_nil)) rfl ⟨_, rfl, rfl, z.ky Ky4⟩
  ·
    refine sk ?_
    refine sr ?_
    refine pu rfl rfl rfl rfl rfl ?_
    refine dn ?_
    refine sq ?_
    refine sr ?_
    refine pu rfl rfl rfl rfl rfl ?_
    refine pu rfl rfl rfl rfl rfl ?_
    refine pu rfl rfl rfl rfl rfl ?_
    refine dn ?_
    refine bl ?_
    refine lpI (fun (x13 : Int × Int) (e : Env) (w : World) => ∃ (s : St) (e0 : Env), w = s.w ∧ e = upd (upd (upd (upd e0 0 w0_0) 1 (.int .i64 a1)) 8 (.int .u64 x13.1)) 9 (.int .i64 x13.2) ∧ Kp s0 s) ⟨s11, _, rfl, (ue (ue (ue (ue rfl rfl) rfl) rfl) rfl), Ky4⟩ (fun g13 ih13 => ?_)
    rintro x13 _ _ ⟨s14, _, rfl, rfl, Kx13⟩
    unfold impl_GetNum.b0
    refine sq ?_
    refine sr ?_
    refine pu rfl rfl rfl rfl rfl ?_
    refine pu rfl rfl rfl rfl rfl ?_
    refine dn ?_
    refine cd rfl (fun h15 => ?_) (fun h15 => ?_)
    ·
      refine sk ?_
      refine sq ?_
      refine bl ?_
      refine rg ?_
      refine pu rfl rfl rfl rfl rfl ?_
      refine shlK rfl rfl rfl rfl rfl rfl rfl rfl ?_
      refine mv w0_0 rfl rfl rfl rfl rfl rfl ?_
      refine pu rfl rfl rfl rfl rfl ?_
      refine pu rfl rfl rfl rfl rfl ?_
      refine pu rfl rfl rfl rfl rfl ?_
      have A16 := (A0_0.kp Kx13)
      refine ix A16 Try.underlying24 z5 rfl rfl rfl rfl rfl rfl rfl rfl (fun ad17 es17 h0_17 h1_17 he17 ce17 ia17 => ?_)
      obtain rfl := he17
      refine lc0 ce17 Try.underlying5 rfl rfl rfl rfl rfl rfl rfl rfl ?_
      refine cv Try.underlying82 Try.underlying5 rfl rfl rfl rfl rfl rfl ?_
      refine pu rfl rfl rfl rfl rfl ?_
      refine pu rfl rfl rfl rfl rfl ?_
      refine dn ?_
      refine ib ?_
      refine rg ?_
      refine pu rfl rfl rfl rfl rfl ?_
      refine pu rfl rfl rfl rfl rfl ?_
      refine pu rfl rfl rfl rfl rfl ?_
      refine dn ?_
      exact lb ih13 ⟨s14, _, rfl, (ue (ue (ue (ue rfl rfl) rfl) rfl) rfl), Kx13⟩
    ·
      refine xt rfl ?_
      refine sgb ?_
      refine sq ?_
      refine sr ?_
      refine pu rfl rfl rfl rfl rfl ?_
      refine pu rfl rfl rfl rfl rfl ?_
      refine dn ?_
      refine cd rfl (fun h19 => ?_) (fun h19 => ?_)
      ·
        refine sr ?_
        refine pu rfl rfl rfl rfl rfl ?_
        refine pu rfl rfl rfl rfl rfl ?_
        refine dn ?_
        exact re rfl Try.func44 rfl (r_t rfl (r_t rfl r_nil)) rfl ⟨_, rfl, rfl, z.ky Kx13⟩
      ·
        refine sk ?_
        refine sr ?_
        refine pu rfl rfl rfl rfl rfl ?_
        refine cv Try.underlying3 Try.underlying82 rfl rfl rfl rfl rfl rfl ?_
        refine pu rfl rfl rfl rfl rfl ?_
        refine pu rfl rfl rfl rfl rfl ?_
        refine dn ?_
        exact re rfl Try.func44 rfl (r_t rfl (r_t rfl r_nil)) rfl ⟨_, rfl, rfl, z.ky Kx13⟩
noncomputable def impl_FrameAt.f (a0 : (List Int)) (a1 : Int) : Option (Int × (List Int) × Int × Int) :=
  ((if (decide ((a0.length : Int) > (65536 : Int))) = true then (some true) else ((impl_hasBytes.f a0 a1 (3 : Int)).bind fun r3 => (some (!r3)))).bind fun y2 => (if y2 = true then (some ((0 : Int), ([] : (List Int)), (0 : Int), (1 : Int))) else (if 0 ≤ a1 ∧ a1 < (a0.length : Int) then ((impl_GetNum.f a0 (IntKind.wrap .i64 (a1 + (1 : Int))) (2 : Int)).bind fun r11 => (if (((IntKind.wrap .i64 (at_ a0 a1)) == (0 : Int)) || (decide (r11.1 > (1000 : Int)))) = true then (some ((0 : Int), ([] : (List Int)), (0 : Int), (2 : Int))) else ((impl_GetNum.f a0 (IntKind.wrap .i64 ((IntKind.wrap .i64 (a1 + (3 : Int))) + r11.1)) (4 : Int)).bind fun r18 => (if (!r18.2) = true then (some ((0 : Int), ([] : (List Int)), (0 : Int), (1 : Int))) else (if 0 ≤ a1 ∧ a1 ≤ (IntKind.wrap .i64 ((IntKind.wrap .i64 (a1 + (3 : Int))) + r11.1)) ∧ (IntKind.wrap .i64 ((IntKind.wrap .i64 (a1 + (3 : Int))) + r11.1)) ≤ (a0.length : Int) then ((impl_Crc.f ((a0.take ((IntKind.wrap .i64 ((IntKind.wrap .i64 (a1 + (3 : Int))) + r11.1))).toNat).drop (a1).toNat)).bind fun r26 => (if (r18.1 != r26) = true then (some ((0 : Int), ([] : (List Int)), (0 : Int), (3 : Int))) else (if 0 ≤ (IntKind.wrap .i64 (a1 + (3 : Int))) ∧ (IntKind.wrap .i64 (a1 + (3 : Int))) ≤ (IntKind.wrap .i64 ((IntKind.wrap .i64 (a1 + (3 : Int))) + r11.1)) ∧ (IntKind.wrap .i64 ((IntKind.wrap .i64 (a1 + (3 : Int))) + r11.1)) ≤ (a0.length : Int) then ((slices_Clone_byte_byte.f ((a0.take ((IntKind.wrap .i64 ((IntKind.wrap .i64 (a1 + (3 : Int))) + r11.1))).toNat).drop ((IntKind.wrap .i64 (a1 + (3 : Int)))).toNat)).bind fun r34 => (some ((IntKind.wrap .i64 (at_ a0 a1)), r34, (IntKind.wrap .i64 ((IntKind.wrap .i64 ((IntKind.wrap .i64 (a1 + (3 : Int))) + r11.1)) + (4 : Int))), (0 : Int)))) else none))) else none))))) else none)))
def impl_FrameAt.Q (w : World) (F : Nat → Prop) (r : Int × (List Int) × Int × Int) (v : Value) (w' : World) : Prop :=
  ∃ (v0 : Value), v = .tuple #[(.int .i64 r.1), v0, (.int .i64 r.2.2.1), (.int .i64 r.2.2.2)] ∧ FO (Kd.sl 5 (Kd.int .u8)) w w' [v0] r.2.1 ∧ Ky [] w w'
set_option maxHeartbeats 4000000 in
set_option maxRecDepth 100000 in
theorem impl_FrameAt.calls (a0 : (List Int)) (a1 : Int) (w : World) (F : Nat → Prop) (w0_0 : Value) (h0_0 : (Kd.sl 5 (Kd.int .u8)).rd w [w0_0] a0 F) (r : Int × (List Int) × Int × Int) (m : impl_FrameAt.f a0 a1 = some r) :
    Calls Try.prog 43 #[w0_0, (.int .i64 a1)] w fun en w' => ∃ v, en = .returned v ∧ impl_FrameAt.Q w F r v w' := by
  obtain ⟨s0, rfl, kp0, z⟩ := start0 w F
  have A0_0 := z.rd h0_0
  refine calls_of_TM (args := [w0_0, (.int .i64 a1)]) (R := fun r en w' => ∃ v, en = .returned v ∧ impl_FrameAt.Q s0.w F r v w') Try.func43 Try.ntmps43 rfl rfl m ?_
  unfold impl_FrameAt.f
  refine sr ?_
  refine pu rfl rfl rfl rfl rfl ?_
  refine pu rfl rfl rfl rfl rfl ?_
  refine pu rfl rfl rfl rfl rfl ?_
  refine pu rfl rfl rfl rfl rfl ?_
  refine dn ?_
  refine sq ?_
  refine sr ?_
  refine mv w0_0 rfl rfl rfl rfl rfl rfl ?_
  refine ln A0_0 Try.underlying24 rfl rfl rfl rfl rfl rfl ?_
  refine pu rfl rfl rfl rfl rfl ?_
  refine pu rfl rfl rfl rfl rfl ?_
  refine ji [] (fun (y2 : Bool) (e : Env) (w : World) => ∃ (s : St) (e0 : Env), w = s.w ∧ e = upd (upd (upd e0 0 w0_0) 1 (.int .i64 a1)) 22 (.bool y2) ∧ Kp s0 s) (fun Gj2 Kj2 => ?_) ?_
  ·
    rcases Bool.eq_false_or_eq_true (decide ((a0.length : Int) > (65536 : Int))) with hb2 | hb2
    ·
      refine sbT hb2 ?_
      rw [if_pos hb2]
      refine uw rfl rfl rfl rfl ?_
      refine uw rfl rfl rfl rfl ?_
      refine uw rfl rfl rfl rfl ?_
      refine uw rfl rfl rfl rfl ?_
      refine pu rfl rfl rfl rfl rfl ?_
      exact Kj2 _ _ _ ⟨s0, _, rfl, (ue (ue (ue rfl rfl) rfl) rfl), kp0⟩
    ·
      refine sbT hb2 ?_
      rw [if_neg (by rw [hb2]; decide)]
      refine mv w0_0 rfl rfl rfl rfl rfl rfl ?_
      refine pu rfl rfl rfl rfl rfl ?_
      refine cl rfl rfl rfl rfl rfl Try.func62 rfl rfl rfl (fun r3 m3 => impl_hasBytes.calls a0 a1 (3 : Int) s0.w (fun b => memb [0] (s0.g b) = true) w0_0 A0_0 r3 m3) ?_
      rintro r3 _ w3 m3 ⟨rfl, ky3⟩
      obtain ⟨s4, rfl, p4, n4⟩ := nwx s0 w3 10 ky3
      refine pu rfl rfl rfl rfl rfl ?_
      refine pu rfl rfl rfl rfl rfl ?_
      have K5 := (kp0.st p4 rfl)
      exact Kj2 _ _ _ ⟨s4, _, rfl, (ue (ue (ue rfl rfl) rfl) rfl), K5⟩
  rintro y2 _ _ ⟨s6, _, rfl, rfl, Ky2⟩
  refine dn ?_
  refine cd rfl (fun h7 => ?_) (fun h7 => ?_)
  ·
    refine sr ?_
    refine pu rfl rfl rfl rfl rfl ?_
    refine pu rfl rfl rfl rfl rfl ?_
    refine pu rfl rfl rfl rfl rfl ?_
    refine pu rfl rfl rfl rfl rfl ?_
    refine dn ?_
    exact re rfl Try.func43 rfl (r_t rfl (r_t rfl (r_t rfl (r_t rfl r_nil)))) rfl ⟨_, rfl, (.slice none 0 0), rfl, (ow_nil 5 (Kd.int .u8) s6 10).fo Ky2 rfl, z.ky Ky2⟩
  ·
    refine sk ?_
    refine sr ?_
    refine mv w0_0 rfl rfl rfl rfl rfl rfl ?_
    refine pu rfl rfl rfl rfl rfl ?_
    have A8 := (A0_0.kp Ky2)
    refine ix A8 Try.underlying24 z5 rfl rfl rfl rfl rfl rfl rfl rfl (fun ad9 es9 h0_9 h1_9 he9 ce9 ia9 => ?_)
    obtain rfl := he9
    refine lc0 ce9 Try.underlying5 rfl rfl rfl rfl rfl rfl rfl rfl ?_
    refine cv Try.underlying3 Try.underlying5 rfl rfl rfl rfl rfl rfl ?_
    refine pu rfl rfl rfl rfl rfl ?_
    refine dn ?_
    refine sr ?_
    refine mv w0_0 rfl rfl rfl rfl rfl rfl ?_
    refine pu rfl rfl rfl rfl rfl ?_
    refine pu rfl rfl rfl rfl rfl ?_
    refine cl rfl rfl rfl rfl rfl Try.func44 rfl rfl rfl (fun r11 m11 => impl_GetNum.calls a0 (IntKind.wrap .i64 (a1 + (1 : Int))) (2 : Int) s6.w (fun b => memb [0] (s6.g b) = true) w0_0 A8 r11 m11) ?_
    rintro r11 _ w11 m11 ⟨rfl, ky11⟩
    obtain ⟨s12, rfl, p12, n12⟩ := nwx s6 w11 11 ky11
    refine pu rfl rfl rfl rfl rfl ?_
    refine pu (v := (.int .i64 r11.1)) rfl rfl rfl rfl rfl ?_
    refine pu (v := (.bool r11.2)) rfl rfl rfl rfl rfl ?_
    refine pu rfl rfl rfl rfl rfl ?_
    refine pu rfl rfl rfl rfl rfl ?_
    refine dn ?_
    refine sq ?_
    refine sr ?_
    refine pu rfl rfl rfl rfl rfl ?_
    refine pu rfl rfl rfl rfl rfl ?_
    refine pu rfl rfl rfl rfl rfl ?_
    refine jy [37, 38, 39, 40] [] 40 (.bool (((IntKind.wrap .i64 (at_ a0 a1)) == (0 : Int)) || (decide (r11.1 > (1000 : Int))))) rfl (fun Kg13 => ?_) (fun j13 => ?_)
    ·
      rcases Bool.eq_false_or_eq_true ((IntKind.wrap .i64 (at_ a0 a1)) == (0 : Int)) with hb13 | hb13
      ·
        refine sbT hb13 ?_
        refine uw rfl rfl rfl rfl ?_
        refine uw rfl rfl rfl rfl ?_
        refine pu rfl rfl rfl rfl rfl ?_
        exact Kg13 _ (Ag.put ((Ag.put ((Ag.put (Ag.base rfl) rfl)) rfl)) rfl) (by rw [hb13]; rfl)
      ·
        refine sbT hb13 ?_
        refine pu rfl rfl rfl rfl rfl ?_
        refine pu rfl rfl rfl rfl rfl ?_
        refine pu rfl rfl rfl rfl rfl ?_
        exact Kg13 _ (Ag.put ((Ag.put ((Ag.put (Ag.base rfl) rfl)) rfl)) rfl) (by rw [hb13]; rfl)
    refine dn ?_
    refine cd rfl (fun h14 => ?_) (fun h14 => ?_)
    ·
      refine sr ?_
      refine pu rfl rfl rfl rfl rfl ?_
      refine pu rfl rfl rfl rfl rfl ?_
      refine pu rfl rfl rfl rfl rfl ?_
      refine pu rfl rfl rfl rfl rfl ?_
      refine dn ?_
      have K15 := (Ky2.st p12 rfl)
      exact re rfl Try.func43 rfl (r_t rfl (r_t rfl (r_t rfl (r_t rfl r_nil)))) rfl ⟨_, rfl, (.slice none 0 0), rfl, (ow_nil 5 (Kd.int .u8) s12 10).fo K15 rfl, z.ky K15⟩
    ·
      refine sk ?_
      refine sr ?_
      refine pu rfl rfl rfl rfl rfl ?_
      refine pu rfl rfl rfl rfl rfl ?_
      refine pu rfl rfl rfl rfl rfl ?_
      refine pu rfl rfl rfl rfl rfl ?_
      refine pu rfl rfl rfl rfl rfl ?_
      refine dn ?_
      refine sr ?_
      refine mv w0_0 rfl rfl rfl rfl rfl rfl ?_
      refine pu rfl rfl rfl rfl rfl ?_
      have K16 := (Ky2.st p12 rfl)
      have A17 := (A0_0.kp K16)
      refine cl rfl rfl rfl rfl rfl Try.func44 rfl rfl rfl (fun r18 m18 => impl_GetNum.calls a0 (IntKind.wrap .i64 ((IntKind.wrap .i64 (a1 + (3 : Int))) + r11.1)) (4 : Int) s12.w (fun b => memb [0] (s12.g b) = true) w0_0 A17 r18 m18) ?_
      rintro r18 _ w18 m18 ⟨rfl, ky18⟩
      obtain ⟨s19, rfl, p19, n19⟩ := nwx s12 w18 12 ky18
      refine pu rfl rfl rfl rfl rfl ?_
      refine pu (v := (.int .i64 r18.1)) rfl rfl rfl rfl rfl ?_
      refine pu (v := (.bool r18.2)) rfl rfl rfl rfl rfl ?_
      refine pu rfl rfl rfl rfl rfl ?_
      refine pu rfl rfl rfl rfl rfl ?_
      refine dn ?_
      refine sq ?_
      refine bl ?_
      refine sr ?_
      refine pu rfl rfl rfl rfl rfl ?_
      refine pu rfl rfl rfl rfl rfl ?_
      refine pu rfl rfl rfl rfl rfl ?_
      refine dn ?_
      refine cd rfl (fun h20 => ?_) (fun h20 => ?_)
      ·
        refine sr ?_
        refine pu rfl rfl rfl rfl rfl ?_
        refine pu rfl rfl rfl rfl rfl ?_
        refine pu rfl rfl rfl rfl rfl ?_
        refine pu rfl rfl rfl rfl rfl ?_
        refine dn ?_
        have K21 := (K16.st p19 rfl)
        exact re rfl Try.func43 rfl (r_t rfl (r_t rfl (r_t rfl (r_t rfl r_nil)))) rfl ⟨_, rfl, (.slice none 0 0), rfl, (ow_nil 5 (Kd.int .u8) s19 10).fo K21 rfl, z.ky K21⟩
      ·
        refine sr ?_
        refine pu rfl rfl rfl rfl rfl ?_
        refine mv w0_0 rfl rfl rfl rfl rfl rfl ?_
        refine pu rfl rfl rfl rfl rfl ?_
        refine pu rfl rfl rfl rfl rfl ?_
        have K22 := (K16.st p19 rfl)
        have A23 := (A0_0.kp K22)
        refine slb A23 Try.underlying24 z5 rfl rfl rfl rfl rfl rfl rfl rfl (fun v24 A24 => ?_)
        refine cl rfl rfl rfl rfl rfl Try.func60 rfl rfl rfl (fun r26 m26 => impl_Crc.calls ((a0.take ((IntKind.wrap .i64 ((IntKind.wrap .i64 (a1 + (3 : Int))) + r11.1))).toNat).drop (a1).toNat) s19.w (fun b => memb [0] (s19.g b) = true) v24 A24 r26 m26) ?_
        rintro r26 _ w26 m26 ⟨rfl, ky26⟩
        obtain ⟨s27, rfl, p27, n27⟩ := nwx s19 w26 13 ky26
        refine pu rfl rfl rfl rfl rfl ?_
        refine pu rfl rfl rfl rfl rfl ?_
        refine dn ?_
        refine cd rfl (fun h28 => ?_) (fun h28 => ?_)
        ·
          refine sr ?_
          refine pu rfl rfl rfl rfl rfl ?_
          refine pu rfl rfl rfl rfl rfl ?_
          refine pu rfl rfl rfl rfl rfl ?_
          refine pu rfl rfl rfl rfl rfl ?_
          refine dn ?_
          have K29 := (K22.st p27 rfl)
          exact re rfl Try.func43 rfl (r_t rfl (r_t rfl (r_t rfl (r_t rfl r_nil)))) rfl ⟨_, rfl, (.slice none 0 0), rfl, (ow_nil 5 (Kd.int .u8) s27 10).fo K29 rfl, z.ky K29⟩
        ·
          refine sk ?_
          refine ib ?_
          refine sr ?_
          refine pu rfl rfl rfl rfl rfl ?_
          refine mv w0_0 rfl rfl rfl rfl rfl rfl ?_
          refine pu rfl rfl rfl rfl rfl ?_
          refine pu rfl rfl rfl rfl rfl ?_
          refine pu rfl rfl rfl rfl rfl ?_
          have K30 := (K22.st p27 rfl)
          have A31 := (A0_0.kp K30)
          refine slb A31 Try.underlying24 z5 rfl rfl rfl rfl rfl rfl rfl rfl (fun v32 A32 => ?_)
          refine cl rfl rfl rfl rfl rfl Try.func59 rfl rfl rfl (fun r34 m34 => slices_Clone_byte_byte.calls ((a0.take ((IntKind.wrap .i64 ((IntKind.wrap .i64 (a1 + (3 : Int))) + r11.1))).toNat).drop ((IntKind.wrap .i64 (a1 + (3 : Int)))).toNat) s27.w (fun b => memb [0] (s27.g b) = true) v32 A32 r34 m34) ?_
          rintro r34 v34_0 w34 m34 ⟨f34_0, ky34⟩
          obtain ⟨s35, rfl, p35, n35⟩ := nwx s27 w34 14 ky34
          have A34_0 := f34_0.c n35
          refine pu rfl rfl rfl rfl rfl ?_
          refine pu rfl rfl rfl rfl rfl ?_
          refine pu rfl rfl rfl rfl rfl ?_
          refine asg v34_0 rfl rfl rfl rfl rfl rfl ?_
          refine pu rfl rfl rfl rfl rfl ?_
          refine pu rfl rfl rfl rfl rfl ?_
          refine dn ?_
          have K37 := (K30.st p35 rfl)
          exact re rfl Try.func43 rfl (r_t rfl (r_t rfl (r_t rfl (r_t rfl r_nil)))) rfl ⟨_, rfl, v34_0, rfl, A34_0.fo K37 rfl, z.ky K37⟩
noncomputable def bytes_Equal.f (a0 : (List Int)) (a1 : (List Int)) : Option (Bool) :=
  (some ((str a0).toList == (str a1).toList))
def bytes_Equal.Q (w : World) (F : Nat → Prop) (r : Bool) (v : Value) (w' : World) : Prop :=
  v = (.bool r) ∧ Ky [] w w'
set_option maxHeartbeats 4000000 in
set_option maxRecDepth 100000 in
theorem bytes_Equal.calls (a0 : (List Int)) (a1 : (List Int)) (w : World) (F : Nat → Prop) (w0_0 : Value) (w1_0 : Value) (h0_0 : (Kd.sl 5 (Kd.int .u8)).rd w [w0_0] a0 F) (h1_0 : (Kd.sl 5 (Kd.int .u8)).rd w [w1_0] a1 F) (r : Bool) (m : bytes_Equal.f a0 a1 = some r) :
    Calls Try.prog 45 #[w0_0, w1_0] w fun en w' => ∃ v, en = .returned v ∧ bytes_Equal.Q w F r v w' := by
  obtain ⟨s0, rfl, kp0, z⟩ := start0 w F
  have A0_0 := z.rd h0_0
  have A1_0 := z.rd h1_0
  refine calls_of_TM (args := [w0_0, w1_0]) (R := fun r en w' => ∃ v, en = .returned v ∧ bytes_Equal.Q s0.w F r v w') Try.func45 Try.ntmps45 rfl rfl m ?_
  unfold bytes_Equal.f
  refine sr ?_
  refine pu rfl rfl rfl rfl rfl ?_
  refine dn ?_
  refine sr ?_
  refine mv w0_0 rfl rfl rfl rfl rfl rfl ?_
  refine b2s A0_0 Try.underlying24 Try.underlying9 Try.underlying5 rfl rfl rfl rfl rfl rfl ?_
  refine mv w1_0 rfl rfl rfl rfl rfl rfl ?_
  refine b2s A1_0 Try.underlying24 Try.underlying9 Try.underlying5 rfl rfl rfl rfl rfl rfl ?_
  refine pu rfl rfl rfl rfl rfl ?_
  refine pu rfl rfl rfl rfl rfl ?_
  refine dn ?_
  exact re rfl Try.func45 rfl (r_t rfl r_nil) rfl ⟨_, rfl, rfl, z.ky kp0⟩
noncomputable def impl_ControlRead.f (a0 : (List Int)) : Option (Control × Bool) :=
  ((impl_FrameAt.f a0 (0 : Int)).bind fun r6 => (if ((r6.2.2.2 != (0 : Int)) || ((r6.2.1.length : Int) != (14 : Int))) = true then (some ((Control.mk (0 : Int) (0 : Int) (0 : Int) (0 : Int) (0 : Int)), false)) else ((impl_GetNum.f r6.2.1 (0 : Int) (4 : Int)).bind fun r18 => ((impl_GetNum.f r6.2.1 (4 : Int) (1 : Int)).bind fun r24 => ((impl_GetNum.f r6.2.1 (5 : Int) (4 : Int)).bind fun r30 => ((impl_GetNum.f r6.2.1 (9 : Int) (4 : Int)).bind fun r36 => ((impl_GetNum.f r6.2.1 (13 : Int) (1 : Int)).bind fun r42 => ((impl_ControlBytes.f (Control.mk r18.1 r24.1 r30.1 r36.1 r42.1)).bind fun r47 => ((if ((r47.length : Int) == (0 : Int)) = true then (some true) else ((bytes_Equal.f r47 a0).bind fun r56 => (some (!r56)))).bind fun y50 => (if y50 = true then (some ((Control.mk (0 : Int) (0 : Int) (0 : Int) (0 : Int) (0 : Int)), false)) else (some ((Control.mk r18.1 r24.1 r30.1 r36.1 r42.1), true))))))))))))
def impl_ControlRead.Q (w : World) (F : Nat → Prop) (r : Control × Bool) (v : Value) (w' : World) : Prop :=
  v = .tuple #[(.agg #[(.int .i64 r.1.Seq), (.int .i64 r.1.Area), (.int .i64 r.1.Lsn), (.int .i64 r.1.Next), (.int .i64 r.1.Pages)]), (.bool r.2)] ∧ Ky [] w w'
set_option maxHeartbeats 4000000 in
set_option maxRecDepth 100000 in
theorem impl_ControlRead.calls (a0 : (List Int)) (w : World) (F : Nat → Prop) (w0_0 : Value) (h0_0 : (Kd.sl 5 (Kd.int .u8)).rd w [w0_0] a0 F) (r : Control × Bool) (m : impl_ControlRead.f a0 = some r) :
    Calls Try.prog 15 #[w0_0] w fun en w' => ∃ v, en = .returned v ∧ impl_ControlRead.Q w F r v w' := by
  obtain ⟨s0, rfl, kp0, z⟩ := start0 w F
  have A0_0 := z.rd h0_0
  refine calls_of_TM (args := [w0_0]) (R := fun r en w' => ∃ v, en = .returned v ∧ impl_ControlRead.Q s0.w F r v w') Try.func15 Try.ntmps15 rfl rfl m ?_
  unfold impl_ControlRead.f
  refine sr ?_
  refine al (cs := [(.int .i64 (0 : Int)), (.int .i64 (0 : Int)), (.int .i64 (0 : Int)), (.int .i64 (0 : Int)), (.int .i64 (0 : Int))]) 10 rfl rfl rfl rfl rfl o26 rfl (fun b2 s2 p2 B2 => ?_)
  refine pu rfl rfl rfl rfl rfl ?_
  refine dn ?_
  refine sr ?_
  refine mv w0_0 rfl rfl rfl rfl rfl rfl ?_
  have K4 := (kp0.st p2 rfl)
  have A5 := (A0_0.kp K4)
  refine cl rfl rfl rfl rfl rfl Try.func43 rfl rfl rfl (fun r6 m6 => impl_FrameAt.calls a0 (0 : Int) s2.w (fun b => memb [0] (s2.g b) = true) w0_0 A5 r6 m6) ?_
  rintro r6 _ w6 m6 ⟨v6_0, rfl, f6_0, ky6⟩
  obtain ⟨s7, rfl, p7, n7⟩ := nwx s2 w6 11 ky6
  have A6_0 := f6_0.c n7
  refine pu rfl rfl rfl rfl rfl ?_
  refine pu (v := (.int .i64 r6.1)) rfl rfl rfl rfl rfl ?_
  refine pu (v := v6_0) rfl rfl rfl rfl rfl ?_
  refine pu (v := (.int .i64 r6.2.2.1)) rfl rfl rfl rfl rfl ?_
  refine pu (v := (.int .i64 r6.2.2.2)) rfl rfl rfl rfl rfl ?_
  refine pu rfl rfl rfl rfl rfl ?_
  refine asg v6_0 rfl rfl rfl rfl rfl rfl ?_
  refine pu rfl rfl rfl rfl rfl ?_
  refine pu rfl rfl rfl rfl rfl ?_
  refine dn ?_
  refine sq ?_
  refine sr ?_
  refine pu rfl rfl rfl rfl rfl ?_
  refine pu rfl rfl rfl rfl rfl ?_
  refine pu rfl rfl rfl rfl rfl ?_
  refine jy [19, 20, 21, 22, 23] [] 23 (.bool ((r6.2.2.2 != (0 : Int)) || ((r6.2.1.length : Int) != (14 : Int)))) rfl (fun Kg9 => ?_) (fun j9 => ?_)
  ·
    rcases Bool.eq_false_or_eq_true (r6.2.2.2 != (0 : Int)) with hb9 | hb9
    ·
      refine sbT hb9 ?_
      refine uw rfl rfl rfl rfl ?_
      refine uw rfl rfl rfl rfl ?_
      refine uw rfl rfl rfl rfl ?_
      refine pu rfl rfl rfl rfl rfl ?_
      exact Kg9 _ (Ag.put ((Ag.put ((Ag.put ((Ag.put (Ag.base rfl) rfl)) rfl)) rfl)) rfl) (by rw [hb9]; rfl)
    ·
      refine sbT hb9 ?_
      refine mv v6_0 rfl rfl rfl rfl rfl rfl ?_
      refine ln A6_0.rd Try.underlying24 rfl rfl rfl rfl rfl rfl ?_
      refine pu rfl rfl rfl rfl rfl ?_
      refine pu rfl rfl rfl rfl rfl ?_
      exact Kg9 _ (Ag.put ((Ag.put ((Ag.put ((Ag.put (Ag.base rfl) rfl)) rfl)) rfl)) rfl) (by rw [hb9]; rfl)
  refine dn ?_
  refine cd rfl (fun h10 => ?_) (fun h10 => ?_)
  ·
    refine sr ?_
    refine bd (cells := [(.int .i64 (0 : Int)), (.int .i64 (0 : Int)), (.int .i64 (0 : Int)), (.int .i64 (0 : Int)), (.int .i64 (0 : Int))]) pl26 o26 rfl rfl rfl rfl rfl rfl ?_
    have A11 := (BlF.st B2 p7 rfl)
    refine sva (vs := [(.int .i64 (0 : Int)), (.int .i64 (0 : Int)), (.int .i64 (0 : Int)), (.int .i64 (0 : Int)), (.int .i64 (0 : Int))]) A11 z26 rfl rfl rfl rfl rfl rfl (on_cons rfl (on_cons rfl (on_cons rfl (on_cons rfl (on_cons rfl on_nil))))) rfl (fun s12 p12 B12 => ?_)
    refine pu rfl rfl rfl rfl rfl ?_
    refine dn ?_
    have K14 := ((K4.st p7 rfl).st p12 rfl)
    exact re rfl Try.func15 rfl (r_b B12 Try.underlying26 rfl z26 rfl (r_t rfl r_nil)) rfl ⟨_, rfl, rfl, z.ky K14⟩
  ·
    refine sk ?_
    refine sr ?_
    refine al (cs := [(.int .i64 (0 : Int)), (.int .i64 (0 : Int)), (.int .i64 (0 : Int)), (.int .i64 (0 : Int)), (.int .i64 (0 : Int))]) 12 rfl rfl rfl rfl rfl o26 rfl (fun b15 s15 p15 B15 => ?_)
    refine dn ?_
    refine sr ?_
    refine mv v6_0 rfl rfl rfl rfl rfl rfl ?_
    have A17 := (A6_0.st p15 rfl)
    refine cl rfl rfl rfl rfl rfl Try.func44 rfl rfl rfl (fun r18 m18 => impl_GetNum.calls r6.2.1 (0 : Int) (4 : Int) s15.w (fun b => memb [11] (s15.g b) = true) v6_0 A17.rd r18 m18) ?_
    rintro r18 _ w18 m18 ⟨rfl, ky18⟩
    obtain ⟨s19, rfl, p19, n19⟩ := nwx s15 w18 13 ky18
    refine pu rfl rfl rfl rfl rfl ?_
    refine pu (v := (.int .i64 r18.1)) rfl rfl rfl rfl rfl ?_
    refine pu (v := (.bool r18.2)) rfl rfl rfl rfl rfl ?_
    refine fa fa26_0 rfl rfl rfl rfl rfl rfl ?_
    have A20 := (BlF.st B15 p19 rfl)
    refine sv A20 z3 rfl rfl rfl rfl rfl rfl rfl rfl (fun s21 p21 B21 => ?_)
    refine dn ?_
    refine sr ?_
    refine mv v6_0 rfl rfl rfl rfl rfl rfl ?_
    have A23 := ((A17.st p19 rfl).st p21 rfl)
    refine cl rfl rfl rfl rfl rfl Try.func44 rfl rfl rfl (fun r24 m24 => impl_GetNum.calls r6.2.1 (4 : Int) (1 : Int) s21.w (fun b => memb [11] (s21.g b) = true) v6_0 A23.rd r24 m24) ?_
    rintro r24 _ w24 m24 ⟨rfl, ky24⟩
    obtain ⟨s25, rfl, p25, n25⟩ := nwx s21 w24 14 ky24
    refine pu rfl rfl rfl rfl rfl ?_
    refine pu (v := (.int .i64 r24.1)) rfl rfl rfl rfl rfl ?_
    refine pu (v := (.bool r24.2)) rfl rfl rfl rfl rfl ?_
    refine fa fa26_1 rfl rfl rfl rfl rfl rfl ?_
    have A26 := (BlF.st B21 p25 rfl)
    refine sv A26 z3 rfl rfl rfl rfl rfl rfl rfl rfl (fun s27 p27 B27 => ?_)
    refine dn ?_
    refine sr ?_
    refine mv v6_0 rfl rfl rfl rfl rfl rfl ?_
    have A29 := ((A23.st p25 rfl).st p27 rfl)
    refine cl rfl rfl rfl rfl rfl Try.func44 rfl rfl rfl (fun r30 m30 => impl_GetNum.calls r6.2.1 (5 : Int) (4 : Int) s27.w (fun b => memb [11] (s27.g b) = true) v6_0 A29.rd r30 m30) ?_
    rintro r30 _ w30 m30 ⟨rfl, ky30⟩
    obtain ⟨s31, rfl, p31, n31⟩ := nwx s27 w30 15 ky30
    refine pu rfl rfl rfl rfl rfl ?_
    refine pu (v := (.int .i64 r30.1)) rfl rfl rfl rfl rfl ?_
    refine pu (v := (.bool r30.2)) rfl rfl rfl rfl rfl ?_
    refine fa fa26_2 rfl rfl rfl rfl rfl rfl ?_
    have A32 := (BlF.st B27 p31 rfl)
    refine sv A32 z3 rfl rfl rfl rfl rfl rfl rfl rfl (fun s33 p33 B33 => ?_)
    refine dn ?_
    refine sr ?_
    refine mv v6_0 rfl rfl rfl rfl rfl rfl ?_
    have A35 := ((A29.st p31 rfl).st p33 rfl)
    refine cl rfl rfl rfl rfl rfl Try.func44 rfl rfl rfl (fun r36 m36 => impl_GetNum.calls r6.2.1 (9 : Int) (4 : Int) s33.w (fun b => memb [11] (s33.g b) = true) v6_0 A35.rd r36 m36) ?_
    rintro r36 _ w36 m36 ⟨rfl, ky36⟩
    obtain ⟨s37, rfl, p37, n37⟩ := nwx s33 w36 16 ky36
    refine pu rfl rfl rfl rfl rfl ?_
    refine pu (v := (.int .i64 r36.1)) rfl rfl rfl rfl rfl ?_
    refine pu (v := (.bool r36.2)) rfl rfl rfl rfl rfl ?_
    refine fa fa26_3 rfl rfl rfl rfl rfl rfl ?_
    have A38 := (BlF.st B33 p37 rfl)
    refine sv A38 z3 rfl rfl rfl rfl rfl rfl rfl rfl (fun s39 p39 B39 => ?_)
    refine dn ?_
    refine sr ?_
    refine mv v6_0 rfl rfl rfl rfl rfl rfl ?_
    have A41 := ((A35.st p37 rfl).st p39 rfl)
    refine cl rfl rfl rfl rfl rfl Try.func44 rfl rfl rfl (fun r42 m42 => impl_GetNum.calls r6.2.1 (13 : Int) (1 : Int) s39.w (fun b => memb [11] (s39.g b) = true) v6_0 A41.rd r42 m42) ?_
    rintro r42 _ w42 m42 ⟨rfl, ky42⟩
    obtain ⟨s43, rfl, p43, n43⟩ := nwx s39 w42 17 ky42
    refine pu rfl rfl rfl rfl rfl ?_
    refine pu (v := (.int .i64 r42.1)) rfl rfl rfl rfl rfl ?_
    refine pu (v := (.bool r42.2)) rfl rfl rfl rfl rfl ?_
    refine fa fa26_4 rfl rfl rfl rfl rfl rfl ?_
    have A44 := (BlF.st B39 p43 rfl)
    refine sv A44 z3 rfl rfl rfl rfl rfl rfl rfl rfl (fun s45 p45 B45 => ?_)
    refine dn ?_
    refine sq ?_
    refine sr ?_
    refine lda (es := [(.int .i64 r18.1), (.int .i64 r24.1), (.int .i64 r30.1), (.int .i64 r36.1), (.int .i64 r42.1)]) B45 Try.underlying26 z26 rfl rfl rfl rfl rfl rfl rfl rfl ?_
    refine cl rfl rfl rfl rfl rfl Try.func9 rfl rfl rfl (fun r47 m47 => impl_ControlBytes.calls (Control.mk r18.1 r24.1 r30.1 r36.1 r42.1) s45.w (fun b => memb [] (s45.g b) = true)  r47 m47) ?_
    rintro r47 v47_0 w47 m47 ⟨f47_0, ky47⟩
    obtain ⟨s48, rfl, p48, n48⟩ := nwx s45 w47 18 ky47
    have A47_0 := f47_0.c n48
    refine asg v47_0 rfl rfl rfl rfl rfl rfl ?_
    refine dn ?_
    refine sr ?_
    refine mv v47_0 rfl rfl rfl rfl rfl rfl ?_
    refine ln A47_0.rd Try.underlying24 rfl rfl rfl rfl rfl rfl ?_
    refine pu rfl rfl rfl rfl rfl ?_
    refine pu rfl rfl rfl rfl rfl ?_
    refine ji [] (fun (y50 : Bool) (e : Env) (w : World) => ∃ (s : St) (e0 : Env), w = s.w ∧ e = upd (upd (upd e0 2 (.pointer (some ⟨b2, 0, none⟩))) 8 (.pointer (some ⟨b15, 0, none⟩))) 65 (.bool y50) ∧ Kp s0 s ∧ BlF s b15 26 [(.int .i64 r18.1), (.int .i64 r24.1), (.int .i64 r30.1), (.int .i64 r36.1), (.int .i64 r42.1)] 12 ∧ BlF s b2 26 [(.int .i64 (0 : Int)), (.int .i64 (0 : Int)), (.int .i64 (0 : Int)), (.int .i64 (0 : Int)), (.int .i64 (0 : Int))] 10) (fun Gj50 Kj50 => ?_) ?_
    ·
      rcases Bool.eq_false_or_eq_true ((r47.length : Int) == (0 : Int)) with hb50 | hb50
      ·
        refine sbT hb50 ?_
        rw [if_pos hb50]
        refine uw rfl rfl rfl rfl ?_
        refine uw rfl rfl rfl rfl ?_
        refine uw rfl rfl rfl rfl ?_
        refine uw rfl rfl rfl rfl ?_
        refine pu rfl rfl rfl rfl rfl ?_
        have A51 := (BlF.st B45 p48 rfl)
        have A52 := (BlF.st (BlF.st (BlF.st (BlF.st (BlF.st (BlF.st (BlF.st (BlF.st (BlF.st (BlF.st (BlF.st (BlF.st (BlF.st B2 p7 rfl) p15 rfl) p19 rfl) p21 rfl) p25 rfl) p27 rfl) p31 rfl) p33 rfl) p37 rfl) p39 rfl) p43 rfl) p45 rfl) p48 rfl)
        have K53 := (((((((((((((K4.st p7 rfl).st p15 rfl).st p19 rfl).st p21 rfl).st p25 rfl).st p27 rfl).st p31 rfl).st p33 rfl).st p37 rfl).st p39 rfl).st p43 rfl).st p45 rfl).st p48 rfl)
        exact Kj50 _ _ _ ⟨s48, _, rfl, (ue (ue (ue rfl rfl) rfl) rfl), K53, A51, A52⟩
      ·
        refine sbT hb50 ?_
        rw [if_neg (by rw [hb50]; decide)]
        refine mv v47_0 rfl rfl rfl rfl rfl rfl ?_
        refine mv w0_0 rfl rfl rfl rfl rfl rfl ?_
        have K54 := (((((((((((((K4.st p7 rfl).st p15 rfl).st p19 rfl).st p21 rfl).st p25 rfl).st p27 rfl).st p31 rfl).st p33 rfl).st p37 rfl).st p39 rfl).st p43 rfl).st p45 rfl).st p48 rfl)
        have A55 := (A0_0.kp K54)
        refine cl rfl rfl rfl rfl rfl Try.func45 rfl rfl rfl (fun r56 m56 => bytes_Equal.calls r47 a0 s48.w (fun b => memb [18, 0] (s48.g b) = true) v47_0 w0_0 (A47_0.rd.sub (D := [18, 0]) rfl) (A55.sub (D := [18, 0]) rfl) r56 m56) ?_
        rintro r56 _ w56 m56 ⟨rfl, ky56⟩
        obtain ⟨s57, rfl, p57, n57⟩ := nwx s48 w56 19 ky56
        refine pu rfl rfl rfl rfl rfl ?_
        refine pu rfl rfl rfl rfl rfl ?_
        have A58 := (BlF.st (BlF.st B45 p48 rfl) p57 rfl)
        have A59 := (BlF.st (BlF.st (BlF.st (BlF.st (BlF.st (BlF.st (BlF.st (BlF.st (BlF.st (BlF.st (BlF.st (BlF.st (BlF.st (BlF.st B2 p7 rfl) p15 rfl) p19 rfl) p21 rfl) p25 rfl) p27 rfl) p31 rfl) p33 rfl) p37 rfl) p39 rfl) p43 rfl) p45 rfl) p48 rfl) p57 rfl)
        have K60 := (K54.st p57 rfl)
        exact Kj50 _ _ _ ⟨s57, _, rfl, (ue (ue (ue rfl rfl) rfl) rfl), K60, A58, A59⟩
    rintro y50 _ _ ⟨s61, _, rfl, rfl, Ky50, By50_b15, By50_b2⟩
    refine dn ?_
    refine cd rfl (fun h64 => ?_) (fun h64 => ?_)
    ·
      refine sr ?_
      refine bd (cells := [(.int .i64 (0 : Int)), (.int .i64 (0 : Int)), (.int .i64 (0 : Int)), (.int .i64 (0 : Int)), (.int .i64 (0 : Int))]) pl26 o26 rfl rfl rfl rfl rfl rfl ?_
      refine sva (vs := [(.int .i64 (0 : Int)), (.int .i64 (0 : Int)), (.int .i64 (0 : Int)), (.int .i64 (0 : Int)), (.int .i64 (0 : Int))]) By50_b2 z26 rfl rfl rfl rfl rfl rfl (on_cons rfl (on_cons rfl (on_cons rfl (on_cons rfl (on_cons rfl on_nil))))) rfl (fun s65 p65 B65 => ?_)
      refine pu rfl rfl rfl rfl rfl ?_
      refine dn ?_
      have K67 := (Ky50.st p65 rfl)
      exact re rfl Try.func15 rfl (r_b B65 Try.underlying26 rfl z26 rfl (r_t rfl r_nil)) rfl ⟨_, rfl, rfl, z.ky K67⟩
    ·
      refine sk ?_
      refine sr ?_
      refine lda (es := [(.int .i64 r18.1), (.int .i64 r24.1), (.int .i64 r30.1), (.int .i64 r36.1), (.int .i64 r42.1)]) By50_b15 Try.underlying26 z26 rfl rfl rfl rfl rfl rfl rfl rfl ?_
      refine sva (vs := [(.int .i64 r18.1), (.int .i64 r24.1), (.int .i64 r30.1), (.int .i64 r36.1), (.int .i64 r42.1)]) By50_b2 z26 rfl rfl rfl rfl rfl rfl (on_cons rfl (on_cons rfl (on_cons rfl (on_cons rfl (on_cons rfl on_nil))))) rfl (fun s68 p68 B68 => ?_)
      refine pu rfl rfl rfl rfl rfl ?_
      refine dn ?_
      have K70 := (Ky50.st p68 rfl)
      exact re rfl Try.func15 rfl (r_b B68 Try.underlying26 rfl z26 rfl (r_t rfl r_nil)) rfl ⟨_, rfl, rfl, z.ky K70⟩
noncomputable def laws_at.f (a0 : (List Int)) (a1 : Int) : Option (Int) :=
  (if (decide (a1 < (a0.length : Int))) = true then (if 0 ≤ a1 ∧ a1 < (a0.length : Int) then (some (IntKind.wrap .i64 (at_ a0 a1))) else none) else (some ((IntKind.wrap .i64 ((IntKind.wrap .i64 (a1 * (7 : Int))) + (a0.length : Int))).tmod (256 : Int))))
def laws_at.Q (w : World) (F : Nat → Prop) (r : Int) (v : Value) (w' : World) : Prop :=
  v = (.int .i64 r) ∧ Ky [] w w'
set_option maxHeartbeats 4000000 in
set_option maxRecDepth 100000 in
theorem laws_at.calls (a0 : (List Int)) (a1 : Int) (w : World) (F : Nat → Prop) (w0_0 : Value) (h0_0 : (Kd.sl 5 (Kd.int .u8)).rd w [w0_0] a0 F) (r : Int) (m : laws_at.f a0 a1 = some r) :
    Calls Try.prog 16 #[w0_0, (.int .i64 a1)] w fun en w' => ∃ v, en = .returned v ∧ laws_at.Q w F r v w' := by
  obtain ⟨s0, rfl, kp0, z⟩ := start0 w F
  have A0_0 := z.rd h0_0
  refine calls_of_TM (args := [w0_0, (.int .i64 a1)]) (R := fun r en w' => ∃ v, en = .returned v ∧ laws_at.Q s0.w F r v w') Try.func16 Try.ntmps16 rfl rfl m ?_
  unfold laws_at.f
  refine sr ?_
  refine pu rfl rfl rfl rfl rfl ?_
  refine dn ?_
  refine sq ?_
  refine sr ?_
  refine pu rfl rfl rfl rfl rfl ?_
  refine mv w0_0 rfl rfl rfl rfl rfl rfl ?_
  refine ln A0_0 Try.underlying24 rfl rfl rfl rfl rfl rfl ?_
  refine pu rfl rfl rfl rfl rfl ?_
  refine dn ?_
  refine cd rfl (fun h2 => ?_) (fun h2 => ?_)
  ·
    refine sr ?_
    refine mv w0_0 rfl rfl rfl rfl rfl rfl ?_
    refine pu rfl rfl rfl rfl rfl ?_
    refine ix A0_0 Try.underlying24 z5 rfl rfl rfl rfl rfl rfl rfl rfl (fun ad3 es3 h0_3 h1_3 he3 ce3 ia3 => ?_)
    obtain rfl := he3
    refine lc0 ce3 Try.underlying5 rfl rfl rfl rfl rfl rfl rfl rfl ?_
    refine cv Try.underlying3 Try.underlying5 rfl rfl rfl rfl rfl rfl ?_
    refine pu rfl rfl rfl rfl rfl ?_
    refine dn ?_
    exact re rfl Try.func16 rfl (r_t rfl r_nil) rfl ⟨_, rfl, rfl, z.ky kp0⟩
  ·
    refine sk ?_
    refine sr ?_
    refine pu rfl rfl rfl rfl rfl ?_
    refine pu rfl rfl rfl rfl rfl ?_
    refine mv w0_0 rfl rfl rfl rfl rfl rfl ?_
    refine ln A0_0 Try.underlying24 rfl rfl rfl rfl rfl rfl ?_
    refine pu rfl rfl rfl rfl rfl ?_
    refine remK rfl rfl rfl rfl rfl rfl rfl rfl ?_
    refine pu rfl rfl rfl rfl rfl ?_
    refine dn ?_
    exact re rfl Try.func16 rfl (r_t rfl r_nil) rfl ⟨_, rfl, rfl, z.ky kp0⟩
noncomputable def laws_FnControls.f (a0 : (List Int)) : Option (Bool) :=
  ((laws_big.f a0).bind fun r2 => (if r2 = true then (some true) else ((spec_DrawControlBytes.f a0).bind fun r8 => ((impl_ControlBytes.f r8).bind fun r14 => ((spec_ControlBytes.f r8).bind fun r18 => (if ((r18.length : Int) == (0 : Int)) = true then (some ((r14.length : Int) == (0 : Int))) else ((impl_ControlRead.f r14).bind fun r25 => ((laws_at.f a0 (2 : Int)).bind fun r33 => (if ([] : (List Int)).length + r14.length ≤ Lim then (if 0 ≤ (r33.tmod (21 : Int)) ∧ (r33.tmod (21 : Int)) < ((([] : (List Int)) ++ r14).length : Int) then ((laws_at.f a0 (3 : Int)).bind fun r56 => (if 0 ≤ (r33.tmod (21 : Int)) ∧ (r33.tmod (21 : Int)) < ((([] : (List Int)) ++ r14).length : Int) then ((impl_ControlRead.f ((([] : (List Int)) ++ r14).set ((r33.tmod (21 : Int))).toNat (IntKind.wrap .u8 (IntKind.wrap .i64 ((IntKind.wrap .i64 ((IntKind.wrap .i64 (at_ (([] : (List Int)) ++ r14) (r33.tmod (21 : Int)))) + (1 : Int))) + (r56.tmod (255 : Int))))))).bind fun r68 => (some (((r25.2 && (beq_Control r25.1 r8)) && ((r14.length : Int) == (64 : Int))) && (!r68.2)))) else none)) else none) else none)))))))))
def laws_FnControls.Q (w : World) (F : Nat → Prop) (r : Bool) (v : Value) (w' : World) : Prop :=
  v = (.bool r) ∧ Ky [] w w'
set_option maxHeartbeats 4000000 in
set_option maxRecDepth 100000 in
theorem laws_FnControls.calls (a0 : (List Int)) (w : World) (F : Nat → Prop) (w0_0 : Value) (h0_0 : (Kd.sl 5 (Kd.int .u8)).rd w [w0_0] a0 F) (r : Bool) (m : laws_FnControls.f a0 = some r) :
    Calls Try.prog 4 #[w0_0] w fun en w' => ∃ v, en = .returned v ∧ laws_FnControls.Q w F r v w' := by
  obtain ⟨s0, rfl, kp0, z⟩ := start0 w F
  have A0_0 := z.rd h0_0
  refine calls_of_TM (args := [w0_0]) (R := fun r en w' => ∃ v, en = .returned v ∧ laws_FnControls.Q s0.w F r v w') Try.func4 Try.ntmps4 rfl rfl m ?_
  unfold laws_FnControls.f
  refine sr ?_
  refine pu rfl rfl rfl rfl rfl ?_
  refine dn ?_
  refine sq ?_
  refine sr ?_
  refine mv w0_0 rfl rfl rfl rfl rfl rfl ?_
  refine cl rfl rfl rfl rfl rfl Try.func13 rfl rfl rfl (fun r2 m2 => laws_big.calls a0 s0.w (fun b => memb [0] (s0.g b) = true) w0_0 A0_0 r2 m2) ?_
  rintro r2 _ w2 m2 ⟨rfl, ky2⟩
  obtain ⟨s3, rfl, p3, n3⟩ := nwx s0 w2 10 ky2
  refine dn ?_
  refine cd rfl (fun h4 => ?_) (fun h4 => ?_)
  ·
    refine sr ?_
    refine pu rfl rfl rfl rfl rfl ?_
    refine dn ?_
    have K5 := (kp0.st p3 rfl)
    exact re rfl Try.func4 rfl (r_t rfl r_nil) rfl ⟨_, rfl, rfl, z.ky K5⟩
  ·
    refine sk ?_
    refine sr ?_
    refine mv w0_0 rfl rfl rfl rfl rfl rfl ?_
    have K6 := (kp0.st p3 rfl)
    have A7 := (A0_0.kp K6)
    refine cl rfl rfl rfl rfl rfl Try.func14 rfl rfl rfl (fun r8 m8 => spec_DrawControlBytes.calls a0 s3.w (fun b => memb [0] (s3.g b) = true) w0_0 A7 r8 m8) ?_
    rintro r8 _ w8 m8 ⟨rfl, ky8⟩
    obtain ⟨s9, rfl, p9, n9⟩ := nwx s3 w8 11 ky8
    refine al (cs := [(.int .i64 (0 : Int)), (.int .i64 (0 : Int)), (.int .i64 (0 : Int)), (.int .i64 (0 : Int)), (.int .i64 (0 : Int))]) 12 rfl rfl rfl rfl rfl o26 rfl (fun b10 s10 p10 B10 => ?_)
    refine sva (vs := [(.int .i64 r8.Seq), (.int .i64 r8.Area), (.int .i64 r8.Lsn), (.int .i64 r8.Next), (.int .i64 r8.Pages)]) B10 z26 rfl rfl rfl rfl rfl rfl (on_cons rfl (on_cons rfl (on_cons rfl (on_cons rfl (on_cons rfl on_nil))))) rfl (fun s12 p12 B12 => ?_)
    refine dn ?_
    refine sr ?_
    refine lda (es := [(.int .i64 r8.Seq), (.int .i64 r8.Area), (.int .i64 r8.Lsn), (.int .i64 r8.Next), (.int .i64 r8.Pages)]) B12 Try.underlying26 z26 rfl rfl rfl rfl rfl rfl rfl rfl ?_
    refine cl rfl rfl rfl rfl rfl Try.func9 rfl rfl rfl (fun r14 m14 => impl_ControlBytes.calls r8 s12.w (fun b => memb [] (s12.g b) = true)  r14 m14) ?_
    rintro r14 v14_0 w14 m14 ⟨f14_0, ky14⟩
    obtain ⟨s15, rfl, p15, n15⟩ := nwx s12 w14 13 ky14
    have A14_0 := f14_0.c n15
    refine asg v14_0 rfl rfl rfl rfl rfl rfl ?_
    refine dn ?_
    refine sq ?_
    refine sr ?_
    have A17 := (BlF.st B12 p15 rfl)
    refine lda (es := [(.int .i64 r8.Seq), (.int .i64 r8.Area), (.int .i64 r8.Lsn), (.int .i64 r8.Next), (.int .i64 r8.Pages)]) A17 Try.underlying26 z26 rfl rfl rfl rfl rfl rfl rfl rfl ?_
    refine cl rfl rfl rfl rfl rfl Try.func7 rfl rfl rfl (fun r18 m18 => spec_ControlBytes.calls r8 s15.w (fun b => memb [] (s15.g b) = true)  r18 m18) ?_
    rintro r18 v18_0 w18 m18 ⟨f18_0, ky18⟩
    obtain ⟨s19, rfl, p19, n19⟩ := nwx s15 w18 14 ky18
    have A18_0 := f18_0.c n19
    refine ln A18_0.rd Try.underlying24 rfl rfl rfl rfl rfl rfl ?_
    refine pu rfl rfl rfl rfl rfl ?_
    refine dn ?_
    refine cd rfl (fun h21 => ?_) (fun h21 => ?_)
    ·
      refine sr ?_
      refine mv v14_0 rfl rfl rfl rfl rfl rfl ?_
      have A22 := (A14_0.st p19 rfl)
      refine ln A22.rd Try.underlying24 rfl rfl rfl rfl rfl rfl ?_
      refine pu rfl rfl rfl rfl rfl ?_
      refine pu rfl rfl rfl rfl rfl ?_
      refine dn ?_
      have K23 := (((((K6.st p9 rfl).st p10 rfl).st p12 rfl).st p15 rfl).st p19 rfl)
      exact re rfl Try.func4 rfl (r_t rfl r_nil) rfl ⟨_, rfl, rfl, z.ky K23⟩
    ·
      refine sk ?_
      refine sr ?_
      refine mv v14_0 rfl rfl rfl rfl rfl rfl ?_
      have A24 := (A14_0.st p19 rfl)
      refine cl rfl rfl rfl rfl rfl Try.func15 rfl rfl rfl (fun r25 m25 => impl_ControlRead.calls r14 s19.w (fun b => memb [13] (s19.g b) = true) v14_0 A24.rd r25 m25) ?_
      rintro r25 _ w25 m25 ⟨rfl, ky25⟩
      obtain ⟨s26, rfl, p26, n26⟩ := nwx s19 w25 15 ky25
      refine pu rfl rfl rfl rfl rfl ?_
      refine pu (v := (.agg #[(.int .i64 r25.1.Seq), (.int .i64 r25.1.Area), (.int .i64 r25.1.Lsn), (.int .i64 r25.1.Next), (.int .i64 r25.1.Pages)])) rfl rfl rfl rfl rfl ?_
      refine pu (v := (.bool r25.2)) rfl rfl rfl rfl rfl ?_
      refine al (cs := [(.int .i64 (0 : Int)), (.int .i64 (0 : Int)), (.int .i64 (0 : Int)), (.int .i64 (0 : Int)), (.int .i64 (0 : Int))]) 16 rfl rfl rfl rfl rfl o26 rfl (fun b27 s27 p27 B27 => ?_)
      refine sva (vs := [(.int .i64 r25.1.Seq), (.int .i64 r25.1.Area), (.int .i64 r25.1.Lsn), (.int .i64 r25.1.Next), (.int .i64 r25.1.Pages)]) B27 z26 rfl rfl rfl rfl rfl rfl (on_cons rfl (on_cons rfl (on_cons rfl (on_cons rfl (on_cons rfl on_nil))))) rfl (fun s29 p29 B29 => ?_)
      refine pu rfl rfl rfl rfl rfl ?_
      refine dn ?_
      refine sr ?_
      refine mv w0_0 rfl rfl rfl rfl rfl rfl ?_
      have K31 := ((((((((K6.st p9 rfl).st p10 rfl).st p12 rfl).st p15 rfl).st p19 rfl).st p26 rfl).st p27 rfl).st p29 rfl)
      have A32 := (A0_0.kp K31)
      refine cl rfl rfl rfl rfl rfl Try.func16 rfl rfl rfl (fun r33 m33 => laws_at.calls a0 (2 : Int) s29.w (fun b => memb [0] (s29.g b) = true) w0_0 A32 r33 m33) ?_
      rintro r33 _ w33 m33 ⟨rfl, ky33⟩
      obtain ⟨s34, rfl, p34, n34⟩ := nwx s29 w33 17 ky33
      refine remK rfl rfl rfl rfl rfl rfl rfl rfl ?_
      refine pu rfl rfl rfl rfl rfl ?_
      refine dn ?_
      refine sr ?_
      refine lt0 (K := (Kd.int .u8)) 18 Try.underlying24 z5 rfl rfl rfl rfl rfl (fun v35 s35 p35 A35 => ?_)
      refine mv v14_0 rfl rfl rfl rfl rfl rfl ?_
      have A37 := (((((A24.st p26 rfl).st p27 rfl).st p29 rfl).st p34 rfl).st p35 rfl)
      refine apF fl_int sl24 A35 A37.rd rfl rfl rfl rfl rfl rfl rfl (fun v38 s38 p38 A38 => ?_)
      refine asg v38 rfl rfl rfl rfl rfl rfl ?_
      refine dn ?_
      refine sq ?_
      refine zdraw [[], [], [], [], [2, 3], [4], [5], [6], [], [8], [9], [7, 10], [11], [0, 1, 0, 1, 2, 3, 4, 5, 6, 7, 8, 9, 10, 11, 12], [13, 12, 9, 0, 1, 2, 3, 4, 5, 6, 7, 8, 9, 10, 11, 12]] [some 35, some 36, some 37, some 38, some 39, some 40, some 41, some 42, some 43, some 44, some 45, some 46, some 47, some 48, none] [[8], [7], [8], [7], [37, 38], [39], [40], [41], [0], [43], [44], [42, 45], [46], [35, 36], [48, 47]] [0, 1, 2, 3, 4, 5, 6, 7, 8, 9, 10, 11, 12, 13, 14] ⟨by kernel_rfl, by kernel_rfl, by kernel_rfl⟩ (by kernel_rfl) (fun s40 p40 l40 tb40 zd40 => ?_)
      have zd41 := zd40.add 0 35 v38 rfl
      have zd42 := zd41.add 1 36 (.int .i64 (r33.tmod (21 : Int))) rfl
      have zd43 := zd42.add 2 37 v38 rfl
      have zd44 := zd43.add 3 38 (.int .i64 (r33.tmod (21 : Int))) rfl
      have A45 := (A38.st p40 rfl)
      refine mg fun hg46 => ?_
      obtain ⟨ad46, es46, he46, ce46, ia46⟩ := ix_e A45.rd rfl hg46.1 hg46.2
      have h0_46 := hg46.1
      have h1_46 := hg46.2
      obtain rfl := he46
      have zd48 := zd44.add 4 39 (.pointer (some ad46)) rfl
      have zd49 := zd48.add 5 40 (.int .u8 (at_ (([] : (List Int)) ++ r14) (r33.tmod (21 : Int)))) rfl
      have zd50 := zd49.add 6 41 (.int .i64 (IntKind.wrap .i64 (at_ (([] : (List Int)) ++ r14) (r33.tmod (21 : Int))))) rfl
      have zd51 := zd50.add 7 42 (.int .i64 (IntKind.wrap .i64 ((IntKind.wrap .i64 (at_ (([] : (List Int)) ++ r14) (r33.tmod (21 : Int)))) + (1 : Int)))) rfl
      have zd52 := zd51.add 8 43 w0_0 rfl
      refine zstep 9 [some 42, some 41, some 40, some 39, some 38, some 37, some 36, some 35] tb40 zd52 (pq_cons (mv_q w0_0 rfl rfl rfl rfl rfl rfl) rfl (pq_cons (pu_q rfl rfl rfl rfl rfl rfl) rfl (pq_cons (cv_q Try.underlying3 Try.underlying5 rfl rfl rfl rfl rfl rfl) rfl (pq_cons (lc0_q ce46 Try.underlying5 rfl rfl rfl rfl rfl rfl rfl rfl) rfl (pq_cons (ix_q A45.rd Try.underlying24 z5 hg46.1 hg46.2 ia46 rfl rfl rfl rfl rfl rfl rfl) rfl (pq_cons (pu_q rfl rfl rfl rfl rfl rfl) rfl (pq_cons (mv_q v38 rfl rfl rfl rfl rfl rfl) rfl (pq_cons (pu_q rfl rfl rfl rfl rfl rfl) rfl (pq_cons (mv_q v38 rfl rfl rfl rfl rfl rfl) rfl pq_nil))))))))) (by kernel_rfl) rfl (fun l53 e53 zd53 => ?_)
      have K54 := ((((K31.st p34 rfl).st p35 rfl).st p38 rfl).st p40 rfl)
      have A55 := (A0_0.kp K54)
      refine cl rfl rfl rfl rfl rfl Try.func16 rfl rfl rfl (fun r56 m56 => laws_at.calls a0 (3 : Int) s40.w (fun b => memb [0] (s40.g b) = true) w0_0 A55 r56 m56) ?_
      rintro r56 _ w56 m56 ⟨rfl, ky56⟩
      obtain ⟨s57, rfl, p57, n57⟩ := nwx s40 w56 19 ky56
      refine zdone (L' := [7, 6, 5, 4, 3, 2, 1, 0]) (D' := [8, 9]) zd53 rfl rfl rfl (fun zd58 => ?_)
      have zd59 := zd58.add 10 45 (.int .i64 (r56.tmod (255 : Int))) rfl
      have zd60 := zd59.add 11 46 (.int .i64 (IntKind.wrap .i64 ((IntKind.wrap .i64 ((IntKind.wrap .i64 (at_ (([] : (List Int)) ++ r14) (r33.tmod (21 : Int)))) + (1 : Int))) + (r56.tmod (255 : Int))))) rfl
      have zd61 := zd60.add 12 47 (.int .u8 (IntKind.wrap .u8 (IntKind.wrap .i64 ((IntKind.wrap .i64 ((IntKind.wrap .i64 (at_ (([] : (List Int)) ++ r14) (r33.tmod (21 : Int)))) + (1 : Int))) + (r56.tmod (255 : Int)))))) rfl
      have A62 := (A45.st p57 rfl)
      have ce63 := (ce46.st p57 rfl rfl)
      refine zfin [13, 14] tb40 zd61 (pq_cons (cv_q Try.underlying5 Try.underlying3 rfl rfl rfl rfl rfl rfl) rfl (pq_cons (pu_q rfl rfl rfl rfl rfl rfl) rfl (pq_cons (remK_q rfl rfl rfl rfl rfl rfl rfl rfl) rfl (pq_cons (pu_q rfl rfl rfl rfl rfl rfl) rfl (pq_cons (cv_q Try.underlying3 Try.underlying5 rfl rfl rfl rfl rfl rfl) rfl (pq_cons (lc0_q ce63 Try.underlying5 rfl rfl rfl rfl rfl rfl rfl rfl) rfl (pq_cons (ix_q A62.rd Try.underlying24 z5 hg46.1 hg46.2 ia46 rfl rfl rfl rfl rfl rfl rfl) rfl (pq_cons (pu_q rfl rfl rfl rfl rfl rfl) rfl (pq_cons (mv_q v38 rfl rfl rfl rfl rfl rfl) rfl (pq_cons (pu_q rfl rfl rfl rfl rfl rfl) rfl (pq_cons (mv_q v38 rfl rfl rfl rfl rfl rfl) rfl pq_nil))))))))))) (by kernel_rfl) (by decide) ?_
      refine ix A62.rd Try.underlying24 z5 rfl rfl rfl rfl rfl rfl rfl rfl (fun ad64 es64 h0_64 h1_64 he64 ce64 ia64 => ?_)
      obtain rfl := he64
      refine so (x' := (IntKind.wrap .u8 (IntKind.wrap .i64 ((IntKind.wrap .i64 ((IntKind.wrap .i64 (at_ (([] : (List Int)) ++ r14) (r33.tmod (21 : Int)))) + (1 : Int))) + (r56.tmod (255 : Int)))))) A62 ia64 h0_64 h1_64 cs_flat z5 rfl rfl rfl rfl rfl rfl (fun s66 p66 A66 => ?_)
      refine dn ?_
      refine sr ?_
      refine mv v38 rfl rfl rfl rfl rfl rfl ?_
      refine cl rfl rfl rfl rfl rfl Try.func15 rfl rfl rfl (fun r68 m68 => impl_ControlRead.calls ((([] : (List Int)) ++ r14).set ((r33.tmod (21 : Int))).toNat (IntKind.wrap .u8 (IntKind.wrap .i64 ((IntKind.wrap .i64 ((IntKind.wrap .i64 (at_ (([] : (List Int)) ++ r14) (r33.tmod (21 : Int)))) + (1 : Int))) + (r56.tmod (255 : Int)))))) s66.w (fun b => memb [18] (s66.g b) = true) v38 A66.rd r68 m68) ?_
      rintro r68 _ w68 m68 ⟨rfl, ky68⟩
      obtain ⟨s69, rfl, p69, n69⟩ := nwx s66 w68 20 ky68
      refine pu rfl rfl rfl rfl rfl ?_
      refine pu (v := (.agg #[(.int .i64 r68.1.Seq), (.int .i64 r68.1.Area), (.int .i64 r68.1.Lsn), (.int .i64 r68.1.Next), (.int .i64 r68.1.Pages)])) rfl rfl rfl rfl rfl ?_
      refine pu (v := (.bool r68.2)) rfl rfl rfl rfl rfl ?_
      refine al (cs := [(.int .i64 (0 : Int)), (.int .i64 (0 : Int)), (.int .i64 (0 : Int)), (.int .i64 (0 : Int)), (.int .i64 (0 : Int))]) 21 rfl rfl rfl rfl rfl o26 rfl (fun b70 s70 p70 B70 => ?_)
      refine sva (vs := [(.int .i64 r68.1.Seq), (.int .i64 r68.1.Area), (.int .i64 r68.1.Lsn), (.int .i64 r68.1.Next), (.int .i64 r68.1.Pages)]) B70 z26 rfl rfl rfl rfl rfl rfl (on_cons rfl (on_cons rfl (on_cons rfl (on_cons rfl (on_cons rfl on_nil))))) rfl (fun s72 p72 B72 => ?_)
      refine pu rfl rfl rfl rfl rfl ?_
      refine dn ?_
      refine sr ?_
      refine pu rfl rfl rfl rfl rfl ?_
      refine pu rfl rfl rfl rfl rfl ?_
      refine jy [55, 56, 57, 58, 59] [6, 7, 8, 9, 10, 11, 12, 13, 14, 15] 59 (.bool (r25.2 && (beq_Control r25.1 r8))) rfl (fun Kg74 => ?_) (fun j74 => ?_)
      ·
        rcases Bool.eq_false_or_eq_true r25.2 with hb74 | hb74
        ·
          refine sbT hb74 ?_
          have A75 := (BlF.st (BlF.st (BlF.st (BlF.st (BlF.st (BlF.st (BlF.st (BlF.st (BlF.st B29 p34 rfl) p35 rfl) p38 rfl) p40 rfl) p57 rfl) p66 rfl) p69 rfl) p70 rfl) p72 rfl)
          refine lda (es := [(.int .i64 r25.1.Seq), (.int .i64 r25.1.Area), (.int .i64 r25.1.Lsn), (.int .i64 r25.1.Next), (.int .i64 r25.1.Pages)]) A75 Try.underlying26 z26 rfl rfl rfl rfl rfl rfl rfl rfl ?_
          have A76 := (BlF.st (BlF.st (BlF.st (BlF.st (BlF.st (BlF.st (BlF.st (BlF.st (BlF.st (BlF.st (BlF.st (BlF.st (BlF.st A17 p19 rfl) p26 rfl) p27 rfl) p29 rfl) p34 rfl) p35 rfl) p38 rfl) p40 rfl) p57 rfl) p66 rfl) p69 rfl) p70 rfl) p72 rfl)
          refine lda (es := [(.int .i64 r8.Seq), (.int .i64 r8.Area), (.int .i64 r8.Lsn), (.int .i64 r8.Next), (.int .i64 r8.Pages)]) A76 Try.underlying26 z26 rfl rfl rfl rfl rfl rfl rfl rfl ?_
          refine seq_ eg26 (fun w => eq26 r25.1 r8 w _) rfl rfl rfl rfl rfl rfl rfl ?_
          refine pu rfl rfl rfl rfl rfl ?_
          exact Kg74 _ (Ag.put ((Ag.put ((Ag.put ((Ag.put (Ag.base rfl) rfl)) rfl)) rfl)) rfl) (by rw [hb74]; rfl)
        ·
          refine sbT hb74 ?_
          refine uw rfl rfl rfl rfl ?_
          refine uw rfl rfl rfl rfl ?_
          refine uw rfl rfl rfl rfl ?_
          refine pu rfl rfl rfl rfl rfl ?_
          exact Kg74 _ (Ag.put ((Ag.put ((Ag.put ((Ag.put (Ag.base rfl) rfl)) rfl)) rfl)) rfl) (by rw [hb74]; rfl)
      refine pu rfl rfl rfl rfl rfl ?_
      refine jy [60, 61, 62, 63, 64] [11, 12, 13, 14, 15] 64 (.bool ((r25.2 && (beq_Control r25.1 r8)) && ((r14.length : Int) == (64 : Int)))) rfl (fun Kg77 => ?_) (fun j77 => ?_)
      ·
        rcases Bool.eq_false_or_eq_true (r25.2 && (beq_Control r25.1 r8)) with hb77 | hb77
        ·
          refine sbT hb77 ?_
          refine mv v14_0 rfl rfl rfl rfl rfl rfl ?_
          have A78 := (((((((A37.st p38 rfl).st p40 rfl).st p57 rfl).st p66 rfl).st p69 rfl).st p70 rfl).st p72 rfl)
          refine ln A78.rd Try.underlying24 rfl rfl rfl rfl rfl rfl ?_
          refine pu rfl rfl rfl rfl rfl ?_
          refine pu rfl rfl rfl rfl rfl ?_
          exact Kg77 _ (Ag.put ((Ag.put ((Ag.put ((Ag.put (Ag.base rfl) rfl)) rfl)) rfl)) rfl) (by rw [hb77]; rfl)
        ·
          refine sbT hb77 ?_
          refine uw rfl rfl rfl rfl ?_
          refine uw rfl rfl rfl rfl ?_
          refine uw rfl rfl rfl rfl ?_
          refine pu rfl rfl rfl rfl rfl ?_
          exact Kg77 _ (Ag.put ((Ag.put ((Ag.put ((Ag.put (Ag.base rfl) rfl)) rfl)) rfl)) rfl) (by rw [hb77]; rfl)
      refine pu rfl rfl rfl rfl rfl ?_
      refine jy [65, 66, 67, 68] [15] 68 (.bool (((r25.2 && (beq_Control r25.1 r8)) && ((r14.length : Int) == (64 : Int))) && (!r68.2))) rfl (fun Kg79 => ?_) (fun j79 => ?_)
      ·
        rcases Bool.eq_false_or_eq_true ((r25.2 && (beq_Control r25.1 r8)) && ((r14.length : Int) == (64 : Int))) with hb79 | hb79
        ·
          refine sbT hb79 ?_
          refine pu rfl rfl rfl rfl rfl ?_
          refine pu rfl rfl rfl rfl rfl ?_
          refine pu rfl rfl rfl rfl rfl ?_
          exact Kg79 _ (Ag.put ((Ag.put ((Ag.put (Ag.base rfl) rfl)) rfl)) rfl) (by rw [hb79]; rfl)
        ·
          refine sbT hb79 ?_
          refine uw rfl rfl rfl rfl ?_
          refine uw rfl rfl rfl rfl ?_
          refine pu rfl rfl rfl rfl rfl ?_
          exact Kg79 _ (Ag.put ((Ag.put ((Ag.put (Ag.base rfl) rfl)) rfl)) rfl) (by rw [hb79]; rfl)
      refine pu rfl rfl rfl rfl rfl ?_
      refine dn ?_
      have K80 := (((((K54.st p57 rfl).st p66 rfl).st p69 rfl).st p70 rfl).st p72 rfl)
      exact re rfl Try.func4 rfl (r_t rfl r_nil) rfl ⟨_, rfl, rfl, z.ky K80⟩
noncomputable def laws_toByteS.b0 (a0 : (List Int)) (x4 : (List Int) × Int) : Option (((List Int) × Int) ⊕ (List Int)) :=
  (if (decide (x4.2 < (a0.length : Int))) = true then (if 0 ≤ x4.2 ∧ x4.2 < (a0.length : Int) then (if 0 ≤ x4.2 ∧ x4.2 < (x4.1.length : Int) then (some (.inl ((x4.1.set (x4.2).toNat (at_ a0 x4.2)), (IntKind.wrap .i64 (x4.2 + (1 : Int)))))) else none) else none) else ((some x4.1).bind fun o => some (.inr o)))
noncomputable def laws_toByteS.f (a0 : (List Int)) : Option ((List Int)) :=
  (if 0 ≤ (a0.length : Int) ∧ (a0.length : Int) ≤ (Lim : Int) then (iter (laws_toByteS.b0 a0) ((List.replicate ((a0.length : Int)).toNat (0 : Int)), (0 : Int))) else none)
def laws_toByteS.Q (w : World) (F : Nat → Prop) (r : (List Int)) (v : Value) (w' : World) : Prop :=
  FO (Kd.sl 5 (Kd.int .u8)) w w' [v] r ∧ Ky [] w w'
set_option maxHeartbeats 4000000 in
set_option maxRecDepth 100000 in
theorem laws_toByteS.calls (a0 : (List Int)) (w : World) (F : Nat → Prop) (w0_0 : Value) (h0_0 : (Kd.sl 5 (Kd.int .u8)).rd w [w0_0] a0 F) (r : (List Int)) (m : laws_toByteS.f a0 = some r) :
    Calls Try.prog 18 #[w0_0] w fun en w' => ∃ v, en = .returned v ∧ laws_toByteS.Q w F r v w' := by
  obtain ⟨s0, rfl, kp0, z⟩ := start0 w F
  have A0_0 := z.rd h0_0
  refine calls_of_TM (args := [w0_0]) (R := fun r en w' => ∃ v, en = .returned v ∧ laws_toByteS.Q s0.w F r v w') Try.func18 Try.ntmps18 rfl rfl m ?_
  unfold laws_toByteS.f
  refine sr ?_
  refine pu rfl rfl rfl rfl rfl ?_
  refine dn ?_
  refine sr ?_
  refine mv w0_0 rfl rfl rfl rfl rfl rfl ?_
  refine ln A0_0 Try.underlying24 rfl rfl rfl rfl rfl rfl ?_
  refine mk (x0 := (0 : Int)) (K := (Kd.int .u8)) 10 sl24 o5 (fun _ => ⟨rfl, rfl⟩) rfl rfl rfl rfl rfl rfl rfl (fun v2 s2 p2 A2 => ?_)
  refine asg v2 rfl rfl rfl rfl rfl rfl ?_
  refine dn ?_
  refine sq ?_
  refine sr ?_
  refine pu rfl rfl rfl rfl rfl ?_
  refine dn ?_
  refine bl ?_
  have K5 := (kp0.st p2 rfl)
  refine lpI (fun (x4 : (List Int) × Int) (e : Env) (w : World) => ∃ (s : St) (e0 : Env), w = s.w ∧ e = upd (upd (upd e0 0 w0_0) 3 v2) 4 (.int .i64 x4.2) ∧ Kp s0 s ∧ OwF (Kd.sl 5 (Kd.int .u8)) s [v2] x4.1 10) ⟨s2, _, rfl, (ue (ue (ue rfl rfl) rfl) rfl), K5, A2⟩ (fun g4 ih4 => ?_)
  rintro x4 _ _ ⟨s6, _, rfl, rfl, Kx4, Ax4_0⟩
  unfold laws_toByteS.b0
  refine sq ?_
  refine sr ?_
  refine pu rfl rfl rfl rfl rfl ?_
  refine mv w0_0 rfl rfl rfl rfl rfl rfl ?_
  have A8 := (A0_0.kp Kx4)
  refine ln A8 Try.underlying24 rfl rfl rfl rfl rfl rfl ?_
  refine pu rfl rfl rfl rfl rfl ?_
  refine dn ?_
  refine cd rfl (fun h9 => ?_) (fun h9 => ?_)
  ·
    refine sk ?_
    refine sq ?_
    refine bl ?_
    refine rg ?_
    refine mv v2 rfl rfl rfl rfl rfl rfl ?_
    refine pu rfl rfl rfl rfl rfl ?_
    refine mv w0_0 rfl rfl rfl rfl rfl rfl ?_
    refine pu rfl rfl rfl rfl rfl ?_
    refine ix A8 Try.underlying24 z5 rfl rfl rfl rfl rfl rfl rfl rfl (fun ad10 es10 h0_10 h1_10 he10 ce10 ia10 => ?_)
    obtain rfl := he10
    refine lc0 ce10 Try.underlying5 rfl rfl rfl rfl rfl rfl rfl rfl ?_
    refine ix Ax4_0.rd Try.underlying24 z5 rfl rfl rfl rfl rfl rfl rfl rfl (fun ad12 es12 h0_12 h1_12 he12 ce12 ia12 => ?_)
    obtain rfl := he12
    refine so (x' := (at_ a0 x4.2)) Ax4_0 ia12 h0_12 h1_12 cs_flat z5 rfl rfl rfl rfl rfl rfl (fun s14 p14 A14 => ?_)
    refine dn ?_
    refine ib ?_
    refine rg ?_
    refine pu rfl rfl rfl rfl rfl ?_
    refine pu rfl rfl rfl rfl rfl ?_
    refine pu rfl rfl rfl rfl rfl ?_
    refine dn ?_
    have K16 := (Kx4.st p14 rfl)
    exact lb ih4 ⟨s14, _, rfl, (ue (ue (ue rfl rfl) rfl) rfl), K16, A14⟩
  ·
    refine xt rfl ?_
    refine sgb ?_
    refine sr ?_
    refine mv v2 rfl rfl rfl rfl rfl rfl ?_
    refine asg v2 rfl rfl rfl rfl rfl rfl ?_
    refine dn ?_
    exact re rfl Try.func18 rfl (r_t rfl r_nil) rfl ⟨_, rfl, Ax4_0.fo Kx4 rfl, z.ky Kx4⟩
noncomputable def spec_GetNum.b0 (a0 : (List Int)) (a1 : Int) (x7 : Int × Int) : Option ((Int × Int) ⊕ (Int × Bool)) :=
  (if (decide (x7.2 ≥ (0 : Int))) = true then (if 0 ≤ (IntKind.wrap .i64 (a1 + x7.2)) ∧ (IntKind.wrap .i64 (a1 + x7.2)) < (a0.length : Int) then (if ((x7.2 == (7 : Int)) && (decide ((IntKind.wrap .i64 (at_ a0 (IntKind.wrap .i64 (a1 + x7.2)))) > (127 : Int)))) = true then (some (.inr ((0 : Int), false))) else (some (.inl ((IntKind.wrap .i64 ((IntKind.wrap .i64 (x7.1 * (256 : Int))) + (IntKind.wrap .i64 (at_ a0 (IntKind.wrap .i64 (a1 + x7.2)))))), (IntKind.wrap .i64 (x7.2 - (1 : Int))))))) else none) else ((some (x7.1, true)).bind fun o => some (.inr o)))
noncomputable def spec_GetNum.f (a0 : (List Int)) (a1 : Int) (a2 : Int) : Option (Int × Bool) :=
  (if (((((decide (a2 < (1 : Int))) || (decide (a2 > (8 : Int)))) || (decide (a1 < (0 : Int)))) || (decide (a1 > (a0.length : Int)))) || (decide (a2 > (IntKind.wrap .i64 ((a0.length : Int) - a1))))) = true then (some ((0 : Int), false)) else (iter (spec_GetNum.b0 a0 a1) ((0 : Int), (IntKind.wrap .i64 (a2 - (1 : Int))))))
def spec_GetNum.Q (w : World) (F : Nat → Prop) (r : Int × Bool) (v : Value) (w' : World) : Prop :=
  v = .tuple #[(.int .i64 r.1), (.bool r.2)] ∧ Ky [] w w'
set_option maxHeartbeats 4000000 in
set_option maxRecDepth 100000 in
theorem spec_GetNum.calls (a0 : (List Int)) (a1 : Int) (a2 : Int) (w : World) (F : Nat → Prop) (w0_0 : Value) (h0_0 : (Kd.sl 5 (Kd.int .u8)).rd w [w0_0] a0 F) (r : Int × Bool) (m : spec_GetNum.f a0 a1 a2 = some r) :
    Calls Try.prog 46 #[w0_0, (.int .i64 a1), (.int .i64 a2)] w fun en w' => ∃ v, en = .returned v ∧ spec_GetNum.Q w F r v w' := by
  obtain ⟨s0, rfl, kp0, z⟩ := start0 w F
  have A0_0 := z.rd h0_0
  refine calls_of_TM (args := [w0_0, (.int .i64 a1), (.int .i64 a2)]) (R := fun r en w' => ∃ v, en = .returned v ∧ spec_GetNum.Q s0.w F r v w') Try.func46 Try.ntmps46 rfl rfl m ?_
  unfold spec_GetNum.f
  refine sr ?_
  refine pu rfl rfl rfl rfl rfl ?_
  refine pu rfl rfl rfl rfl rfl ?_
  refine dn ?_
  refine sq ?_
  refine sr ?_
  refine pu rfl rfl rfl rfl rfl ?_
  refine pu rfl rfl rfl rfl rfl ?_
  refine pu rfl rfl rfl rfl rfl ?_
  refine jy [13, 14, 15, 16] [6, 7, 8, 9, 10, 11, 12, 13, 14, 15, 16, 17, 18, 19, 20, 21, 22, 23] 16 (.bool ((decide (a2 < (1 : Int))) || (decide (a2 > (8 : Int))))) rfl (fun Kg2 => ?_) (fun j2 => ?_)
  ·
    rcases Bool.eq_false_or_eq_true (decide (a2 < (1 : Int))) with hb2 | hb2
    ·
      refine sbT hb2 ?_
      refine uw rfl rfl rfl rfl ?_
      refine uw rfl rfl rfl rfl ?_
      refine pu rfl rfl rfl rfl rfl ?_
      exact Kg2 _ (Ag.put ((Ag.put ((Ag.put (Ag.base rfl) rfl)) rfl)) rfl) (by rw [hb2]; rfl)
    ·
      refine sbT hb2 ?_
      refine pu rfl rfl rfl rfl rfl ?_
      refine pu rfl rfl rfl rfl rfl ?_
      refine pu rfl rfl rfl rfl rfl ?_
      exact Kg2 _ (Ag.put ((Ag.put ((Ag.put (Ag.base rfl) rfl)) rfl)) rfl) (by rw [hb2]; rfl)
  refine pu rfl rfl rfl rfl rfl ?_
  refine jy [17, 18, 19, 20] [10, 11, 12, 13, 14, 15, 16, 17, 18, 19, 20, 21, 22, 23] 20 (.bool (((decide (a2 < (1 : Int))) || (decide (a2 > (8 : Int)))) || (decide (a1 < (0 : Int))))) rfl (fun Kg3 => ?_) (fun j3 => ?_)
  ·
    rcases Bool.eq_false_or_eq_true ((decide (a2 < (1 : Int))) || (decide (a2 > (8 : Int)))) with hb3 | hb3
    ·
      refine sbT hb3 ?_
      refine uw rfl rfl rfl rfl ?_
      refine uw rfl rfl rfl rfl ?_
      refine pu rfl rfl rfl rfl rfl ?_
      exact Kg3 _ (Ag.put ((Ag.put ((Ag.put (Ag.base rfl) rfl)) rfl)) rfl) (by rw [hb3]; rfl)
    ·
      refine sbT hb3 ?_
      refine pu rfl rfl rfl rfl rfl ?_
      refine pu rfl rfl rfl rfl rfl ?_
      refine pu rfl rfl rfl rfl rfl ?_
      exact Kg3 _ (Ag.put ((Ag.put ((Ag.put (Ag.base rfl) rfl)) rfl)) rfl) (by rw [hb3]; rfl)
  refine pu rfl rfl rfl rfl rfl ?_
  refine jy [21, 22, 23, 24, 25, 26] [16, 17, 18, 19, 20, 21, 22, 23] 26 (.bool ((((decide (a2 < (1 : Int))) || (decide (a2 > (8 : Int)))) || (decide (a1 < (0 : Int)))) || (decide (a1 > (a0.length : Int))))) rfl (fun Kg4 => ?_) (fun j4 => ?_)
  ·
    rcases Bool.eq_false_or_eq_true (((decide (a2 < (1 : Int))) || (decide (a2 > (8 : Int)))) || (decide (a1 < (0 : Int)))) with hb4 | hb4
    ·
      refine sbT hb4 ?_
      refine uw rfl rfl rfl rfl ?_
      refine uw rfl rfl rfl rfl ?_
      refine uw rfl rfl rfl rfl ?_
      refine uw rfl rfl rfl rfl ?_
      refine pu rfl rfl rfl rfl rfl ?_
      exact Kg4 _ (Ag.put ((Ag.put ((Ag.put ((Ag.put ((Ag.put (Ag.base rfl) rfl)) rfl)) rfl)) rfl)) rfl) (by rw [hb4]; rfl)
    ·
      refine sbT hb4 ?_
      refine pu rfl rfl rfl rfl rfl ?_
      refine mv w0_0 rfl rfl rfl rfl rfl rfl ?_
      refine ln A0_0 Try.underlying24 rfl rfl rfl rfl rfl rfl ?_
      refine pu rfl rfl rfl rfl rfl ?_
      refine pu rfl rfl rfl rfl rfl ?_
      exact Kg4 _ (Ag.put ((Ag.put ((Ag.put ((Ag.put ((Ag.put (Ag.base rfl) rfl)) rfl)) rfl)) rfl)) rfl) (by rw [hb4]; rfl)
  refine pu rfl rfl rfl rfl rfl ?_
  refine jy [27, 28, 29, 30, 31, 32, 33, 34] [] 34 (.bool (((((decide (a2 < (1 : Int))) || (decide (a2 > (8 : Int)))) || (decide (a1 < (0 : Int)))) || (decide (a1 > (a0.length : Int)))) || (decide (a2 > (IntKind.wrap .i64 ((a0.length : Int) - a1)))))) rfl (fun Kg5 => ?_) (fun j5 => ?_)
  ·
    rcases Bool.eq_false_or_eq_true ((((decide (a2 < (1 : Int))) || (decide (a2 > (8 : Int)))) || (decide (a1 < (0 : Int)))) || (decide (a1 > (a0.length : Int)))) with hb5 | hb5
    ·
      refine sbT hb5 ?_
      refine uw rfl rfl rfl rfl ?_
      refine uw rfl rfl rfl rfl ?_
      refine uw rfl rfl rfl rfl ?_
      refine uw rfl rfl rfl rfl ?_
      refine uw rfl rfl rfl rfl ?_
      refine uw rfl rfl rfl rfl ?_
      refine pu rfl rfl rfl rfl rfl ?_
      exact Kg5 _ (Ag.put ((Ag.put ((Ag.put ((Ag.put ((Ag.put ((Ag.put ((Ag.put (Ag.base rfl) rfl)) rfl)) rfl)) rfl)) rfl)) rfl)) rfl) (by rw [hb5]; rfl)
    ·
      refine sbT hb5 ?_
      refine pu rfl rfl rfl rfl rfl ?_
      refine mv w0_0 rfl rfl rfl rfl rfl rfl ?_
      refine ln A0_0 Try.underlying24 rfl rfl rfl rfl rfl rfl ?_
      refine pu rfl rfl rfl rfl rfl ?_
      refine pu rfl rfl rfl rfl rfl ?_
      refine pu rfl rfl rfl rfl rfl ?_
      refine pu rfl rfl rfl rfl rfl ?_
      exact Kg5 _ (Ag.put ((Ag.put ((Ag.put ((Ag.put ((Ag.put ((Ag.put ((Ag.put (Ag.base rfl) rfl)) rfl)) rfl)) rfl)) rfl)) rfl)) rfl) (by rw [hb5]; rfl)
  refine dn ?_
  refine cd rfl (fun h6 => ?_) (fun h6 => ?_)
  ·
    refine sr ?_
    refine pu rfl rfl rfl rfl rfl ?_
    refine pu rfl rfl rfl rfl rfl ?_
    refine dn ?_
    exact re rfl Try.func46 rfl (r_t rfl (r_t rfl r_nil)) rfl ⟨_, rfl, rfl, z.ky kp0⟩
  ·
    refine sk ?_
    refine sr ?_
    refine pu rfl rfl rfl rfl rfl ?_
    refine dn ?_
    refine sq ?_
    refine sr ?_
    refine pu rfl rfl rfl rfl rfl ?_
    refine pu rfl rfl rfl rfl rfl ?_
    refine pu rfl rfl rfl rfl rfl ?_
    refine dn ?_
    refine bl ?_
    refine lpI (fun (x7 : Int × Int) (e : Env) (w : World) => ∃ (s : St) (e0 : Env), w = s.w ∧ e = upd (upd (upd (upd e0 0 w0_0) 1 (.int .i64 a1)) 8 (.int .i64 x7.1)) 9 (.int .i64 x7.2) ∧ Kp s0 s) ⟨s0, _, rfl, (ue (ue (ue (ue rfl rfl) rfl) rfl) rfl), kp0⟩ (fun g7 ih7 => ?_)
    rintro x7 _ _ ⟨s8, _, rfl, rfl, Kx7⟩
    unfold spec_GetNum.b0
    refine sq ?_
    refine sr ?_
    refine pu rfl rfl rfl rfl rfl ?_
    refine pu rfl rfl rfl rfl rfl ?_
    refine dn ?_
    refine cd rfl (fun h9 => ?_) (fun h9 => ?_)
    ·
      refine sk ?_
      refine sq ?_
      refine bl ?_
      refine sr ?_
      refine mv w0_0 rfl rfl rfl rfl rfl rfl ?_
      refine pu rfl rfl rfl rfl rfl ?_
      refine pu rfl rfl rfl rfl rfl ?_
      refine pu rfl rfl rfl rfl rfl ?_
      have A10 := (A0_0.kp Kx7)
      refine ix A10 Try.underlying24 z5 rfl rfl rfl rfl rfl rfl rfl rfl (fun ad11 es11 h0_11 h1_11 he11 ce11 ia11 => ?_)
      obtain rfl := he11
      refine lc0 ce11 Try.underlying5 rfl rfl rfl rfl rfl rfl rfl rfl ?_
      refine cv Try.underlying3 Try.underlying5 rfl rfl rfl rfl rfl rfl ?_
      refine pu rfl rfl rfl rfl rfl ?_
      refine dn ?_
      refine sq ?_
      refine sr ?_
      refine pu rfl rfl rfl rfl rfl ?_
      refine pu rfl rfl rfl rfl rfl ?_
      refine pu rfl rfl rfl rfl rfl ?_
      refine jy [50, 51, 52, 53] [] 53 (.bool ((x7.2 == (7 : Int)) && (decide ((IntKind.wrap .i64 (at_ a0 (IntKind.wrap .i64 (a1 + x7.2)))) > (127 : Int))))) rfl (fun Kg13 => ?_) (fun j13 => ?_)
      ·
        rcases Bool.eq_false_or_eq_true (x7.2 == (7 : Int)) with hb13 | hb13
        ·
          refine sbT hb13 ?_
          refine pu rfl rfl rfl rfl rfl ?_
          refine pu rfl rfl rfl rfl rfl ?_
          refine pu rfl rfl rfl rfl rfl ?_
          exact Kg13 _ (Ag.put ((Ag.put ((Ag.put (Ag.base rfl) rfl)) rfl)) rfl) (by rw [hb13]; rfl)
        ·
          refine sbT hb13 ?_
          refine uw rfl rfl rfl rfl ?_
          refine uw rfl rfl rfl rfl ?_
          refine pu rfl rfl rfl rfl rfl ?_
          exact Kg13 _ (Ag.put ((Ag.put ((Ag.put (Ag.base rfl) rfl)) rfl)) rfl) (by rw [hb13]; rfl)
      refine dn ?_
      refine cd rfl (fun h14 => ?_) (fun h14 => ?_)
      ·
        refine sr ?_
        refine pu rfl rfl rfl rfl rfl ?_
        refine pu rfl rfl rfl rfl rfl ?_
        refine dn ?_
        refine sgi ?_
        exact re rfl Try.func46 rfl (r_t rfl (r_t rfl r_nil)) rfl ⟨_, rfl, rfl, z.ky Kx7⟩
      ·
        refine sk ?_
        refine rg ?_
        refine pu rfl rfl rfl rfl rfl ?_
        refine pu rfl rfl rfl rfl rfl ?_
        refine pu rfl rfl rfl rfl rfl ?_
        refine pu rfl rfl rfl rfl rfl ?_
        refine pu rfl rfl rfl rfl rfl ?_
        refine dn ?_
        refine ib ?_
        refine rg ?_
        refine pu rfl rfl rfl rfl rfl ?_
        refine pu rfl rfl rfl rfl rfl ?_
        refine pu rfl rfl rfl rfl rfl ?_
        refine dn ?_
        exact lb ih7 ⟨s8, _, rfl, (ue (ue (ue (ue rfl rfl) rfl) rfl) rfl), Kx7⟩
    ·
      refine xt rfl ?_
      refine sgb ?_
      refine sr ?_
      refine pu rfl rfl rfl rfl rfl ?_
      refine pu rfl rfl rfl rfl rfl ?_
      refine pu rfl rfl rfl rfl rfl ?_
      refine dn ?_
      exact re rfl Try.func46 rfl (r_t rfl (r_t rfl r_nil)) rfl ⟨_, rfl, rfl, z.ky Kx7⟩
noncomputable def spec_ControlRead.f (a0 : (List Int)) : Option (Control × Bool) :=
  (if ((a0.length : Int) != (64 : Int)) = true then (some ((Control.mk (0 : Int) (0 : Int) (0 : Int) (0 : Int) (0 : Int)), false)) else ((spec_GetNum.f a0 (3 : Int) (4 : Int)).bind fun r13 => (if 0 ≤ (7 : Int) ∧ (7 : Int) < (a0.length : Int) then ((spec_GetNum.f a0 (8 : Int) (4 : Int)).bind fun r26 => ((spec_GetNum.f a0 (12 : Int) (4 : Int)).bind fun r33 => (if 0 ≤ (16 : Int) ∧ (16 : Int) < (a0.length : Int) then ((spec_ControlBytes.f (Control.mk r13.1 (IntKind.wrap .i64 (at_ a0 (7 : Int))) r26.1 r33.1 (IntKind.wrap .i64 (at_ a0 (16 : Int))))).bind fun r55 => (if (!((str r55).toList == (str a0).toList)) = true then (some ((Control.mk (0 : Int) (0 : Int) (0 : Int) (0 : Int) (0 : Int)), false)) else (some ((Control.mk r13.1 (IntKind.wrap .i64 (at_ a0 (7 : Int))) r26.1 r33.1 (IntKind.wrap .i64 (at_ a0 (16 : Int)))), true)))) else none))) else none)))
def spec_ControlRead.Q (w : World) (F : Nat → Prop) (r : Control × Bool) (v : Value) (w' : World) : Prop :=
  v = .tuple #[(.agg #[(.int .i64 r.1.Seq), (.int .i64 r.1.Area), (.int .i64 r.1.Lsn), (.int .i64 r.1.Next), (.int .i64 r.1.Pages)]), (.bool r.2)] ∧ Ky [] w w'
set_option maxHeartbeats 4000000 in
set_option maxRecDepth 100000 in
theorem spec_ControlRead.calls (a0 : (List Int)) (w : World) (F : Nat → Prop) (w0_0 : Value) (h0_0 : (Kd.sl 5 (Kd.int .u8)).rd w [w0_0] a0 F) (r : Control × Bool) (m : spec_ControlRead.f a0 = some r) :
    Calls Try.prog 17 #[w0_0] w fun en w' => ∃ v, en = .returned v ∧ spec_ControlRead.Q w F r v w' := by
  obtain ⟨s0, rfl, kp0, z⟩ := start0 w F
  have A0_0 := z.rd h0_0
  refine calls_of_TM (args := [w0_0]) (R := fun r en w' => ∃ v, en = .returned v ∧ spec_ControlRead.Q s0.w F r v w') Try.func17 Try.ntmps17 rfl rfl m ?_
  unfold spec_ControlRead.f
  refine sr ?_
  refine al (cs := [(.int .i64 (0 : Int)), (.int .i64 (0 : Int)), (.int .i64 (0 : Int)), (.int .i64 (0 : Int)), (.int .i64 (0 : Int))]) 10 rfl rfl rfl rfl rfl o26 rfl (fun b2 s2 p2 B2 => ?_)
  refine pu rfl rfl rfl rfl rfl ?_
  refine dn ?_
  refine sr ?_
  refine al (cs := [(.int .i64 (0 : Int)), (.int .i64 (0 : Int)), (.int .i64 (0 : Int)), (.int .i64 (0 : Int)), (.int .i64 (0 : Int))]) 11 rfl rfl rfl rfl rfl o26 rfl (fun b4 s4 p4 B4 => ?_)
  refine dn ?_
  refine sq ?_
  refine sr ?_
  refine mv w0_0 rfl rfl rfl rfl rfl rfl ?_
  have K6 := ((kp0.st p2 rfl).st p4 rfl)
  have A7 := (A0_0.kp K6)
  refine ln A7 Try.underlying24 rfl rfl rfl rfl rfl rfl ?_
  refine pu rfl rfl rfl rfl rfl ?_
  refine dn ?_
  refine cd rfl (fun h8 => ?_) (fun h8 => ?_)
  ·
    refine sr ?_
    refine lda (es := [(.int .i64 (0 : Int)), (.int .i64 (0 : Int)), (.int .i64 (0 : Int)), (.int .i64 (0 : Int)), (.int .i64 (0 : Int))]) B4 Try.underlying26 z26 rfl rfl rfl rfl rfl rfl rfl rfl ?_
    have A9 := (BlF.st B2 p4 rfl)
    refine sva (vs := [(.int .i64 (0 : Int)), (.int .i64 (0 : Int)), (.int .i64 (0 : Int)), (.int .i64 (0 : Int)), (.int .i64 (0 : Int))]) A9 z26 rfl rfl rfl rfl rfl rfl (on_cons rfl (on_cons rfl (on_cons rfl (on_cons rfl (on_cons rfl on_nil))))) rfl (fun s10 p10 B10 => ?_)
    refine pu rfl rfl rfl rfl rfl ?_
    refine dn ?_
    have K12 := (K6.st p10 rfl)
    exact re rfl Try.func17 rfl (r_b B10 Try.underlying26 rfl z26 rfl (r_t rfl r_nil)) rfl ⟨_, rfl, rfl, z.ky K12⟩
  ·
    refine sk ?_
    refine sr ?_
    refine mv w0_0 rfl rfl rfl rfl rfl rfl ?_
    refine cl rfl rfl rfl rfl rfl Try.func46 rfl rfl rfl (fun r13 m13 => spec_GetNum.calls a0 (3 : Int) (4 : Int) s4.w (fun b => memb [0] (s4.g b) = true) w0_0 A7 r13 m13) ?_
    rintro r13 _ w13 m13 ⟨rfl, ky13⟩
    obtain ⟨s14, rfl, p14, n14⟩ := nwx s4 w13 12 ky13
    refine pu rfl rfl rfl rfl rfl ?_
    refine pu (v := (.int .i64 r13.1)) rfl rfl rfl rfl rfl ?_
    refine pu (v := (.bool r13.2)) rfl rfl rfl rfl rfl ?_
    refine fa fa26_0 rfl rfl rfl rfl rfl rfl ?_
    have A15 := (BlF.st B4 p14 rfl)
    refine sv A15 z3 rfl rfl rfl rfl rfl rfl rfl rfl (fun s16 p16 B16 => ?_)
    refine dn ?_
    refine sr ?_
    refine mv w0_0 rfl rfl rfl rfl rfl rfl ?_
    have K18 := ((K6.st p14 rfl).st p16 rfl)
    have A19 := (A0_0.kp K18)
    refine ix A19 Try.underlying24 z5 rfl rfl rfl rfl rfl rfl rfl rfl (fun ad20 es20 h0_20 h1_20 he20 ce20 ia20 => ?_)
    obtain rfl := he20
    refine lc0 ce20 Try.underlying5 rfl rfl rfl rfl rfl rfl rfl rfl ?_
    refine cv Try.underlying3 Try.underlying5 rfl rfl rfl rfl rfl rfl ?_
    refine fa fa26_1 rfl rfl rfl rfl rfl rfl ?_
    refine sv B16 z3 rfl rfl rfl rfl rfl rfl rfl rfl (fun s22 p22 B22 => ?_)
    refine dn ?_
    refine sr ?_
    refine mv w0_0 rfl rfl rfl rfl rfl rfl ?_
    have K24 := (K18.st p22 rfl)
    have A25 := (A0_0.kp K24)
    refine cl rfl rfl rfl rfl rfl Try.func46 rfl rfl rfl (fun r26 m26 => spec_GetNum.calls a0 (8 : Int) (4 : Int) s22.w (fun b => memb [0] (s22.g b) = true) w0_0 A25 r26 m26) ?_
    rintro r26 _ w26 m26 ⟨rfl, ky26⟩
    obtain ⟨s27, rfl, p27, n27⟩ := nwx s22 w26 13 ky26
    refine pu rfl rfl rfl rfl rfl ?_
    refine pu (v := (.int .i64 r26.1)) rfl rfl rfl rfl rfl ?_
    refine pu (v := (.bool r26.2)) rfl rfl rfl rfl rfl ?_
    refine fa fa26_2 rfl rfl rfl rfl rfl rfl ?_
    have A28 := (BlF.st B22 p27 rfl)
    refine sv A28 z3 rfl rfl rfl rfl rfl rfl rfl rfl (fun s29 p29 B29 => ?_)
    refine dn ?_
    refine sr ?_
    refine mv w0_0 rfl rfl rfl rfl rfl rfl ?_
    have K31 := ((K24.st p27 rfl).st p29 rfl)
    have A32 := (A0_0.kp K31)
    refine cl rfl rfl rfl rfl rfl Try.func46 rfl rfl rfl (fun r33 m33 => spec_GetNum.calls a0 (12 : Int) (4 : Int) s29.w (fun b => memb [0] (s29.g b) = true) w0_0 A32 r33 m33) ?_
    rintro r33 _ w33 m33 ⟨rfl, ky33⟩
    obtain ⟨s34, rfl, p34, n34⟩ := nwx s29 w33 14 ky33
    refine pu rfl rfl rfl rfl rfl ?_
    refine pu (v := (.int .i64 r33.1)) rfl rfl rfl rfl rfl ?_
    refine pu (v := (.bool r33.2)) rfl rfl rfl rfl rfl ?_
    refine fa fa26_3 rfl rfl rfl rfl rfl rfl ?_
    have A35 := (BlF.st B29 p34 rfl)
    refine sv A35 z3 rfl rfl rfl rfl rfl rfl rfl rfl (fun s36 p36 B36 => ?_)
    refine dn ?_
    refine sr ?_
    refine mv w0_0 rfl rfl rfl rfl rfl rfl ?_
    have K38 := ((K31.st p34 rfl).st p36 rfl)
    have A39 := (A0_0.kp K38)
    refine ix A39 Try.underlying24 z5 rfl rfl rfl rfl rfl rfl rfl rfl (fun ad40 es40 h0_40 h1_40 he40 ce40 ia40 => ?_)
    obtain rfl := he40
    refine lc0 ce40 Try.underlying5 rfl rfl rfl rfl rfl rfl rfl rfl ?_
    refine cv Try.underlying3 Try.underlying5 rfl rfl rfl rfl rfl rfl ?_
    refine fa fa26_4 rfl rfl rfl rfl rfl rfl ?_
    refine sv B36 z3 rfl rfl rfl rfl rfl rfl rfl rfl (fun s42 p42 B42 => ?_)
    refine dn ?_
    refine sq ?_
    refine sq ?_
    refine zdraw [[], [0], [1], [], [3], [2, 4]] [some 37, some 38, some 39, some 40, some 41, some 42] [[4], [37], [38], [0], [40], [39, 41]] [0, 1, 2, 3, 4, 5] ⟨by kernel_rfl, by kernel_rfl, by kernel_rfl⟩ (by kernel_rfl) (fun s44 p44 l44 tb44 zd44 => ?_)
    have A45 := (BlF.st B42 p44 rfl)
    have zd46 := zd44.add 0 37 (.agg #[(.int .i64 r13.1), (.int .i64 (IntKind.wrap .i64 (at_ a0 (7 : Int)))), (.int .i64 r26.1), (.int .i64 r33.1), (.int .i64 (IntKind.wrap .i64 (at_ a0 (16 : Int))))]) rfl
    have zd47 := zd46.add 3 40 w0_0 rfl
    have K48 := ((K38.st p42 rfl).st p44 rfl)
    have A49 := (A0_0.kp K48)
    have zd50 := zd47.add 4 41 (.string (str a0)) rfl
    have A52 := (BlF.st B42 p44 rfl)
    have K53 := ((K38.st p42 rfl).st p44 rfl)
    have A54 := (A0_0.kp K53)
    refine zstep 1 [some 41, some 40] tb44 zd50 (pq_cons (b2s_q A54 Try.underlying24 Try.underlying9 Try.underlying5 rfl rfl rfl rfl rfl rfl) rfl (pq_cons (mv_q w0_0 rfl rfl rfl rfl rfl rfl) rfl (pq_cons (lda_q (es := [(.int .i64 r13.1), (.int .i64 (IntKind.wrap .i64 (at_ a0 (7 : Int)))), (.int .i64 r26.1), (.int .i64 r33.1), (.int .i64 (IntKind.wrap .i64 (at_ a0 (16 : Int))))]) A52 Try.underlying26 z26 rfl rfl rfl rfl rfl rfl rfl rfl) rfl pq_nil))) (by kernel_rfl) rfl (fun l51 e51 zd51 => ?_)
    refine cl rfl rfl rfl rfl rfl Try.func7 rfl rfl rfl (fun r55 m55 => spec_ControlBytes.calls (Control.mk r13.1 (IntKind.wrap .i64 (at_ a0 (7 : Int))) r26.1 r33.1 (IntKind.wrap .i64 (at_ a0 (16 : Int)))) s44.w (fun b => memb [] (s44.g b) = true)  r55 m55) ?_
    rintro r55 v55_0 w55 m55 ⟨f55_0, ky55⟩
    obtain ⟨s56, rfl, p56, n56⟩ := nwx s44 w55 15 ky55
    have A55_0 := f55_0.c n56
    refine zdone (L' := [4, 3]) (D' := [0, 1]) zd51 rfl rfl rfl (fun zd58 => ?_)
    have zd59 := zd58.add 2 39 (.string (str r55)) rfl
    have K60 := (((K38.st p42 rfl).st p44 rfl).st p56 rfl)
    have A61 := (A0_0.kp K60)
    refine zfin [5] tb44 zd59 (pq_cons (b2s_q A55_0.rd Try.underlying24 Try.underlying9 Try.underlying5 rfl rfl rfl rfl rfl rfl) rfl (pq_cons (b2s_q A61 Try.underlying24 Try.underlying9 Try.underlying5 rfl rfl rfl rfl rfl rfl) rfl (pq_cons (mv_q w0_0 rfl rfl rfl rfl rfl rfl) rfl pq_nil))) (by kernel_rfl) (by decide) ?_
    refine pu rfl rfl rfl rfl rfl ?_
    refine dn ?_
    refine cd rfl (fun h62 => ?_) (fun h62 => ?_)
    ·
      refine sr ?_
      refine bd (cells := [(.int .i64 (0 : Int)), (.int .i64 (0 : Int)), (.int .i64 (0 : Int)), (.int .i64 (0 : Int)), (.int .i64 (0 : Int))]) pl26 o26 rfl rfl rfl rfl rfl rfl ?_
      have A63 := (BlF.st (BlF.st (BlF.st (BlF.st (BlF.st (BlF.st (BlF.st (BlF.st (BlF.st (BlF.st (BlF.st B2 p4 rfl) p14 rfl) p16 rfl) p22 rfl) p27 rfl) p29 rfl) p34 rfl) p36 rfl) p42 rfl) p44 rfl) p56 rfl)
      refine sva (vs := [(.int .i64 (0 : Int)), (.int .i64 (0 : Int)), (.int .i64 (0 : Int)), (.int .i64 (0 : Int)), (.int .i64 (0 : Int))]) A63 z26 rfl rfl rfl rfl rfl rfl (on_cons rfl (on_cons rfl (on_cons rfl (on_cons rfl (on_cons rfl on_nil))))) rfl (fun s64 p64 B64 => ?_)
      refine pu rfl rfl rfl rfl rfl ?_
      refine dn ?_
      have K66 := ((((K38.st p42 rfl).st p44 rfl).st p56 rfl).st p64 rfl)
      exact re rfl Try.func17 rfl (r_b B64 Try.underlying26 rfl z26 rfl (r_t rfl r_nil)) rfl ⟨_, rfl, rfl, z.ky K66⟩
    ·
      refine sk ?_
      refine sr ?_
      have A67 := (BlF.st (BlF.st B42 p44 rfl) p56 rfl)
      refine lda (es := [(.int .i64 r13.1), (.int .i64 (IntKind.wrap .i64 (at_ a0 (7 : Int)))), (.int .i64 r26.1), (.int .i64 r33.1), (.int .i64 (IntKind.wrap .i64 (at_ a0 (16 : Int))))]) A67 Try.underlying26 z26 rfl rfl rfl rfl rfl rfl rfl rfl ?_
      have A68 := (BlF.st (BlF.st (BlF.st (BlF.st (BlF.st (BlF.st (BlF.st (BlF.st (BlF.st (BlF.st (BlF.st B2 p4 rfl) p14 rfl) p16 rfl) p22 rfl) p27 rfl) p29 rfl) p34 rfl) p36 rfl) p42 rfl) p44 rfl) p56 rfl)
      refine sva (vs := [(.int .i64 r13.1), (.int .i64 (IntKind.wrap .i64 (at_ a0 (7 : Int)))), (.int .i64 r26.1), (.int .i64 r33.1), (.int .i64 (IntKind.wrap .i64 (at_ a0 (16 : Int))))]) A68 z26 rfl rfl rfl rfl rfl rfl (on_cons rfl (on_cons rfl (on_cons rfl (on_cons rfl (on_cons rfl on_nil))))) rfl (fun s69 p69 B69 => ?_)
      refine pu rfl rfl rfl rfl rfl ?_
      refine dn ?_
      have K71 := ((((K38.st p42 rfl).st p44 rfl).st p56 rfl).st p69 rfl)
      exact re rfl Try.func17 rfl (r_b B69 Try.underlying26 rfl z26 rfl (r_t rfl r_nil)) rfl ⟨_, rfl, rfl, z.ky K71⟩
noncomputable def laws_eqControl.f (a0 : Control) (a1 : Control) : Option (Bool) :=
  (if (a0.Seq != a1.Seq) = true then (some false) else (if (a0.Area != a1.Area) = true then (some false) else (if (a0.Lsn != a1.Lsn) = true then (some false) else (if (a0.Next != a1.Next) = true then (some false) else (if (a0.Pages != a1.Pages) = true then (some false) else (some true))))))
def laws_eqControl.Q (w : World) (F : Nat → Prop) (r : Bool) (v : Value) (w' : World) : Prop :=
  v = (.bool r) ∧ Ky [] w w'
set_option maxHeartbeats 4000000 in
set_option maxRecDepth 100000 in
theorem laws_eqControl.calls (a0 : Control) (a1 : Control) (w : World) (F : Nat → Prop)   (r : Bool) (m : laws_eqControl.f a0 a1 = some r) :
    Calls Try.prog 19 #[(.agg #[(.int .i64 a0.Seq), (.int .i64 a0.Area), (.int .i64 a0.Lsn), (.int .i64 a0.Next), (.int .i64 a0.Pages)]), (.agg #[(.int .i64 a1.Seq), (.int .i64 a1.Area), (.int .i64 a1.Lsn), (.int .i64 a1.Next), (.int .i64 a1.Pages)])] w fun en w' => ∃ v, en = .returned v ∧ laws_eqControl.Q w F r v w' := by
  obtain ⟨s0, rfl, kp0, z⟩ := start0 w F
  refine calls_of_TM (args := [(.agg #[(.int .i64 a0.Seq), (.int .i64 a0.Area), (.int .i64 a0.Lsn), (.int .i64 a0.Next), (.int .i64 a0.Pages)]), (.agg #[(.int .i64 a1.Seq), (.int .i64 a1.Area), (.int .i64 a1.Lsn), (.int .i64 a1.Next), (.int .i64 a1.Pages)])]) (R := fun r en w' => ∃ v, en = .returned v ∧ laws_eqControl.Q s0.w F r v w') Try.func19 Try.ntmps19 rfl rfl m ?_
  unfold laws_eqControl.f
  refine sr ?_
  refine bx (cs := [(.int .i64 a0.Seq), (.int .i64 a0.Area), (.int .i64 a0.Lsn), (.int .i64 a0.Next), (.int .i64 a0.Pages)]) 10 rfl rfl rfl rfl rfl rfl (fun b1 s1 p1 B1 => ?_)
  refine bx (cs := [(.int .i64 a1.Seq), (.int .i64 a1.Area), (.int .i64 a1.Lsn), (.int .i64 a1.Next), (.int .i64 a1.Pages)]) 11 rfl rfl rfl rfl rfl rfl (fun b3 s3 p3 B3 => ?_)
  refine pu rfl rfl rfl rfl rfl ?_
  refine dn ?_
  refine sq ?_
  refine sr ?_
  refine fa fa26_0 rfl rfl rfl rfl rfl rfl ?_
  have A5 := (BlF.st B1 p3 rfl)
  refine ld A5 Try.underlying3 rfl rfl rfl rfl rfl rfl rfl rfl ?_
  refine fa fa26_0 rfl rfl rfl rfl rfl rfl ?_
  refine ld B3 Try.underlying3 rfl rfl rfl rfl rfl rfl rfl rfl ?_
  refine pu rfl rfl rfl rfl rfl ?_
  refine dn ?_
  refine cd rfl (fun h6 => ?_) (fun h6 => ?_)
  ·
    refine sr ?_
    refine pu rfl rfl rfl rfl rfl ?_
    refine dn ?_
    have K7 := ((kp0.st p1 rfl).st p3 rfl)
    exact re rfl Try.func19 rfl (r_t rfl r_nil) rfl ⟨_, rfl, rfl, z.ky K7⟩
  ·
    refine sk ?_
    refine sq ?_
    refine sr ?_
    refine fa fa26_1 rfl rfl rfl rfl rfl rfl ?_
    refine ld A5 Try.underlying3 rfl rfl rfl rfl rfl rfl rfl rfl ?_
    refine fa fa26_1 rfl rfl rfl rfl rfl rfl ?_
    refine ld B3 Try.underlying3 rfl rfl rfl rfl rfl rfl rfl rfl ?_
    refine pu rfl rfl rfl rfl rfl ?_
    refine dn ?_
    refine cd rfl (fun h8 => ?_) (fun h8 => ?_)
    ·
      refine sr ?_
      refine pu rfl rfl rfl rfl rfl ?_
      refine dn ?_
      have K9 := ((kp0.st p1 rfl).st p3 rfl)
      exact re rfl Try.func19 rfl (r_t rfl r_nil) rfl ⟨_, rfl, rfl, z.ky K9⟩
    ·
      refine sk ?_
      refine sq ?_
      refine sr ?_
      refine fa fa26_2 rfl rfl rfl rfl rfl rfl ?_
      refine ld A5 Try.underlying3 rfl rfl rfl rfl rfl rfl rfl rfl ?_
      refine fa fa26_2 rfl rfl rfl rfl rfl rfl ?_
      refine ld B3 Try.underlying3 rfl rfl rfl rfl rfl rfl rfl rfl ?_
      refine pu rfl rfl rfl rfl rfl ?_
      refine dn ?_
      refine cd rfl (fun h10 => ?_) (fun h10 => ?_)
      ·
        refine sr ?_
        refine pu rfl rfl rfl rfl rfl ?_
        refine dn ?_
        have K11 := ((kp0.st p1 rfl).st p3 rfl)
        exact re rfl Try.func19 rfl (r_t rfl r_nil) rfl ⟨_, rfl, rfl, z.ky K11⟩
      ·
        refine sk ?_
        refine sq ?_
        refine sr ?_
        refine fa fa26_3 rfl rfl rfl rfl rfl rfl ?_
        refine ld A5 Try.underlying3 rfl rfl rfl rfl rfl rfl rfl rfl ?_
        refine fa fa26_3 rfl rfl rfl rfl rfl rfl ?_
        refine ld B3 Try.underlying3 rfl rfl rfl rfl rfl rfl rfl rfl ?_
        refine pu rfl rfl rfl rfl rfl ?_
        refine dn ?_
        refine cd rfl (fun h12 => ?_) (fun h12 => ?_)
        ·
          refine sr ?_
          refine pu rfl rfl rfl rfl rfl ?_
          refine dn ?_
          have K13 := ((kp0.st p1 rfl).st p3 rfl)
          exact re rfl Try.func19 rfl (r_t rfl r_nil) rfl ⟨_, rfl, rfl, z.ky K13⟩
        ·
          refine sk ?_
          refine sq ?_
          refine sr ?_
          refine fa fa26_4 rfl rfl rfl rfl rfl rfl ?_
          refine ld A5 Try.underlying3 rfl rfl rfl rfl rfl rfl rfl rfl ?_
          refine fa fa26_4 rfl rfl rfl rfl rfl rfl ?_
          refine ld B3 Try.underlying3 rfl rfl rfl rfl rfl rfl rfl rfl ?_
          refine pu rfl rfl rfl rfl rfl ?_
          refine dn ?_
          refine cd rfl (fun h14 => ?_) (fun h14 => ?_)
          ·
            refine sr ?_
            refine pu rfl rfl rfl rfl rfl ?_
            refine dn ?_
            have K15 := ((kp0.st p1 rfl).st p3 rfl)
            exact re rfl Try.func19 rfl (r_t rfl r_nil) rfl ⟨_, rfl, rfl, z.ky K15⟩
          ·
            refine sk ?_
            refine sr ?_
            refine pu rfl rfl rfl rfl rfl ?_
            refine dn ?_
            have K16 := ((kp0.st p1 rfl).st p3 rfl)
            exact re rfl Try.func19 rfl (r_t rfl r_nil) rfl ⟨_, rfl, rfl, z.ky K16⟩
end Go.Proofs.Ytndhbfkahbbkaaa
