/- The functions as models, and that the calls come to what the models tell. -/
import Derived.Test.YtndhbfkahbbkaaaXt
set_option linter.unusedVariables false
set_option linter.unusedSimpArgs false
namespace Go.Proofs.Ytndhbfkahbbkaaa
open Go V
noncomputable def spec_l5in.f (a0 : Int) (a1 : Int) (a2 : Int) : Option (Bool) :=
  (some ((decide (a0 ≥ a1)) && (decide (a0 ≤ a2))))
def spec_l5in.Q (w : World) (F : Nat → Prop) (r : Bool) (v : Value) (w' : World) : Prop :=
  v = (.bool r) ∧ Ky [] w w'
set_option maxHeartbeats 4000000 in
set_option maxRecDepth 100000 in
theorem spec_l5in.calls (a0 : Int) (a1 : Int) (a2 : Int) (w : World) (F : Nat → Prop)   (r : Bool) (m : spec_l5in.f a0 a1 a2 = some r) :
    Calls Try.prog 30 #[(.int .i64 a0), (.int .i64 a1), (.int .i64 a2)] w fun en w' => ∃ v, en = .returned v ∧ spec_l5in.Q w F r v w' := by
  obtain ⟨s0, rfl, kp0, z⟩ := start0 w F
  refine calls_of_TM (args := [(.int .i64 a0), (.int .i64 a1), (.int .i64 a2)]) (R := fun r en w' => ∃ v, en = .returned v ∧ spec_l5in.Q s0.w F r v w') Try.func30 Try.ntmps30 rfl rfl m ?_
  unfold spec_l5in.f
  refine sr ?_
  refine pu rfl rfl rfl rfl rfl ?_
  refine dn ?_
  refine sr ?_
  refine pu rfl rfl rfl rfl rfl ?_
  refine pu rfl rfl rfl rfl rfl ?_
  refine pu rfl rfl rfl rfl rfl ?_
  refine pu rfl rfl rfl rfl rfl ?_
  refine jy [10, 11, 12, 13, 14] [8] 14 (.bool ((decide (a0 ≥ a1)) && (decide (a0 ≤ a2)))) rfl (fun Kg1 => ?_) (fun j1 => ?_)
  ·
    rcases Bool.eq_false_or_eq_true (decide (a0 ≥ a1)) with hb1 | hb1
    ·
      refine sbT hb1 ?_
      refine pu rfl rfl rfl rfl rfl ?_
      refine pu rfl rfl rfl rfl rfl ?_
      refine pu rfl rfl rfl rfl rfl ?_
      refine pu rfl rfl rfl rfl rfl ?_
      exact Kg1 _ (Ag.put ((Ag.put ((Ag.put ((Ag.put (Ag.base rfl) rfl)) rfl)) rfl)) rfl) (by rw [hb1]; rfl)
    ·
      refine sbT hb1 ?_
      refine uw rfl rfl rfl rfl ?_
      refine uw rfl rfl rfl rfl ?_
      refine uw rfl rfl rfl rfl ?_
      refine pu rfl rfl rfl rfl rfl ?_
      exact Kg1 _ (Ag.put ((Ag.put ((Ag.put ((Ag.put (Ag.base rfl) rfl)) rfl)) rfl)) rfl) (by rw [hb1]; rfl)
  refine pu rfl rfl rfl rfl rfl ?_
  refine dn ?_
  exact re rfl Try.func30 rfl (r_t rfl r_nil) rfl ⟨_, rfl, rfl, z.ky kp0⟩
noncomputable def spec_PutNum.b0 (a1 : Int) (x4 : Int × (List Int) × Int) : Option ((Int × (List Int) × Int) ⊕ (List Int)) :=
  (if (decide (x4.2.2 < a1)) = true then (if x4.2.1.length + ([(IntKind.wrap .u8 (x4.1.tmod (256 : Int)))]).length ≤ Lim then (some (.inl ((IntKind.wrap .i64 (x4.1.tdiv (256 : Int))), (x4.2.1 ++ [(IntKind.wrap .u8 (x4.1.tmod (256 : Int)))]), (IntKind.wrap .i64 (x4.2.2 + (1 : Int)))))) else none) else ((if (decide (x4.1 > (0 : Int))) = true then (some ([] : (List Int))) else (some x4.2.1)).bind fun o => some (.inr o)))
noncomputable def spec_PutNum.f (a0 : Int) (a1 : Int) : Option ((List Int)) :=
  (if (((decide (a1 < (1 : Int))) || (decide (a1 > (8 : Int)))) || (decide (a0 < (0 : Int)))) = true then (some ([] : (List Int))) else (iter (spec_PutNum.b0 a1) (a0, ([] : (List Int)), (0 : Int))))
def spec_PutNum.Q (w : World) (F : Nat → Prop) (r : (List Int)) (v : Value) (w' : World) : Prop :=
  FO (Kd.sl 5 (Kd.int .u8)) w w' [v] r ∧ Ky [] w w'
set_option maxHeartbeats 4000000 in
set_option maxRecDepth 100000 in
theorem spec_PutNum.calls (a0 : Int) (a1 : Int) (w : World) (F : Nat → Prop)   (r : (List Int)) (m : spec_PutNum.f a0 a1 = some r) :
    Calls Try.prog 31 #[(.int .i64 a0), (.int .i64 a1)] w fun en w' => ∃ v, en = .returned v ∧ spec_PutNum.Q w F r v w' := by
  obtain ⟨s0, rfl, kp0, z⟩ := start0 w F
  refine calls_of_TM (args := [(.int .i64 a0), (.int .i64 a1)]) (R := fun r en w' => ∃ v, en = .returned v ∧ spec_PutNum.Q s0.w F r v w') Try.func31 Try.ntmps31 rfl rfl m ?_
  unfold spec_PutNum.f
  refine sr ?_
  refine pu rfl rfl rfl rfl rfl ?_
  refine dn ?_
  refine sr ?_
  refine pu rfl rfl rfl rfl rfl ?_
  refine dn ?_
  refine sq ?_
  refine sr ?_
  refine pu rfl rfl rfl rfl rfl ?_
  refine pu rfl rfl rfl rfl rfl ?_
  refine pu rfl rfl rfl rfl rfl ?_
  refine jy [9, 10, 11, 12] [6, 7, 8, 9] 12 (.bool ((decide (a1 < (1 : Int))) || (decide (a1 > (8 : Int))))) rfl (fun Kg1 => ?_) (fun j1 => ?_)
  ·
    rcases Bool.eq_false_or_eq_true (decide (a1 < (1 : Int))) with hb1 | hb1
    ·
      refine sbT hb1 ?_
      refine uw rfl rfl rfl rfl ?_
      refine uw rfl rfl rfl rfl ?_
      refine pu rfl rfl rfl rfl rfl ?_
      exact Kg1 _ (Ag.put ((Ag.put ((Ag.put (Ag.base rfl) rfl)) rfl)) rfl) (by rw [hb1]; rfl)
    ·
      refine sbT hb1 ?_
      refine pu rfl rfl rfl rfl rfl ?_
      refine pu rfl rfl rfl rfl rfl ?_
      refine pu rfl rfl rfl rfl rfl ?_
      exact Kg1 _ (Ag.put ((Ag.put ((Ag.put (Ag.base rfl) rfl)) rfl)) rfl) (by rw [hb1]; rfl)
  refine pu rfl rfl rfl rfl rfl ?_
  refine jy [13, 14, 15, 16] [] 16 (.bool (((decide (a1 < (1 : Int))) || (decide (a1 > (8 : Int)))) || (decide (a0 < (0 : Int))))) rfl (fun Kg2 => ?_) (fun j2 => ?_)
  ·
    rcases Bool.eq_false_or_eq_true ((decide (a1 < (1 : Int))) || (decide (a1 > (8 : Int)))) with hb2 | hb2
    ·
      refine sbT hb2 ?_
      refine uw rfl rfl rfl rfl ?_
      refine uw rfl rfl rfl rfl ?_
      refine pu rfl rfl rfl rfl rfl ?_
      exact Kg2 _ (Ag.put ((Ag.put ((Ag.put (Ag.base rfl) rfl)) rfl)) rfl) (by rw [hb2]; rfl)
    ·
      refine sbT hb2 ?_
      refine pu rfl rfl rfl rfl rfl ?_
      refine pu rfl rfl rfl rfl rfl ?_
      refine pu rfl rfl rfl rfl rfl ?_
      exact Kg2 _ (Ag.put ((Ag.put ((Ag.put (Ag.base rfl) rfl)) rfl)) rfl) (by rw [hb2]; rfl)
  refine dn ?_
  refine cd rfl (fun h3 => ?_) (fun h3 => ?_)
  ·
    refine sr ?_
    refine pu rfl rfl rfl rfl rfl ?_
    refine pu rfl rfl rfl rfl rfl ?_
    refine dn ?_
    exact re rfl Try.func31 rfl (r_t rfl r_nil) rfl ⟨_, rfl, (ow_nil 5 (Kd.int .u8) s0 10).fo kp0 rfl, z.ky kp0⟩
  ·
    refine sk ?_
    refine sq ?_
    refine sr ?_
    refine pu rfl rfl rfl rfl rfl ?_
    refine dn ?_
    refine bl ?_
    refine lpI (fun (x4 : Int × (List Int) × Int) (e : Env) (w : World) => ∃ (s : St) (e0 : Env) (vx4_0 : Value), w = s.w ∧ e = upd (upd (upd (upd e0 0 (.int .i64 x4.1)) 1 (.int .i64 a1)) 5 vx4_0) 6 (.int .i64 x4.2.2) ∧ Kp s0 s ∧ OwF (Kd.sl 5 (Kd.int .u8)) s [vx4_0] x4.2.1 10) ⟨s0, _, (.slice none 0 0), rfl, (ue (ue (ue (ue rfl rfl) rfl) rfl) rfl), kp0, (ow_nil 5 (Kd.int .u8) _ 10)⟩ (fun g4 ih4 => ?_)
    rintro x4 _ _ ⟨s5, _, vx4_0, rfl, rfl, Kx4, Ax4_0⟩
    unfold spec_PutNum.b0
    refine sq ?_
    refine sr ?_
    refine pu rfl rfl rfl rfl rfl ?_
    refine pu rfl rfl rfl rfl rfl ?_
    refine pu rfl rfl rfl rfl rfl ?_
    refine dn ?_
    refine cd rfl (fun h7 => ?_) (fun h7 => ?_)
    ·
      refine sk ?_
      refine sq ?_
      refine bl ?_
      refine sr ?_
      refine mv vx4_0 rfl rfl rfl rfl rfl rfl ?_
      refine pu rfl rfl rfl rfl rfl ?_
      refine remK rfl rfl rfl rfl rfl rfl rfl rfl ?_
      refine cv Try.underlying5 Try.underlying3 rfl rfl rfl rfl rfl rfl ?_
      refine ltF (K := (Kd.int .u8)) (cells := [(.int .u8 (IntKind.wrap .u8 (x4.1.tmod (256 : Int))))]) [(IntKind.wrap .u8 (x4.1.tmod (256 : Int)))] 11 fl_int Try.underlying24 z5 o5 (fun w => (els_flat _ _ _)) rfl rfl rfl rfl rfl rfl rfl rfl rfl rfl (fun v8 s8 p8 A8 => ?_)
      have A10 := (Ax4_0.st p8 rfl)
      refine apF fl_int sl24 A10 A8.rd rfl rfl rfl rfl rfl rfl rfl (fun v11 s11 p11 A11 => ?_)
      refine asg v11 rfl rfl rfl rfl rfl rfl ?_
      refine dn ?_
      refine rg ?_
      refine pu rfl rfl rfl rfl rfl ?_
      refine quoK rfl rfl rfl rfl rfl rfl rfl rfl ?_
      refine pu rfl rfl rfl rfl rfl ?_
      refine dn ?_
      refine ib ?_
      refine rg ?_
      refine pu rfl rfl rfl rfl rfl ?_
      refine pu rfl rfl rfl rfl rfl ?_
      refine pu rfl rfl rfl rfl rfl ?_
      refine dn ?_
      have K13 := ((Kx4.st p8 rfl).st p11 rfl)
      exact lb ih4 ⟨s11, _, v11, rfl, (ue (ue (ue (ue rfl rfl) rfl) rfl) rfl), K13, A11⟩
    ·
      refine xt rfl ?_
      refine sgb ?_
      refine sq ?_
      refine sr ?_
      refine pu rfl rfl rfl rfl rfl ?_
      refine pu rfl rfl rfl rfl rfl ?_
      refine dn ?_
      refine cd rfl (fun h14 => ?_) (fun h14 => ?_)
      ·
        refine sr ?_
        refine pu rfl rfl rfl rfl rfl ?_
        refine dn ?_
        exact re rfl Try.func31 rfl (r_t rfl r_nil) rfl ⟨_, rfl, (ow_nil 5 (Kd.int .u8) s5 10).fo Kx4 rfl, z.ky Kx4⟩
      ·
        refine sk ?_
        refine sr ?_
        refine mv vx4_0 rfl rfl rfl rfl rfl rfl ?_
        refine asg vx4_0 rfl rfl rfl rfl rfl rfl ?_
        refine dn ?_
        exact re rfl Try.func31 rfl (r_t rfl r_nil) rfl ⟨_, rfl, Ax4_0.fo Kx4 rfl, z.ky Kx4⟩
noncomputable def spec_Crc.b1 (x3 : Int × Int) (x9 : Int × Int) : Option ((Int × Int) ⊕ (Int × Int ⊕ Int)) :=
  (if (decide (x9.2 < (8 : Int))) = true then ((if ((x9.1.tmod (2 : Int)) == (1 : Int)) = true then (some (ixor .i64 (IntKind.wrap .i64 (x9.1.tdiv (2 : Int))) (3988292384 : Int))) else (some (IntKind.wrap .i64 (x9.1.tdiv (2 : Int))))).bind fun y12 => (some (.inl (y12, (IntKind.wrap .i64 (x9.2 + (1 : Int))))))) else ((some (.inl (x9.1, (IntKind.wrap .i64 (x3.2 + (1 : Int)))))).bind fun o => some (.inr o)))
noncomputable def spec_Crc.b0 (a0 : (List Int)) (x3 : Int × Int) : Option ((Int × Int) ⊕ Int) :=
  (if (decide (x3.2 < (a0.length : Int))) = true then (if 0 ≤ x3.2 ∧ x3.2 < (a0.length : Int) then (iter (spec_Crc.b1 x3) ((ixor .i64 x3.1 (IntKind.wrap .i64 (at_ a0 x3.2))), (0 : Int))) else none) else ((some (ixor .i64 x3.1 (4294967295 : Int))).bind fun o => some (.inr o)))
noncomputable def spec_Crc.f (a0 : (List Int)) : Option (Int) :=
  (if (decide ((a0.length : Int) > (65536 : Int))) = true then (some (-1 : Int)) else (iter (spec_Crc.b0 a0) ((4294967295 : Int), (0 : Int))))
def spec_Crc.Q (w : World) (F : Nat → Prop) (r : Int) (v : Value) (w' : World) : Prop :=
  v = (.int .i64 r) ∧ Ky [] w w'
set_option maxHeartbeats 4000000 in
set_option maxRecDepth 100000 in
theorem spec_Crc.calls (a0 : (List Int)) (w : World) (F : Nat → Prop) (w0_0 : Value) (h0_0 : (Kd.sl 5 (Kd.int .u8)).rd w [w0_0] a0 F) (r : Int) (m : spec_Crc.f a0 = some r) :
    Calls Try.prog 57 #[w0_0] w fun en w' => ∃ v, en = .returned v ∧ spec_Crc.Q w F r v w' := by
  obtain ⟨s0, rfl, kp0, z⟩ := start0 w F
  have A0_0 := z.rd h0_0
  refine calls_of_TM (args := [w0_0]) (R := fun r en w' => ∃ v, en = .returned v ∧ spec_Crc.Q s0.w F r v w') Try.func57 Try.ntmps57 rfl rfl m ?_
  unfold spec_Crc.f
  refine sr ?_
  refine pu rfl rfl rfl rfl rfl ?_
  refine dn ?_
  refine sq ?_
  refine sr ?_
  refine mv w0_0 rfl rfl rfl rfl rfl rfl ?_
  refine ln A0_0 Try.underlying24 rfl rfl rfl rfl rfl rfl ?_
  refine pu rfl rfl rfl rfl rfl ?_
  refine dn ?_
  refine cd rfl (fun h2 => ?_) (fun h2 => ?_)
  ·
    refine sr ?_
    refine pu rfl rfl rfl rfl rfl ?_
    refine dn ?_
    exact re rfl Try.func57 rfl (r_t rfl r_nil) rfl ⟨_, rfl, rfl, z.ky kp0⟩
  ·
    refine sk ?_
    refine sr ?_
    refine pu rfl rfl rfl rfl rfl ?_
    refine dn ?_
    refine sq ?_
    refine sr ?_
    refine pu rfl rfl rfl rfl rfl ?_
    refine dn ?_
    refine bl ?_
    refine lpI (fun (x3 : Int × Int) (e : Env) (w : World) => ∃ (s : St) (e0 : Env), w = s.w ∧ e = upd (upd (upd e0 0 w0_0) 3 (.int .i64 x3.1)) 4 (.int .i64 x3.2) ∧ Kp s0 s) ⟨s0, _, rfl, (ue (ue (ue rfl rfl) rfl) rfl), kp0⟩ (fun g3 ih3 => ?_)
    rintro x3 _ _ ⟨s4, _, rfl, rfl, Kx3⟩
    unfold spec_Crc.b0
    refine sq ?_
    refine sr ?_
    refine pu rfl rfl rfl rfl rfl ?_
    refine mv w0_0 rfl rfl rfl rfl rfl rfl ?_
    have A5 := (A0_0.kp Kx3)
    refine ln A5 Try.underlying24 rfl rfl rfl rfl rfl rfl ?_
    refine pu rfl rfl rfl rfl rfl ?_
    refine dn ?_
    refine cd rfl (fun h6 => ?_) (fun h6 => ?_)
    ·
      refine sk ?_
      refine sq ?_
      refine bl ?_
      refine sr ?_
      refine pu rfl rfl rfl rfl rfl ?_
      refine mv w0_0 rfl rfl rfl rfl rfl rfl ?_
      refine pu rfl rfl rfl rfl rfl ?_
      refine ix A5 Try.underlying24 z5 rfl rfl rfl rfl rfl rfl rfl rfl (fun ad7 es7 h0_7 h1_7 he7 ce7 ia7 => ?_)
      obtain rfl := he7
      refine lc0 ce7 Try.underlying5 rfl rfl rfl rfl rfl rfl rfl rfl ?_
      refine cv Try.underlying3 Try.underlying5 rfl rfl rfl rfl rfl rfl ?_
      refine pu rfl rfl rfl rfl rfl ?_
      refine pu rfl rfl rfl rfl rfl ?_
      refine dn ?_
      refine sr ?_
      refine pu rfl rfl rfl rfl rfl ?_
      refine dn ?_
      refine bl ?_
      refine lpI (fun (x9 : Int × Int) (e : Env) (w : World) => ∃ (s : St) (e0 : Env), w = s.w ∧ e = upd (upd (upd (upd e0 0 w0_0) 3 (.int .i64 x9.1)) 4 (.int .i64 x3.2)) 5 (.int .i64 x9.2) ∧ Kp s0 s) ⟨s4, _, rfl, (ue (ue (ue (ue rfl rfl) rfl) rfl) rfl), Kx3⟩ (fun g9 ih9 => ?_)
      rintro x9 _ _ ⟨s10, _, rfl, rfl, Kx9⟩
      unfold spec_Crc.b1
      refine sq ?_
      refine sr ?_
      refine pu rfl rfl rfl rfl rfl ?_
      refine pu rfl rfl rfl rfl rfl ?_
      refine dn ?_
      refine cd rfl (fun h11 => ?_) (fun h11 => ?_)
      ·
        refine sk ?_
        refine sq ?_
        refine bl ?_
        refine sr ?_
        refine pu rfl rfl rfl rfl rfl ?_
        refine remK rfl rfl rfl rfl rfl rfl rfl rfl ?_
        refine pu rfl rfl rfl rfl rfl ?_
        refine dn ?_
        refine sr ?_
        refine pu rfl rfl rfl rfl rfl ?_
        refine quoK rfl rfl rfl rfl rfl rfl rfl rfl ?_
        refine pu rfl rfl rfl rfl rfl ?_
        refine dn ?_
        refine sr ?_
        refine pu rfl rfl rfl rfl rfl ?_
        refine pu rfl rfl rfl rfl rfl ?_
        refine dn ?_
        refine jc (fun (y12 : Int) (e : Env) (w : World) => ∃ (s : St) (e0 : Env), w = s.w ∧ e = upd (upd (upd (upd e0 0 w0_0) 3 (.int .i64 y12)) 4 (.int .i64 x3.2)) 5 (.int .i64 x9.2) ∧ Kp s0 s) (fun Gj12 Kj12 => ?_) ?_
        ·
          refine cd rfl (fun h13 => ?_) (fun h13 => ?_)
          ·
            refine rg ?_
            refine pu rfl rfl rfl rfl rfl ?_
            refine pu rfl rfl rfl rfl rfl ?_
            refine pu rfl rfl rfl rfl rfl ?_
            refine dn ?_
            exact Kj12 _ _ _ ⟨s10, _, rfl, (ue (ue (ue (ue rfl rfl) rfl) rfl) rfl), Kx9⟩
          ·
            refine sk ?_
            exact Kj12 _ _ _ ⟨s10, _, rfl, (ue (ue (ue (ue rfl rfl) rfl) rfl) rfl), Kx9⟩
        rintro y12 _ _ ⟨s14, _, rfl, rfl, Ky12⟩
        refine ib ?_
        refine rg ?_
        refine pu rfl rfl rfl rfl rfl ?_
        refine pu rfl rfl rfl rfl rfl ?_
        refine pu rfl rfl rfl rfl rfl ?_
        refine dn ?_
        exact lb ih9 ⟨s14, _, rfl, (ue (ue (ue (ue rfl rfl) rfl) rfl) rfl), Ky12⟩
      ·
        refine xt rfl ?_
        refine sgb ?_
        refine ib ?_
        refine rg ?_
        refine pu rfl rfl rfl rfl rfl ?_
        refine pu rfl rfl rfl rfl rfl ?_
        refine pu rfl rfl rfl rfl rfl ?_
        refine dn ?_
        exact lb ih3 ⟨s10, _, rfl, (ue (ue (ue rfl rfl) rfl) rfl), Kx9⟩
    ·
      refine xt rfl ?_
      refine sgb ?_
      refine sr ?_
      refine pu rfl rfl rfl rfl rfl ?_
      refine pu rfl rfl rfl rfl rfl ?_
      refine pu rfl rfl rfl rfl rfl ?_
      refine dn ?_
      exact re rfl Try.func57 rfl (r_t rfl r_nil) rfl ⟨_, rfl, rfl, z.ky Kx3⟩
noncomputable def spec_Frame.f (a0 : Int) (a1 : (List Int)) : Option ((List Int)) :=
  (if (((decide (a0 < (1 : Int))) || (decide (a0 > (255 : Int)))) || (decide ((a1.length : Int) > (1000 : Int)))) = true then (some ([] : (List Int))) else (if ([] : (List Int)).length + ([(IntKind.wrap .u8 a0)]).length ≤ Lim then ((spec_PutNum.f (a1.length : Int) (2 : Int)).bind fun r11 => (if (([] : (List Int)) ++ [(IntKind.wrap .u8 a0)]).length + r11.length ≤ Lim then (if ((([] : (List Int)) ++ [(IntKind.wrap .u8 a0)]) ++ r11).length + a1.length ≤ Lim then ((spec_Crc.f (((([] : (List Int)) ++ [(IntKind.wrap .u8 a0)]) ++ r11) ++ a1)).bind fun r21 => ((spec_PutNum.f r21 (4 : Int)).bind fun r23 => (if (((([] : (List Int)) ++ [(IntKind.wrap .u8 a0)]) ++ r11) ++ a1).length + r23.length ≤ Lim then (some ((((([] : (List Int)) ++ [(IntKind.wrap .u8 a0)]) ++ r11) ++ a1) ++ r23)) else none))) else none) else none)) else none))
def spec_Frame.Q (w : World) (F : Nat → Prop) (r : (List Int)) (v : Value) (w' : World) : Prop :=
  FO (Kd.sl 5 (Kd.int .u8)) w w' [v] r ∧ Ky [] w w'
set_option maxHeartbeats 4000000 in
set_option maxRecDepth 100000 in
theorem spec_Frame.calls (a0 : Int) (a1 : (List Int)) (w : World) (F : Nat → Prop) (w1_0 : Value) (h1_0 : (Kd.sl 5 (Kd.int .u8)).rd w [w1_0] a1 F) (r : (List Int)) (m : spec_Frame.f a0 a1 = some r) :
    Calls Try.prog 33 #[(.int .i64 a0), w1_0] w fun en w' => ∃ v, en = .returned v ∧ spec_Frame.Q w F r v w' := by
  obtain ⟨s0, rfl, kp0, z⟩ := start0 w F
  have A1_0 := z.rd h1_0
  refine calls_of_TM (args := [(.int .i64 a0), w1_0]) (R := fun r en w' => ∃ v, en = .returned v ∧ spec_Frame.Q s0.w F r v w') Try.func33 Try.ntmps33 rfl rfl m ?_
  unfold spec_Frame.f
  refine sr ?_
  refine pu rfl rfl rfl rfl rfl ?_
  refine dn ?_
  refine sr ?_
  refine pu rfl rfl rfl rfl rfl ?_
  refine dn ?_
  refine sq ?_
  refine sr ?_
  refine pu rfl rfl rfl rfl rfl ?_
  refine pu rfl rfl rfl rfl rfl ?_
  refine pu rfl rfl rfl rfl rfl ?_
  refine jy [8, 9, 10, 11] [6, 7, 8, 9, 10] 11 (.bool ((decide (a0 < (1 : Int))) || (decide (a0 > (255 : Int))))) rfl (fun Kg2 => ?_) (fun j2 => ?_)
  ·
    rcases Bool.eq_false_or_eq_true (decide (a0 < (1 : Int))) with hb2 | hb2
    ·
      refine sbT hb2 ?_
      refine uw rfl rfl rfl rfl ?_
      refine uw rfl rfl rfl rfl ?_
      refine pu rfl rfl rfl rfl rfl ?_
      exact Kg2 _ (Ag.put ((Ag.put ((Ag.put (Ag.base rfl) rfl)) rfl)) rfl) (by rw [hb2]; rfl)
    ·
      refine sbT hb2 ?_
      refine pu rfl rfl rfl rfl rfl ?_
      refine pu rfl rfl rfl rfl rfl ?_
      refine pu rfl rfl rfl rfl rfl ?_
      exact Kg2 _ (Ag.put ((Ag.put ((Ag.put (Ag.base rfl) rfl)) rfl)) rfl) (by rw [hb2]; rfl)
  refine pu rfl rfl rfl rfl rfl ?_
  refine jy [12, 13, 14, 15, 16] [] 16 (.bool (((decide (a0 < (1 : Int))) || (decide (a0 > (255 : Int)))) || (decide ((a1.length : Int) > (1000 : Int))))) rfl (fun Kg3 => ?_) (fun j3 => ?_)
  ·
    rcases Bool.eq_false_or_eq_true ((decide (a0 < (1 : Int))) || (decide (a0 > (255 : Int)))) with hb3 | hb3
    ·
      refine sbT hb3 ?_
      refine uw rfl rfl rfl rfl ?_
      refine uw rfl rfl rfl rfl ?_
      refine uw rfl rfl rfl rfl ?_
      refine pu rfl rfl rfl rfl rfl ?_
      exact Kg3 _ (Ag.put ((Ag.put ((Ag.put ((Ag.put (Ag.base rfl) rfl)) rfl)) rfl)) rfl) (by rw [hb3]; rfl)
    ·
      refine sbT hb3 ?_
      refine mv w1_0 rfl rfl rfl rfl rfl rfl ?_
      refine ln A1_0 Try.underlying24 rfl rfl rfl rfl rfl rfl ?_
      refine pu rfl rfl rfl rfl rfl ?_
      refine pu rfl rfl rfl rfl rfl ?_
      exact Kg3 _ (Ag.put ((Ag.put ((Ag.put ((Ag.put (Ag.base rfl) rfl)) rfl)) rfl)) rfl) (by rw [hb3]; rfl)
  refine dn ?_
  refine cd rfl (fun h4 => ?_) (fun h4 => ?_)
  ·
    refine sr ?_
    refine pu rfl rfl rfl rfl rfl ?_
    refine pu rfl rfl rfl rfl rfl ?_
    refine dn ?_
    exact re rfl Try.func33 rfl (r_t rfl r_nil) rfl ⟨_, rfl, (ow_nil 5 (Kd.int .u8) s0 10).fo kp0 rfl, z.ky kp0⟩
  ·
    refine sk ?_
    refine sr ?_
    refine pu rfl rfl rfl rfl rfl ?_
    refine pu rfl rfl rfl rfl rfl ?_
    refine cv Try.underlying5 Try.underlying3 rfl rfl rfl rfl rfl rfl ?_
    refine ltF (K := (Kd.int .u8)) (cells := [(.int .u8 (IntKind.wrap .u8 a0))]) [(IntKind.wrap .u8 a0)] 10 fl_int Try.underlying24 z5 o5 (fun w => (els_flat _ _ _)) rfl rfl rfl rfl rfl rfl rfl rfl rfl rfl (fun v5 s5 p5 A5 => ?_)
    refine apF fl_int sl24 (ow_nil 5 (Kd.int .u8) s5 11) A5.rd rfl rfl rfl rfl rfl rfl rfl (fun v7 s7 p7 A7 => ?_)
    refine asg v7 rfl rfl rfl rfl rfl rfl ?_
    refine dn ?_
    refine sr ?_
    refine mv v7 rfl rfl rfl rfl rfl rfl ?_
    refine mv w1_0 rfl rfl rfl rfl rfl rfl ?_
    have K9 := ((kp0.st p5 rfl).st p7 rfl)
    have A10 := (A1_0.kp K9)
    refine ln A10 Try.underlying24 rfl rfl rfl rfl rfl rfl ?_
    refine cl rfl rfl rfl rfl rfl Try.func31 rfl rfl rfl (fun r11 m11 => spec_PutNum.calls (a1.length : Int) (2 : Int) s7.w (fun b => memb [] (s7.g b) = true)  r11 m11) ?_
    rintro r11 v11_0 w11 m11 ⟨f11_0, ky11⟩
    obtain ⟨s12, rfl, p12, n12⟩ := nwx s7 w11 12 ky11
    have A11_0 := f11_0.c n12
    have A14 := (A7.st p12 rfl)
    refine apF fl_int sl24 A14 A11_0.rd rfl rfl rfl rfl rfl rfl rfl (fun v15 s15 p15 A15 => ?_)
    refine asg v15 rfl rfl rfl rfl rfl rfl ?_
    refine dn ?_
    refine sr ?_
    refine mv v15 rfl rfl rfl rfl rfl rfl ?_
    refine mv w1_0 rfl rfl rfl rfl rfl rfl ?_
    have K17 := ((K9.st p12 rfl).st p15 rfl)
    have A18 := (A1_0.kp K17)
    refine apF fl_int sl24 A15 A18 rfl rfl rfl rfl rfl rfl rfl (fun v19 s19 p19 A19 => ?_)
    refine asg v19 rfl rfl rfl rfl rfl rfl ?_
    refine dn ?_
    refine sr ?_
    refine mv v19 rfl rfl rfl rfl rfl rfl ?_
    refine mv v19 rfl rfl rfl rfl rfl rfl ?_
    refine cl rfl rfl rfl rfl rfl Try.func57 rfl rfl rfl (fun r21 m21 => spec_Crc.calls (((([] : (List Int)) ++ [(IntKind.wrap .u8 a0)]) ++ r11) ++ a1) s19.w (fun b => memb [11] (s19.g b) = true) v19 A19.rd r21 m21) ?_
    rintro r21 _ w21 m21 ⟨rfl, ky21⟩
    obtain ⟨s22, rfl, p22, n22⟩ := nwx s19 w21 13 ky21
    refine cl rfl rfl rfl rfl rfl Try.func31 rfl rfl rfl (fun r23 m23 => spec_PutNum.calls r21 (4 : Int) s22.w (fun b => memb [] (s22.g b) = true)  r23 m23) ?_
    rintro r23 v23_0 w23 m23 ⟨f23_0, ky23⟩
    obtain ⟨s24, rfl, p24, n24⟩ := nwx s22 w23 14 ky23
    have A23_0 := f23_0.c n24
    have A26 := ((A19.st p22 rfl).st p24 rfl)
    refine apF fl_int sl24 A26 A23_0.rd rfl rfl rfl rfl rfl rfl rfl (fun v27 s27 p27 A27 => ?_)
    refine asg v27 rfl rfl rfl rfl rfl rfl ?_
    refine dn ?_
    have K29 := ((((K17.st p19 rfl).st p22 rfl).st p24 rfl).st p27 rfl)
    exact re rfl Try.func33 rfl (r_t rfl r_nil) rfl ⟨_, rfl, A27.fo K29 rfl, z.ky K29⟩
noncomputable def spec_l17fill.b0 (a0 : (List Int)) (x4 : (List Int) × Int) : Option (((List Int) × Int) ⊕ (List Int)) :=
  (if ((decide (x4.2 < (a0.length : Int))) && (decide (x4.2 < (x4.1.length : Int)))) = true then (if 0 ≤ x4.2 ∧ x4.2 < (a0.length : Int) then (if 0 ≤ x4.2 ∧ x4.2 < (x4.1.length : Int) then (some (.inl ((x4.1.set (x4.2).toNat (at_ a0 x4.2)), (IntKind.wrap .i64 (x4.2 + (1 : Int)))))) else none) else none) else ((some x4.1).bind fun o => some (.inr o)))
noncomputable def spec_l17fill.f (a0 : (List Int)) : Option ((List Int)) :=
  (if 0 ≤ (64 : Int) ∧ (64 : Int) ≤ (Lim : Int) then (iter (spec_l17fill.b0 a0) ((List.replicate ((64 : Int)).toNat (0 : Int)), (0 : Int))) else none)
def spec_l17fill.Q (w : World) (F : Nat → Prop) (r : (List Int)) (v : Value) (w' : World) : Prop :=
  FO (Kd.sl 5 (Kd.int .u8)) w w' [v] r ∧ Ky [] w w'
set_option maxHeartbeats 4000000 in
set_option maxRecDepth 100000 in
theorem spec_l17fill.calls (a0 : (List Int)) (w : World) (F : Nat → Prop) (w0_0 : Value) (h0_0 : (Kd.sl 5 (Kd.int .u8)).rd w [w0_0] a0 F) (r : (List Int)) (m : spec_l17fill.f a0 = some r) :
    Calls Try.prog 32 #[w0_0] w fun en w' => ∃ v, en = .returned v ∧ spec_l17fill.Q w F r v w' := by
  obtain ⟨s0, rfl, kp0, z⟩ := start0 w F
  have A0_0 := z.rd h0_0
  refine calls_of_TM (args := [w0_0]) (R := fun r en w' => ∃ v, en = .returned v ∧ spec_l17fill.Q s0.w F r v w') Try.func32 Try.ntmps32 rfl rfl m ?_
  unfold spec_l17fill.f
  refine sr ?_
  refine pu rfl rfl rfl rfl rfl ?_
  refine dn ?_
  refine sr ?_
  refine mk (x0 := (0 : Int)) (K := (Kd.int .u8)) 10 sl24 o5 (fun _ => ⟨rfl, rfl⟩) rfl rfl rfl rfl rfl rfl rfl (fun v2 s2 p2 A2 => ?_)
  refine asg v2 rfl rfl rfl rfl rfl rfl ?_
  refine dn ?_
  refine sq ?_
  refine sr ?_
  refine pu rfl rfl rfl rfl rfl ?_
  refine dn ?_
  refine bl ?_
  have K5 := (kp0.st p2 rfl)
  refine lpI (fun (x4 : (List Int) × Int) (e : Env) (w : World) => ∃ (s : St) (e0 : Env), w = s.w ∧ e = upd (upd (upd e0 0 w0_0) 3 v2) 4 (.int .i64 x4.2) ∧ Kp s0 s ∧ OwF (Kd.sl 5 (Kd.int .u8)) s [v2] x4.1 10) ⟨s2, _, rfl, (ue (ue (ue rfl rfl) rfl) rfl), K5, A2⟩ (fun g4 ih4 => ?_)
  rintro x4 _ _ ⟨s6, _, rfl, rfl, Kx4, Ax4_0⟩
  unfold spec_l17fill.b0
  refine sq ?_
  refine sr ?_
  refine pu rfl rfl rfl rfl rfl ?_
  refine mv w0_0 rfl rfl rfl rfl rfl rfl ?_
  have A8 := (A0_0.kp Kx4)
  refine ln A8 Try.underlying24 rfl rfl rfl rfl rfl rfl ?_
  refine pu rfl rfl rfl rfl rfl ?_
  refine pu rfl rfl rfl rfl rfl ?_
  refine jy [10, 11, 12, 13, 14, 15] [] 15 (.bool ((decide (x4.2 < (a0.length : Int))) && (decide (x4.2 < (x4.1.length : Int))))) rfl (fun Kg9 => ?_) (fun j9 => ?_)
  ·
    rcases Bool.eq_false_or_eq_true (decide (x4.2 < (a0.length : Int))) with hb9 | hb9
    ·
      refine sbT hb9 ?_
      refine pu rfl rfl rfl rfl rfl ?_
      refine mv v2 rfl rfl rfl rfl rfl rfl ?_
      refine ln Ax4_0.rd Try.underlying24 rfl rfl rfl rfl rfl rfl ?_
      refine pu rfl rfl rfl rfl rfl ?_
      refine pu rfl rfl rfl rfl rfl ?_
      exact Kg9 _ (Ag.put ((Ag.put ((Ag.put ((Ag.put ((Ag.put (Ag.base rfl) rfl)) rfl)) rfl)) rfl)) rfl) (by rw [hb9]; rfl)
    ·
      refine sbT hb9 ?_
      refine uw rfl rfl rfl rfl ?_
      refine uw rfl rfl rfl rfl ?_
      refine uw rfl rfl rfl rfl ?_
      refine uw rfl rfl rfl rfl ?_
      refine pu rfl rfl rfl rfl rfl ?_
      exact Kg9 _ (Ag.put ((Ag.put ((Ag.put ((Ag.put ((Ag.put (Ag.base rfl) rfl)) rfl)) rfl)) rfl)) rfl) (by rw [hb9]; rfl)
  refine dn ?_
  refine cd rfl (fun h10 => ?_) (fun h10 => ?_)
  ·
    refine sk ?_
    refine sq ?_
    refine bl ?_
    refine rg ?_
    refine mv v2 rfl rfl rfl rfl rfl rfl ?_
    refine pu rfl rfl rfl rfl rfl ?_
    refine mv w0_0 rfl rfl rfl rfl rfl rfl ?_
    refine pu rfl rfl rfl rfl rfl ?_
    refine ix A8 Try.underlying24 z5 rfl rfl rfl rfl rfl rfl rfl rfl (fun ad11 es11 h0_11 h1_11 he11 ce11 ia11 => ?_)
    obtain rfl := he11
    refine lc0 ce11 Try.underlying5 rfl rfl rfl rfl rfl rfl rfl rfl ?_
    refine ix Ax4_0.rd Try.underlying24 z5 rfl rfl rfl rfl rfl rfl rfl rfl (fun ad13 es13 h0_13 h1_13 he13 ce13 ia13 => ?_)
    obtain rfl := he13
    refine so (x' := (at_ a0 x4.2)) Ax4_0 ia13 h0_13 h1_13 cs_flat z5 rfl rfl rfl rfl rfl rfl (fun s15 p15 A15 => ?_)
    refine dn ?_
    refine ib ?_
    refine rg ?_
    refine pu rfl rfl rfl rfl rfl ?_
    refine pu rfl rfl rfl rfl rfl ?_
    refine pu rfl rfl rfl rfl rfl ?_
    refine dn ?_
    have K17 := (Kx4.st p15 rfl)
    exact lb ih4 ⟨s15, _, rfl, (ue (ue (ue rfl rfl) rfl) rfl), K17, A15⟩
  ·
    refine xt rfl ?_
    refine sgb ?_
    refine sr ?_
    refine mv v2 rfl rfl rfl rfl rfl rfl ?_
    refine asg v2 rfl rfl rfl rfl rfl rfl ?_
    refine dn ?_
    exact re rfl Try.func32 rfl (r_t rfl r_nil) rfl ⟨_, rfl, Ax4_0.fo Kx4 rfl, z.ky Kx4⟩
noncomputable def spec_ControlBytes.f (a0 : Control) : Option ((List Int)) :=
  ((spec_l5in.f a0.Seq (1 : Int) (1000000 : Int)).bind fun r3 => ((if (!r3) = true then (some true) else ((spec_l5in.f a0.Area (0 : Int) (1 : Int)).bind fun r9 => (some (!r9)))).bind fun y5 => ((if y5 = true then (some true) else ((spec_l5in.f a0.Lsn (1 : Int) (1000000 : Int)).bind fun r16 => (some (!r16)))).bind fun y15 => ((if y15 = true then (some true) else ((spec_l5in.f a0.Next (1 : Int) (401 : Int)).bind fun r23 => (some (!r23)))).bind fun y22 => ((if y22 = true then (some true) else ((spec_l5in.f a0.Pages (0 : Int) (16 : Int)).bind fun r30 => (some (!r30)))).bind fun y29 => (if y29 = true then (some ([] : (List Int))) else ((spec_PutNum.f a0.Seq (4 : Int)).bind fun r37 => (if r37.length + ([(IntKind.wrap .u8 a0.Area)]).length ≤ Lim then ((spec_PutNum.f a0.Lsn (4 : Int)).bind fun r47 => (if (r37 ++ [(IntKind.wrap .u8 a0.Area)]).length + r47.length ≤ Lim then ((spec_PutNum.f a0.Next (4 : Int)).bind fun r54 => (if ((r37 ++ [(IntKind.wrap .u8 a0.Area)]) ++ r47).length + r54.length ≤ Lim then (if (((r37 ++ [(IntKind.wrap .u8 a0.Area)]) ++ r47) ++ r54).length + ([(IntKind.wrap .u8 a0.Pages)]).length ≤ Lim then ((spec_Frame.f (9 : Int) ((((r37 ++ [(IntKind.wrap .u8 a0.Area)]) ++ r47) ++ r54) ++ [(IntKind.wrap .u8 a0.Pages)])).bind fun r66 => ((spec_l17fill.f r66).bind fun r69 => (some r69))) else none) else none)) else none)) else none))))))))
def spec_ControlBytes.Q (w : World) (F : Nat → Prop) (r : (List Int)) (v : Value) (w' : World) : Prop :=
  FO (Kd.sl 5 (Kd.int .u8)) w w' [v] r ∧ Ky [] w w'
set_option maxHeartbeats 4000000 in
set_option maxRecDepth 100000 in
theorem spec_ControlBytes.calls (a0 : Control) (w : World) (F : Nat → Prop)   (r : (List Int)) (m : spec_ControlBytes.f a0 = some r) :
    Calls Try.prog 7 #[(.agg #[(.int .i64 a0.Seq), (.int .i64 a0.Area), (.int .i64 a0.Lsn), (.int .i64 a0.Next), (.int .i64 a0.Pages)])] w fun en w' => ∃ v, en = .returned v ∧ spec_ControlBytes.Q w F r v w' := by
  obtain ⟨s0, rfl, kp0, z⟩ := start0 w F
  refine calls_of_TM (args := [(.agg #[(.int .i64 a0.Seq), (.int .i64 a0.Area), (.int .i64 a0.Lsn), (.int .i64 a0.Next), (.int .i64 a0.Pages)])]) (R := fun r en w' => ∃ v, en = .returned v ∧ spec_ControlBytes.Q s0.w F r v w') Try.func7 Try.ntmps7 rfl rfl m ?_
  unfold spec_ControlBytes.f
  refine sr ?_
  refine bx (cs := [(.int .i64 a0.Seq), (.int .i64 a0.Area), (.int .i64 a0.Lsn), (.int .i64 a0.Next), (.int .i64 a0.Pages)]) 10 rfl rfl rfl rfl rfl rfl (fun b1 s1 p1 B1 => ?_)
  refine pu rfl rfl rfl rfl rfl ?_
  refine dn ?_
  refine sq ?_
  refine sr ?_
  refine fa fa26_0 rfl rfl rfl rfl rfl rfl ?_
  refine ld B1 Try.underlying3 rfl rfl rfl rfl rfl rfl rfl rfl ?_
  refine cl rfl rfl rfl rfl rfl Try.func30 rfl rfl rfl (fun r3 m3 => spec_l5in.calls a0.Seq (1 : Int) (1000000 : Int) s1.w (fun b => memb [] (s1.g b) = true)  r3 m3) ?_
  rintro r3 _ w3 m3 ⟨rfl, ky3⟩
  obtain ⟨s4, rfl, p4, n4⟩ := nwx s1 w3 11 ky3
  refine pu rfl rfl rfl rfl rfl ?_
  refine pu rfl rfl rfl rfl rfl ?_
  refine ji [10, 11, 12, 13, 14, 15, 16, 17, 18, 19, 20, 21, 22, 23, 24, 25, 26, 27] (fun (y5 : Bool) (e : Env) (w : World) => ∃ (s : St) (e0 : Env), w = s.w ∧ e = upd (upd e0 1 (.pointer (some ⟨b1, 0, none⟩))) 13 (.bool y5) ∧ Kp s0 s ∧ BlF s b1 26 [(.int .i64 a0.Seq), (.int .i64 a0.Area), (.int .i64 a0.Lsn), (.int .i64 a0.Next), (.int .i64 a0.Pages)] 10) (fun Gj5 Kj5 => ?_) ?_
  ·
    rcases Bool.eq_false_or_eq_true (!r3) with hb5 | hb5
    ·
      refine sbT hb5 ?_
      rw [if_pos hb5]
      refine uw rfl rfl rfl rfl ?_
      refine uw rfl rfl rfl rfl ?_
      refine uw rfl rfl rfl rfl ?_
      refine uw rfl rfl rfl rfl ?_
      refine pu rfl rfl rfl rfl rfl ?_
      have A6 := (BlF.st B1 p4 rfl)
      have K7 := ((kp0.st p1 rfl).st p4 rfl)
      exact Kj5 _ _ _ ⟨s4, _, rfl, (ue (ue rfl rfl) rfl), K7, A6⟩
    ·
      refine sbT hb5 ?_
      rw [if_neg (by rw [hb5]; decide)]
      refine fa fa26_1 rfl rfl rfl rfl rfl rfl ?_
      have A8 := (BlF.st B1 p4 rfl)
      refine ld A8 Try.underlying3 rfl rfl rfl rfl rfl rfl rfl rfl ?_
      refine cl rfl rfl rfl rfl rfl Try.func30 rfl rfl rfl (fun r9 m9 => spec_l5in.calls a0.Area (0 : Int) (1 : Int) s4.w (fun b => memb [] (s4.g b) = true)  r9 m9) ?_
      rintro r9 _ w9 m9 ⟨rfl, ky9⟩
      obtain ⟨s10, rfl, p10, n10⟩ := nwx s4 w9 12 ky9
      refine pu rfl rfl rfl rfl rfl ?_
      refine pu rfl rfl rfl rfl rfl ?_
      have A11 := (BlF.st A8 p10 rfl)
      have K12 := (((kp0.st p1 rfl).st p4 rfl).st p10 rfl)
      exact Kj5 _ _ _ ⟨s10, _, rfl, (ue (ue rfl rfl) rfl), K12, A11⟩
  rintro y5 _ _ ⟨s13, _, rfl, rfl, Ky5, By5_b1⟩
  refine pu rfl rfl rfl rfl rfl ?_
  refine ji [16, 17, 18, 19, 20, 21, 22, 23, 24, 25, 26, 27] (fun (y15 : Bool) (e : Env) (w : World) => ∃ (s : St) (e0 : Env), w = s.w ∧ e = upd (upd e0 1 (.pointer (some ⟨b1, 0, none⟩))) 19 (.bool y15) ∧ Kp s0 s ∧ BlF s b1 26 [(.int .i64 a0.Seq), (.int .i64 a0.Area), (.int .i64 a0.Lsn), (.int .i64 a0.Next), (.int .i64 a0.Pages)] 10) (fun Gj15 Kj15 => ?_) ?_
  ·
    rcases Bool.eq_false_or_eq_true y5 with hb15 | hb15
    ·
      refine sbT hb15 ?_
      rw [if_pos hb15]
      refine uw rfl rfl rfl rfl ?_
      refine uw rfl rfl rfl rfl ?_
      refine uw rfl rfl rfl rfl ?_
      refine uw rfl rfl rfl rfl ?_
      refine pu rfl rfl rfl rfl rfl ?_
      exact Kj15 _ _ _ ⟨s13, _, rfl, (ue (ue rfl rfl) rfl), Ky5, By5_b1⟩
    ·
      refine sbT hb15 ?_
      rw [if_neg (by rw [hb15]; decide)]
      refine fa fa26_2 rfl rfl rfl rfl rfl rfl ?_
      refine ld By5_b1 Try.underlying3 rfl rfl rfl rfl rfl rfl rfl rfl ?_
      refine cl rfl rfl rfl rfl rfl Try.func30 rfl rfl rfl (fun r16 m16 => spec_l5in.calls a0.Lsn (1 : Int) (1000000 : Int) s13.w (fun b => memb [] (s13.g b) = true)  r16 m16) ?_
      rintro r16 _ w16 m16 ⟨rfl, ky16⟩
      obtain ⟨s17, rfl, p17, n17⟩ := nwx s13 w16 13 ky16
      refine pu rfl rfl rfl rfl rfl ?_
      refine pu rfl rfl rfl rfl rfl ?_
      have A18 := (BlF.st By5_b1 p17 rfl)
      have K19 := (Ky5.st p17 rfl)
      exact Kj15 _ _ _ ⟨s17, _, rfl, (ue (ue rfl rfl) rfl), K19, A18⟩
  rintro y15 _ _ ⟨s20, _, rfl, rfl, Ky15, By15_b1⟩
  refine pu rfl rfl rfl rfl rfl ?_
  refine ji [22, 23, 24, 25, 26, 27] (fun (y22 : Bool) (e : Env) (w : World) => ∃ (s : St) (e0 : Env), w = s.w ∧ e = upd (upd e0 1 (.pointer (some ⟨b1, 0, none⟩))) 25 (.bool y22) ∧ Kp s0 s ∧ BlF s b1 26 [(.int .i64 a0.Seq), (.int .i64 a0.Area), (.int .i64 a0.Lsn), (.int .i64 a0.Next), (.int .i64 a0.Pages)] 10) (fun Gj22 Kj22 => ?_) ?_
  ·
    rcases Bool.eq_false_or_eq_true y15 with hb22 | hb22
    ·
      refine sbT hb22 ?_
      rw [if_pos hb22]
      refine uw rfl rfl rfl rfl ?_
      refine uw rfl rfl rfl rfl ?_
      refine uw rfl rfl rfl rfl ?_
      refine uw rfl rfl rfl rfl ?_
      refine pu rfl rfl rfl rfl rfl ?_
      exact Kj22 _ _ _ ⟨s20, _, rfl, (ue (ue rfl rfl) rfl), Ky15, By15_b1⟩
    ·
      refine sbT hb22 ?_
      rw [if_neg (by rw [hb22]; decide)]
      refine fa fa26_3 rfl rfl rfl rfl rfl rfl ?_
      refine ld By15_b1 Try.underlying3 rfl rfl rfl rfl rfl rfl rfl rfl ?_
      refine cl rfl rfl rfl rfl rfl Try.func30 rfl rfl rfl (fun r23 m23 => spec_l5in.calls a0.Next (1 : Int) (401 : Int) s20.w (fun b => memb [] (s20.g b) = true)  r23 m23) ?_
      rintro r23 _ w23 m23 ⟨rfl, ky23⟩
      obtain ⟨s24, rfl, p24, n24⟩ := nwx s20 w23 14 ky23
      refine pu rfl rfl rfl rfl rfl ?_
      refine pu rfl rfl rfl rfl rfl ?_
      have A25 := (BlF.st By15_b1 p24 rfl)
      have K26 := (Ky15.st p24 rfl)
      exact Kj22 _ _ _ ⟨s24, _, rfl, (ue (ue rfl rfl) rfl), K26, A25⟩
  rintro y22 _ _ ⟨s27, _, rfl, rfl, Ky22, By22_b1⟩
  refine pu rfl rfl rfl rfl rfl ?_
  refine ji [] (fun (y29 : Bool) (e : Env) (w : World) => ∃ (s : St) (e0 : Env), w = s.w ∧ e = upd (upd e0 1 (.pointer (some ⟨b1, 0, none⟩))) 31 (.bool y29) ∧ Kp s0 s ∧ BlF s b1 26 [(.int .i64 a0.Seq), (.int .i64 a0.Area), (.int .i64 a0.Lsn), (.int .i64 a0.Next), (.int .i64 a0.Pages)] 10) (fun Gj29 Kj29 => ?_) ?_
  ·
    rcases Bool.eq_false_or_eq_true y22 with hb29 | hb29
    ·
      refine sbT hb29 ?_
      rw [if_pos hb29]
      refine uw rfl rfl rfl rfl ?_
      refine uw rfl rfl rfl rfl ?_
      refine uw rfl rfl rfl rfl ?_
      refine uw rfl rfl rfl rfl ?_
      refine pu rfl rfl rfl rfl rfl ?_
      exact Kj29 _ _ _ ⟨s27, _, rfl, (ue (ue rfl rfl) rfl), Ky22, By22_b1⟩
    ·
      refine sbT hb29 ?_
      rw [if_neg (by rw [hb29]; decide)]
      refine fa fa26_4 rfl rfl rfl rfl rfl rfl ?_
      refine ld By22_b1 Try.underlying3 rfl rfl rfl rfl rfl rfl rfl rfl ?_
      refine cl rfl rfl rfl rfl rfl Try.func30 rfl rfl rfl (fun r30 m30 => spec_l5in.calls a0.Pages (0 : Int) (16 : Int) s27.w (fun b => memb [] (s27.g b) = true)  r30 m30) ?_
      rintro r30 _ w30 m30 ⟨rfl, ky30⟩
      obtain ⟨s31, rfl, p31, n31⟩ := nwx s27 w30 15 ky30
      refine pu rfl rfl rfl rfl rfl ?_
      refine pu rfl rfl rfl rfl rfl ?_
      have A32 := (BlF.st By22_b1 p31 rfl)
      have K33 := (Ky22.st p31 rfl)
      exact Kj29 _ _ _ ⟨s31, _, rfl, (ue (ue rfl rfl) rfl), K33, A32⟩
  rintro y29 _ _ ⟨s34, _, rfl, rfl, Ky29, By29_b1⟩
  refine dn ?_
  refine cd rfl (fun h36 => ?_) (fun h36 => ?_)
  ·
    refine sr ?_
    refine pu rfl rfl rfl rfl rfl ?_
    refine dn ?_
    exact re rfl Try.func7 rfl (r_t rfl r_nil) rfl ⟨_, rfl, (ow_nil 5 (Kd.int .u8) s34 10).fo Ky29 rfl, z.ky Ky29⟩
  ·
    refine sk ?_
    refine sr ?_
    refine fa fa26_0 rfl rfl rfl rfl rfl rfl ?_
    refine ld By29_b1 Try.underlying3 rfl rfl rfl rfl rfl rfl rfl rfl ?_
    refine cl rfl rfl rfl rfl rfl Try.func31 rfl rfl rfl (fun r37 m37 => spec_PutNum.calls a0.Seq (4 : Int) s34.w (fun b => memb [] (s34.g b) = true)  r37 m37) ?_
    rintro r37 v37_0 w37 m37 ⟨f37_0, ky37⟩
    obtain ⟨s38, rfl, p38, n38⟩ := nwx s34 w37 16 ky37
    have A37_0 := f37_0.c n38
    refine asg v37_0 rfl rfl rfl rfl rfl rfl ?_
    refine dn ?_
    refine sr ?_
    refine mv v37_0 rfl rfl rfl rfl rfl rfl ?_
    refine fa fa26_1 rfl rfl rfl rfl rfl rfl ?_
    have A40 := (BlF.st By29_b1 p38 rfl)
    refine ld A40 Try.underlying3 rfl rfl rfl rfl rfl rfl rfl rfl ?_
    refine cv Try.underlying5 Try.underlying3 rfl rfl rfl rfl rfl rfl ?_
    refine ltF (K := (Kd.int .u8)) (cells := [(.int .u8 (IntKind.wrap .u8 a0.Area))]) [(IntKind.wrap .u8 a0.Area)] 17 fl_int Try.underlying24 z5 o5 (fun w => (els_flat _ _ _)) rfl rfl rfl rfl rfl rfl rfl rfl rfl rfl (fun v41 s41 p41 A41 => ?_)
    have A43 := (A37_0.st p41 rfl)
    refine apF fl_int sl24 A43 A41.rd rfl rfl rfl rfl rfl rfl rfl (fun v44 s44 p44 A44 => ?_)
    refine asg v44 rfl rfl rfl rfl rfl rfl ?_
    refine dn ?_
    refine sr ?_
    refine mv v44 rfl rfl rfl rfl rfl rfl ?_
    refine fa fa26_2 rfl rfl rfl rfl rfl rfl ?_
    have A46 := (BlF.st (BlF.st A40 p41 rfl) p44 rfl)
    refine ld A46 Try.underlying3 rfl rfl rfl rfl rfl rfl rfl rfl ?_
    refine cl rfl rfl rfl rfl rfl Try.func31 rfl rfl rfl (fun r47 m47 => spec_PutNum.calls a0.Lsn (4 : Int) s44.w (fun b => memb [] (s44.g b) = true)  r47 m47) ?_
    rintro r47 v47_0 w47 m47 ⟨f47_0, ky47⟩
    obtain ⟨s48, rfl, p48, n48⟩ := nwx s44 w47 18 ky47
    have A47_0 := f47_0.c n48
    have A50 := (A44.st p48 rfl)
    refine apF fl_int sl24 A50 A47_0.rd rfl rfl rfl rfl rfl rfl rfl (fun v51 s51 p51 A51 => ?_)
    refine asg v51 rfl rfl rfl rfl rfl rfl ?_
    refine dn ?_
    refine sr ?_
    refine mv v51 rfl rfl rfl rfl rfl rfl ?_
    refine fa fa26_3 rfl rfl rfl rfl rfl rfl ?_
    have A53 := (BlF.st (BlF.st A46 p48 rfl) p51 rfl)
    refine ld A53 Try.underlying3 rfl rfl rfl rfl rfl rfl rfl rfl ?_
    refine cl rfl rfl rfl rfl rfl Try.func31 rfl rfl rfl (fun r54 m54 => spec_PutNum.calls a0.Next (4 : Int) s51.w (fun b => memb [] (s51.g b) = true)  r54 m54) ?_
    rintro r54 v54_0 w54 m54 ⟨f54_0, ky54⟩
    obtain ⟨s55, rfl, p55, n55⟩ := nwx s51 w54 19 ky54
    have A54_0 := f54_0.c n55
    have A57 := (A51.st p55 rfl)
    refine apF fl_int sl24 A57 A54_0.rd rfl rfl rfl rfl rfl rfl rfl (fun v58 s58 p58 A58 => ?_)
    refine asg v58 rfl rfl rfl rfl rfl rfl ?_
    refine dn ?_
    refine sr ?_
    refine mv v58 rfl rfl rfl rfl rfl rfl ?_
    refine fa fa26_4 rfl rfl rfl rfl rfl rfl ?_
    have A60 := (BlF.st (BlF.st A53 p55 rfl) p58 rfl)
    refine ld A60 Try.underlying3 rfl rfl rfl rfl rfl rfl rfl rfl ?_
    refine cv Try.underlying5 Try.underlying3 rfl rfl rfl rfl rfl rfl ?_
    refine ltF (K := (Kd.int .u8)) (cells := [(.int .u8 (IntKind.wrap .u8 a0.Pages))]) [(IntKind.wrap .u8 a0.Pages)] 20 fl_int Try.underlying24 z5 o5 (fun w => (els_flat _ _ _)) rfl rfl rfl rfl rfl rfl rfl rfl rfl rfl (fun v61 s61 p61 A61 => ?_)
    have A63 := (A58.st p61 rfl)
    refine apF fl_int sl24 A63 A61.rd rfl rfl rfl rfl rfl rfl rfl (fun v64 s64 p64 A64 => ?_)
    refine asg v64 rfl rfl rfl rfl rfl rfl ?_
    refine dn ?_
    refine sr ?_
    refine mv v64 rfl rfl rfl rfl rfl rfl ?_
    refine cl rfl rfl rfl rfl rfl Try.func33 rfl rfl rfl (fun r66 m66 => spec_Frame.calls (9 : Int) ((((r37 ++ [(IntKind.wrap .u8 a0.Area)]) ++ r47) ++ r54) ++ [(IntKind.wrap .u8 a0.Pages)]) s64.w (fun b => memb [16] (s64.g b) = true) v64 A64.rd r66 m66) ?_
    rintro r66 v66_0 w66 m66 ⟨f66_0, ky66⟩
    obtain ⟨s67, rfl, p67, n67⟩ := nwx s64 w66 21 ky66
    have A66_0 := f66_0.c n67
    refine cl rfl rfl rfl rfl rfl Try.func32 rfl rfl rfl (fun r69 m69 => spec_l17fill.calls r66 s67.w (fun b => memb [21] (s67.g b) = true) v66_0 A66_0.rd r69 m69) ?_
    rintro r69 v69_0 w69 m69 ⟨f69_0, ky69⟩
    obtain ⟨s70, rfl, p70, n70⟩ := nwx s67 w69 22 ky69
    have A69_0 := f69_0.c n70
    refine asg v69_0 rfl rfl rfl rfl rfl rfl ?_
    refine dn ?_
    have K72 := (((((((((((Ky29.st p38 rfl).st p41 rfl).st p44 rfl).st p48 rfl).st p51 rfl).st p55 rfl).st p58 rfl).st p61 rfl).st p64 rfl).st p67 rfl).st p70 rfl)
    exact re rfl Try.func7 rfl (r_t rfl r_nil) rfl ⟨_, rfl, A69_0.fo K72 rfl, z.ky K72⟩
noncomputable def impl_within.f (a0 : Int) (a1 : Int) (a2 : Int) : Option (Bool) :=
  (some ((decide (a1 ≤ a0)) && (decide (a0 ≤ a2))))
def impl_within.Q (w : World) (F : Nat → Prop) (r : Bool) (v : Value) (w' : World) : Prop :=
  v = (.bool r) ∧ Ky [] w w'
set_option maxHeartbeats 4000000 in
set_option maxRecDepth 100000 in
theorem impl_within.calls (a0 : Int) (a1 : Int) (a2 : Int) (w : World) (F : Nat → Prop)   (r : Bool) (m : impl_within.f a0 a1 a2 = some r) :
    Calls Try.prog 34 #[(.int .i64 a0), (.int .i64 a1), (.int .i64 a2)] w fun en w' => ∃ v, en = .returned v ∧ impl_within.Q w F r v w' := by
  obtain ⟨s0, rfl, kp0, z⟩ := start0 w F
  refine calls_of_TM (args := [(.int .i64 a0), (.int .i64 a1), (.int .i64 a2)]) (R := fun r en w' => ∃ v, en = .returned v ∧ impl_within.Q s0.w F r v w') Try.func34 Try.ntmps34 rfl rfl m ?_
  unfold impl_within.f
  refine sr ?_
  refine pu rfl rfl rfl rfl rfl ?_
  refine dn ?_
  refine sr ?_
  refine pu rfl rfl rfl rfl rfl ?_
  refine pu rfl rfl rfl rfl rfl ?_
  refine pu rfl rfl rfl rfl rfl ?_
  refine pu rfl rfl rfl rfl rfl ?_
  refine jy [10, 11, 12, 13, 14] [8] 14 (.bool ((decide (a1 ≤ a0)) && (decide (a0 ≤ a2)))) rfl (fun Kg1 => ?_) (fun j1 => ?_)
  ·
    rcases Bool.eq_false_or_eq_true (decide (a1 ≤ a0)) with hb1 | hb1
    ·
      refine sbT hb1 ?_
      refine pu rfl rfl rfl rfl rfl ?_
      refine pu rfl rfl rfl rfl rfl ?_
      refine pu rfl rfl rfl rfl rfl ?_
      refine pu rfl rfl rfl rfl rfl ?_
      exact Kg1 _ (Ag.put ((Ag.put ((Ag.put ((Ag.put (Ag.base rfl) rfl)) rfl)) rfl)) rfl) (by rw [hb1]; rfl)
    ·
      refine sbT hb1 ?_
      refine uw rfl rfl rfl rfl ?_
      refine uw rfl rfl rfl rfl ?_
      refine uw rfl rfl rfl rfl ?_
      refine pu rfl rfl rfl rfl rfl ?_
      exact Kg1 _ (Ag.put ((Ag.put ((Ag.put ((Ag.put (Ag.base rfl) rfl)) rfl)) rfl)) rfl) (by rw [hb1]; rfl)
  refine pu rfl rfl rfl rfl rfl ?_
  refine dn ?_
  exact re rfl Try.func34 rfl (r_t rfl r_nil) rfl ⟨_, rfl, rfl, z.ky kp0⟩
noncomputable def impl_isLsn.f (a0 : Int) : Option (Bool) :=
  ((impl_within.f a0 (1 : Int) (1000000 : Int)).bind fun r1 => (some r1))
def impl_isLsn.Q (w : World) (F : Nat → Prop) (r : Bool) (v : Value) (w' : World) : Prop :=
  v = (.bool r) ∧ Ky [] w w'
set_option maxHeartbeats 4000000 in
set_option maxRecDepth 100000 in
theorem impl_isLsn.calls (a0 : Int) (w : World) (F : Nat → Prop)   (r : Bool) (m : impl_isLsn.f a0 = some r) :
    Calls Try.prog 35 #[(.int .i64 a0)] w fun en w' => ∃ v, en = .returned v ∧ impl_isLsn.Q w F r v w' := by
  obtain ⟨s0, rfl, kp0, z⟩ := start0 w F
  refine calls_of_TM (args := [(.int .i64 a0)]) (R := fun r en w' => ∃ v, en = .returned v ∧ impl_isLsn.Q s0.w F r v w') Try.func35 Try.ntmps35 rfl rfl m ?_
  unfold impl_isLsn.f
  refine sr ?_
  refine pu rfl rfl rfl rfl rfl ?_
  refine dn ?_
  refine sr ?_
  refine pu rfl rfl rfl rfl rfl ?_
  refine cl rfl rfl rfl rfl rfl Try.func34 rfl rfl rfl (fun r1 m1 => impl_within.calls a0 (1 : Int) (1000000 : Int) s0.w (fun b => memb [] (s0.g b) = true)  r1 m1) ?_
  rintro r1 _ w1 m1 ⟨rfl, ky1⟩
  obtain ⟨s2, rfl, p2, n2⟩ := nwx s0 w1 10 ky1
  refine pu rfl rfl rfl rfl rfl ?_
  refine dn ?_
  have K3 := (kp0.st p2 rfl)
  exact re rfl Try.func35 rfl (r_t rfl r_nil) rfl ⟨_, rfl, rfl, z.ky K3⟩
noncomputable def impl_PutNum.b0 (a1 : Int) (x12 : Int × (List Int) × Int) : Option ((Int × (List Int) × Int) ⊕ (List Int)) :=
  (if (decide (x12.2.2 < a1)) = true then (if x12.2.1.length + ([(IntKind.wrap .u8 x12.1)]).length ≤ Lim then (some (.inl ((ishr .i64 x12.1 (8 : Int)), (x12.2.1 ++ [(IntKind.wrap .u8 x12.1)]), (IntKind.wrap .i64 (x12.2.2 + (1 : Int)))))) else none) else ((some x12.2.1).bind fun o => some (.inr o)))
noncomputable def impl_PutNum.f (a0 : Int) (a1 : Int) : Option ((List Int)) :=
  ((impl_within.f a1 (1 : Int) (8 : Int)).bind fun r1 => ((if ((!r1) || (decide (a0 < (0 : Int)))) = true then (some true) else ((if (decide (a1 < (8 : Int))) = true then (if 0 ≤ (IntKind.wrap .i64 ((8 : Int) * a1)) then (some ((ishr .i64 a0 (IntKind.wrap .i64 ((8 : Int) * a1))) != (0 : Int))) else none) else (some false)).bind fun y6 => (some y6))).bind fun y4 => (if y4 = true then (some ([] : (List Int))) else (iter (impl_PutNum.b0 a1) (a0, ([] : (List Int)), (0 : Int))))))
def impl_PutNum.Q (w : World) (F : Nat → Prop) (r : (List Int)) (v : Value) (w' : World) : Prop :=
  FO (Kd.sl 5 (Kd.int .u8)) w w' [v] r ∧ Ky [] w w'
set_option maxHeartbeats 4000000 in
set_option maxRecDepth 100000 in
theorem impl_PutNum.calls (a0 : Int) (a1 : Int) (w : World) (F : Nat → Prop)   (r : (List Int)) (m : impl_PutNum.f a0 a1 = some r) :
    Calls Try.prog 37 #[(.int .i64 a0), (.int .i64 a1)] w fun en w' => ∃ v, en = .returned v ∧ impl_PutNum.Q w F r v w' := by
  obtain ⟨s0, rfl, kp0, z⟩ := start0 w F
  refine calls_of_TM (args := [(.int .i64 a0), (.int .i64 a1)]) (R := fun r en w' => ∃ v, en = .returned v ∧ impl_PutNum.Q s0.w F r v w') Try.func37 Try.ntmps37 rfl rfl m ?_
  unfold impl_PutNum.f
  refine sr ?_
  refine pu rfl rfl rfl rfl rfl ?_
  refine dn ?_
  refine sq ?_
  refine sr ?_
  refine pu rfl rfl rfl rfl rfl ?_
  refine cl rfl rfl rfl rfl rfl Try.func34 rfl rfl rfl (fun r1 m1 => impl_within.calls a1 (1 : Int) (8 : Int) s0.w (fun b => memb [] (s0.g b) = true)  r1 m1) ?_
  rintro r1 _ w1 m1 ⟨rfl, ky1⟩
  obtain ⟨s2, rfl, p2, n2⟩ := nwx s0 w1 10 ky1
  refine pu rfl rfl rfl rfl rfl ?_
  refine pu rfl rfl rfl rfl rfl ?_
  refine jy [9, 10, 11, 12] [7, 8, 9, 10, 11, 12, 13, 14, 15, 16, 17] 12 (.bool ((!r1) || (decide (a0 < (0 : Int))))) rfl (fun Kg3 => ?_) (fun j3 => ?_)
  ·
    rcases Bool.eq_false_or_eq_true (!r1) with hb3 | hb3
    ·
      refine sbT hb3 ?_
      refine uw rfl rfl rfl rfl ?_
      refine uw rfl rfl rfl rfl ?_
      refine pu rfl rfl rfl rfl rfl ?_
      exact Kg3 _ (Ag.put ((Ag.put ((Ag.put (Ag.base rfl) rfl)) rfl)) rfl) (by rw [hb3]; rfl)
    ·
      refine sbT hb3 ?_
      refine pu rfl rfl rfl rfl rfl ?_
      refine pu rfl rfl rfl rfl rfl ?_
      refine pu rfl rfl rfl rfl rfl ?_
      exact Kg3 _ (Ag.put ((Ag.put ((Ag.put (Ag.base rfl) rfl)) rfl)) rfl) (by rw [hb3]; rfl)
  refine pu rfl rfl rfl rfl rfl ?_
  refine ji [] (fun (y4 : Bool) (e : Env) (w : World) => ∃ (s : St) (e0 : Env), w = s.w ∧ e = upd (upd (upd e0 0 (.int .i64 a0)) 1 (.int .i64 a1)) 23 (.bool y4) ∧ Kp s0 s) (fun Gj4 Kj4 => ?_) ?_
  ·
    rcases Bool.eq_false_or_eq_true ((!r1) || (decide (a0 < (0 : Int)))) with hb4 | hb4
    ·
      refine sbT hb4 ?_
      rw [if_pos hb4]
      refine uw rfl rfl rfl rfl ?_
      refine uw rfl rfl rfl rfl ?_
      refine uw rfl rfl rfl rfl ?_
      refine uw rfl rfl rfl rfl ?_
      refine uw rfl rfl rfl rfl ?_
      refine uw rfl rfl rfl rfl ?_
      refine uw rfl rfl rfl rfl ?_
      refine uw rfl rfl rfl rfl ?_
      refine uw rfl rfl rfl rfl ?_
      refine pu rfl rfl rfl rfl rfl ?_
      have K5 := (kp0.st p2 rfl)
      exact Kj4 _ _ _ ⟨s2, _, rfl, (ue (ue (ue rfl rfl) rfl) rfl), K5⟩
    ·
      refine sbT hb4 ?_
      rw [if_neg (by rw [hb4]; decide)]
      refine pu rfl rfl rfl rfl rfl ?_
      refine pu rfl rfl rfl rfl rfl ?_
      refine pu rfl rfl rfl rfl rfl ?_
      refine ji [17] (fun (y6 : Bool) (e : Env) (w : World) => ∃ (s : St) (e0 : Env), w = s.w ∧ e = upd (upd (upd (upd e0 0 (.int .i64 a0)) 1 (.int .i64 a1)) 13 (.bool false)) 22 (.bool y6) ∧ Kp s0 s) (fun Gj6 Kj6 => ?_) ?_
      ·
        rcases Bool.eq_false_or_eq_true (decide (a1 < (8 : Int))) with hb6 | hb6
        ·
          refine sbT hb6 ?_
          rw [if_pos hb6]
          refine pu rfl rfl rfl rfl rfl ?_
          refine pu rfl rfl rfl rfl rfl ?_
          refine pu rfl rfl rfl rfl rfl ?_
          refine shr_ rfl rfl rfl rfl rfl rfl rfl ?_
          refine pu rfl rfl rfl rfl rfl ?_
          refine pu rfl rfl rfl rfl rfl ?_
          have K7 := (kp0.st p2 rfl)
          exact Kj6 _ _ _ ⟨s2, _, rfl, (ue (ue (ue (ue rfl rfl) rfl) rfl) rfl), K7⟩
        ·
          refine sbT hb6 ?_
          rw [if_neg (by rw [hb6]; decide)]
          refine uw rfl rfl rfl rfl ?_
          refine uw rfl rfl rfl rfl ?_
          refine uw rfl rfl rfl rfl ?_
          refine uw rfl rfl rfl rfl ?_
          refine uw rfl rfl rfl rfl ?_
          refine pu rfl rfl rfl rfl rfl ?_
          have K8 := (kp0.st p2 rfl)
          exact Kj6 _ _ _ ⟨s2, _, rfl, (ue (ue (ue (ue rfl rfl) rfl) rfl) rfl), K8⟩
      rintro y6 _ _ ⟨s9, _, rfl, rfl, Ky6⟩
      refine pu rfl rfl rfl rfl rfl ?_
      exact Kj4 _ _ _ ⟨s9, _, rfl, (ue (ue (ue rfl rfl) rfl) rfl), Ky6⟩
  rintro y4 _ _ ⟨s10, _, rfl, rfl, Ky4⟩
  refine dn ?_
  refine cd rfl (fun h11 => ?_) (fun h11 => ?_)
  ·
    refine sr ?_
    refine pu rfl rfl rfl rfl rfl ?_
    refine dn ?_
    exact re rfl Try.func37 rfl (r_t rfl r_nil) rfl ⟨_, rfl, (ow_nil 5 (Kd.int .u8) s10 10).fo Ky4 rfl, z.ky Ky4⟩
  ·
    refine sk ?_
    refine sr ?_
    refine pu rfl rfl rfl rfl rfl ?_
    refine dn ?_
    refine sq ?_
    refine sr ?_
    refine pu rfl rfl rfl rfl rfl ?_
    refine pu rfl rfl rfl rfl rfl ?_
    refine dn ?_
    refine bl ?_
    refine lpI (fun (x12 : Int × (List Int) × Int) (e : Env) (w : World) => ∃ (s : St) (e0 : Env) (vx12_0 : Value), w = s.w ∧ e = upd (upd (upd (upd e0 0 (.int .i64 x12.1)) 5 vx12_0) 24 (.int .i64 a1)) 25 (.int .i64 x12.2.2) ∧ Kp s0 s ∧ OwF (Kd.sl 5 (Kd.int .u8)) s [vx12_0] x12.2.1 11) ⟨s10, _, (.slice none 0 0), rfl, (ue (ue (ue (ue rfl rfl) rfl) rfl) rfl), Ky4, (ow_nil 5 (Kd.int .u8) _ 11)⟩ (fun g12 ih12 => ?_)
    rintro x12 _ _ ⟨s13, _, vx12_0, rfl, rfl, Kx12, Ax12_0⟩
    unfold impl_PutNum.b0
    refine sr ?_
    refine pu rfl rfl rfl rfl rfl ?_
    refine dn ?_
    refine sq ?_
    refine cd rfl (fun h15 => ?_) (fun h15 => ?_)
    ·
      refine sk ?_
      refine sq ?_
      refine bl ?_
      refine sr ?_
      refine mv vx12_0 rfl rfl rfl rfl rfl rfl ?_
      refine pu rfl rfl rfl rfl rfl ?_
      refine cv Try.underlying5 Try.underlying3 rfl rfl rfl rfl rfl rfl ?_
      refine ltF (K := (Kd.int .u8)) (cells := [(.int .u8 (IntKind.wrap .u8 x12.1))]) [(IntKind.wrap .u8 x12.1)] 12 fl_int Try.underlying24 z5 o5 (fun w => (els_flat _ _ _)) rfl rfl rfl rfl rfl rfl rfl rfl rfl rfl (fun v16 s16 p16 A16 => ?_)
      have A18 := (Ax12_0.st p16 rfl)
      refine apF fl_int sl24 A18 A16.rd rfl rfl rfl rfl rfl rfl rfl (fun v19 s19 p19 A19 => ?_)
      refine asg v19 rfl rfl rfl rfl rfl rfl ?_
      refine dn ?_
      refine rg ?_
      refine pu rfl rfl rfl rfl rfl ?_
      refine shrK rfl rfl rfl rfl rfl rfl rfl rfl ?_
      refine pu rfl rfl rfl rfl rfl ?_
      refine dn ?_
      refine ib ?_
      refine rg ?_
      refine pu rfl rfl rfl rfl rfl ?_
      refine pu rfl rfl rfl rfl rfl ?_
      refine dn ?_
      have K21 := ((Kx12.st p16 rfl).st p19 rfl)
      exact lb ih12 ⟨s19, _, v19, rfl, (ue (ue (ue (ue rfl rfl) rfl) rfl) rfl), K21, A19⟩
    ·
      refine xt rfl ?_
      refine sgb ?_
      refine sr ?_
      refine mv vx12_0 rfl rfl rfl rfl rfl rfl ?_
      refine asg vx12_0 rfl rfl rfl rfl rfl rfl ?_
      refine dn ?_
      exact re rfl Try.func37 rfl (r_t rfl r_nil) rfl ⟨_, rfl, Ax12_0.fo Kx12 rfl, z.ky Kx12⟩
noncomputable def slices_Grow_byte_byte_nil.f (a1 : Int) : Option ((List Int)) :=
  (if (decide (a1 < (0 : Int))) = true then none else ((if (decide ((IntKind.wrap .i64 (a1 - (IntKind.wrap .i64 ((0 : Int) - (([] : (List Int)).length : Int))))) > (0 : Int))) = true then (if 0 ≤ (IntKind.wrap .i64 (a1 - (IntKind.wrap .i64 ((0 : Int) - (([] : (List Int)).length : Int))))) ∧ (([] : (List Int)).length : Int) + (IntKind.wrap .i64 (a1 - (IntKind.wrap .i64 ((0 : Int) - (([] : (List Int)).length : Int))))) ≤ (Lim : Int) then (if 0 ≤ (([] : (List Int)).length : Int) ∧ (([] : (List Int)).length : Int) ≤ ((([] : (List Int)) ++ List.replicate ((IntKind.wrap .i64 (a1 - (IntKind.wrap .i64 ((0 : Int) - (([] : (List Int)).length : Int)))))).toNat (0 : Int)).length : Int) then (some ((([] : (List Int)) ++ List.replicate ((IntKind.wrap .i64 (a1 - (IntKind.wrap .i64 ((0 : Int) - (([] : (List Int)).length : Int)))))).toNat (0 : Int)).take ((([] : (List Int)).length : Int)).toNat)) else none) else none) else (some ([] : (List Int)))).bind fun y2 => (some y2)))
def slices_Grow_byte_byte_nil.Q (w : World) (F : Nat → Prop) (r : (List Int)) (v : Value) (w' : World) : Prop :=
  FO (Kd.sl 5 (Kd.int .u8)) w w' [v] r ∧ Ky [] w w'
set_option maxHeartbeats 4000000 in
set_option maxRecDepth 100000 in
theorem slices_Grow_byte_byte_nil.calls (a1 : Int) (w : World) (F : Nat → Prop)   (r : (List Int)) (m : slices_Grow_byte_byte_nil.f a1 = some r) :
    Calls Try.prog 58 #[(.slice none 0 0), (.int .i64 a1)] w fun en w' => ∃ v, en = .returned v ∧ slices_Grow_byte_byte_nil.Q w F r v w' := by
  obtain ⟨s0, rfl, kp0, z⟩ := start0 w F
  refine calls_of_TM (args := [(.slice none 0 0), (.int .i64 a1)]) (R := fun r en w' => ∃ v, en = .returned v ∧ slices_Grow_byte_byte_nil.Q s0.w F r v w') Try.func58 Try.ntmps58 rfl rfl m ?_
  unfold slices_Grow_byte_byte_nil.f
  refine sr ?_
  refine pu rfl rfl rfl rfl rfl ?_
  refine dn ?_
  refine sq ?_
  refine sr ?_
  refine pu rfl rfl rfl rfl rfl ?_
  refine pu rfl rfl rfl rfl rfl ?_
  refine dn ?_
  refine cd rfl (fun h1 => ?_) (fun h1 => ?_)
  ·
    refine rg ?_
    exact mn
  ·
    refine sk ?_
    refine sq ?_
    refine sr ?_
    refine pu rfl rfl rfl rfl rfl ?_
    refine pu rfl rfl rfl rfl rfl ?_
    refine cpn Try.underlying24 rfl rfl rfl rfl rfl rfl ?_
    refine pu rfl rfl rfl rfl rfl ?_
    refine ln (rd_nil 5 (Kd.int .u8) s0 []) Try.underlying24 rfl rfl rfl rfl rfl rfl ?_
    refine pu rfl rfl rfl rfl rfl ?_
    refine pu rfl rfl rfl rfl rfl ?_
    refine pu rfl rfl rfl rfl rfl ?_
    refine dn ?_
    refine sr ?_
    refine pu rfl rfl rfl rfl rfl ?_
    refine pu rfl rfl rfl rfl rfl ?_
    refine dn ?_
    refine jc (fun (y2 : (List Int)) (e : Env) (w : World) => ∃ (s : St) (e0 : Env) (vy2_0 : Value), w = s.w ∧ e = upd e0 0 vy2_0 ∧ Kp s0 s ∧ OwF (Kd.sl 5 (Kd.int .u8)) s [vy2_0] y2 10) (fun Gj2 Kj2 => ?_) ?_
    ·
      refine cd rfl (fun h3 => ?_) (fun h3 => ?_)
      ·
        refine rg ?_
        refine pu rfl rfl rfl rfl rfl ?_
        refine pu rfl rfl rfl rfl rfl ?_
        refine cpn Try.underlying24 rfl rfl rfl rfl rfl rfl ?_
        refine nlh Try.underlying24 z5 rfl rfl rfl rfl rfl rfl rfl ?_
        refine pu rfl rfl rfl rfl rfl ?_
        refine apZ (x0 := (0 : Int)) fl_int sl24 o5 (fun _ => ⟨rfl, rfl⟩) Try.underlying3 (ow_nil 5 (Kd.int .u8) s0 10) rfl rfl rfl rfl rfl rfl rfl (fun v4 s4 p4 A4 => ?_)
        refine pu rfl rfl rfl rfl rfl ?_
        refine ln (rd_nil 5 (Kd.int .u8) s4 []) Try.underlying24 rfl rfl rfl rfl rfl rfl ?_
        refine slo fl_int A4 Try.underlying24 z5 rfl rfl rfl rfl rfl rfl rfl (fun v6 A6 => ?_)
        refine asg v6 rfl rfl rfl rfl rfl rfl ?_
        refine dn ?_
        have K8 := (kp0.st p4 rfl)
        exact Kj2 _ _ _ ⟨s4, _, v6, rfl, (ue rfl rfl), K8, A6⟩
      ·
        refine sk ?_
        exact Kj2 _ _ _ ⟨s0, _, (.slice none 0 0), rfl, (ue rfl rfl), kp0, (ow_nil 5 (Kd.int .u8) _ 10)⟩
    rintro y2 _ _ ⟨s9, _, vy2_0, rfl, rfl, Ky2, Ay2_0⟩
    refine sr ?_
    refine mv vy2_0 rfl rfl rfl rfl rfl rfl ?_
    refine asg vy2_0 rfl rfl rfl rfl rfl rfl ?_
    refine dn ?_
    exact re rfl Try.func58 rfl (r_t rfl r_nil) rfl ⟨_, rfl, Ay2_0.fo Ky2 rfl, z.ky Ky2⟩
noncomputable def slices_Concat_byte_byte.b1 (a0 : (List (List Int))) (x15 : (List Int) × Int) : Option (((List Int) × Int) ⊕ (List Int)) :=
  (if (decide (x15.2 < (a0.length : Int))) = true then (if 0 ≤ x15.2 ∧ x15.2 < (a0.length : Int) then (if x15.1.length + (at_ a0 x15.2).length ≤ Lim then (some (.inl ((x15.1 ++ (at_ a0 x15.2)), (IntKind.wrap .i64 (x15.2 + (1 : Int)))))) else none) else none) else ((some x15.1).bind fun o => some (.inr o)))
noncomputable def slices_Concat_byte_byte.b0 (a0 : (List (List Int))) (x2 : Int × Int) : Option ((Int × Int) ⊕ (List Int)) :=
  (if (decide (x2.2 < (a0.length : Int))) = true then (if 0 ≤ x2.2 ∧ x2.2 < (a0.length : Int) then (if (decide ((IntKind.wrap .i64 (x2.1 + ((at_ a0 x2.2).length : Int))) < (0 : Int))) = true then none else (some (.inl ((IntKind.wrap .i64 (x2.1 + ((at_ a0 x2.2).length : Int))), (IntKind.wrap .i64 (x2.2 + (1 : Int))))))) else none) else (((slices_Grow_byte_byte_nil.f x2.1).bind fun r10 => (iter (slices_Concat_byte_byte.b1 a0) (r10, (0 : Int)))).bind fun o => some (.inr o)))
noncomputable def slices_Concat_byte_byte.f (a0 : (List (List Int))) : Option ((List Int)) :=
  (iter (slices_Concat_byte_byte.b0 a0) ((0 : Int), (0 : Int)))
def slices_Concat_byte_byte.Q (w : World) (F : Nat → Prop) (r : (List Int)) (v : Value) (w' : World) : Prop :=
  FO (Kd.sl 5 (Kd.int .u8)) w w' [v] r ∧ Ky [] w w'
set_option maxHeartbeats 4000000 in
set_option maxRecDepth 100000 in
theorem slices_Concat_byte_byte.calls (a0 : (List (List Int))) (w : World) (F : Nat → Prop) (w0_0 : Value) (h0_0 : (Kd.sl 24 (Kd.sl 5 (Kd.int .u8))).rd w [w0_0] a0 F) (r : (List Int)) (m : slices_Concat_byte_byte.f a0 = some r) :
    Calls Try.prog 36 #[w0_0] w fun en w' => ∃ v, en = .returned v ∧ slices_Concat_byte_byte.Q w F r v w' := by
  obtain ⟨s0, rfl, kp0, z⟩ := start0 w F
  have A0_0 := z.rd h0_0
  refine calls_of_TM (args := [w0_0]) (R := fun r en w' => ∃ v, en = .returned v ∧ slices_Concat_byte_byte.Q s0.w F r v w') Try.func36 Try.ntmps36 rfl rfl m ?_
  unfold slices_Concat_byte_byte.f
  refine sr ?_
  refine pu rfl rfl rfl rfl rfl ?_
  refine dn ?_
  refine sr ?_
  refine pu rfl rfl rfl rfl rfl ?_
  refine dn ?_
  refine sq ?_
  refine sr ?_
  refine mv w0_0 rfl rfl rfl rfl rfl rfl ?_
  refine ln A0_0 Try.underlying76 rfl rfl rfl rfl rfl rfl ?_
  refine pu rfl rfl rfl rfl rfl ?_
  refine dn ?_
  refine bl ?_
  refine lpI (fun (x2 : Int × Int) (e : Env) (w : World) => ∃ (s : St) (e0 : Env), w = s.w ∧ e = upd (upd (upd (upd (upd e0 0 w0_0) 3 (.int .i64 x2.1)) 9 w0_0) 10 (.int .i64 (a0.length : Int))) 11 (.int .i64 x2.2) ∧ Kp s0 s) ⟨s0, _, rfl, (ue (ue (ue (ue (ue rfl rfl) rfl) rfl) rfl) rfl), kp0⟩ (fun g2 ih2 => ?_)
  rintro x2 _ _ ⟨s3, _, rfl, rfl, Kx2⟩
  unfold slices_Concat_byte_byte.b0
  refine sr ?_
  refine pu rfl rfl rfl rfl rfl ?_
  refine dn ?_
  refine sq ?_
  refine cd rfl (fun h4 => ?_) (fun h4 => ?_)
  ·
    refine sk ?_
    refine sq ?_
    refine bl ?_
    refine sr ?_
    have A5 := (A0_0.kp Kx2)
    refine ix A5 Try.underlying76 z24 rfl rfl rfl rfl rfl rfl rfl rfl (fun ad6 es6 h0_6 h1_6 he6 ce6 ia6 => ?_)
    obtain ⟨v6, rfl, he6'⟩ := he6
    have A6 : RdF (Kd.sl 5 (Kd.int .u8)) s3 [v6] (at_ a0 x2.2) [0] := ⟨v6, rfl, he6'⟩
    refine lc0 ce6 Try.underlying24 rfl rfl rfl rfl rfl rfl rfl rfl ?_
    refine asg v6 rfl rfl rfl rfl rfl rfl ?_
    refine dn ?_
    refine sr ?_
    refine pu rfl rfl rfl rfl rfl ?_
    refine mv v6 rfl rfl rfl rfl rfl rfl ?_
    refine ln A6 Try.underlying24 rfl rfl rfl rfl rfl rfl ?_
    refine pu rfl rfl rfl rfl rfl ?_
    refine pu rfl rfl rfl rfl rfl ?_
    refine dn ?_
    refine sr ?_
    refine pu rfl rfl rfl rfl rfl ?_
    refine pu rfl rfl rfl rfl rfl ?_
    refine dn ?_
    refine cd rfl (fun h9 => ?_) (fun h9 => ?_)
    ·
      refine rg ?_
      exact mn
    ·
      refine sk ?_
      refine ib ?_
      refine rg ?_
      refine pu rfl rfl rfl rfl rfl ?_
      refine pu rfl rfl rfl rfl rfl ?_
      refine dn ?_
      exact lb ih2 ⟨s3, _, rfl, (ue (ue (ue (ue (ue rfl rfl) rfl) rfl) rfl) rfl), Kx2⟩
  ·
    refine xt rfl ?_
    refine sgb ?_
    refine sr ?_
    refine pu rfl rfl rfl rfl rfl ?_
    refine cl rfl rfl rfl rfl rfl Try.func58 rfl rfl rfl (fun r10 m10 => slices_Grow_byte_byte_nil.calls x2.1 s3.w (fun b => memb [] (s3.g b) = true)  r10 m10) ?_
    rintro r10 v10_0 w10 m10 ⟨f10_0, ky10⟩
    obtain ⟨s11, rfl, p11, n11⟩ := nwx s3 w10 10 ky10
    have A10_0 := f10_0.c n11
    refine asg v10_0 rfl rfl rfl rfl rfl rfl ?_
    refine dn ?_
    refine sq ?_
    refine sr ?_
    refine mv w0_0 rfl rfl rfl rfl rfl rfl ?_
    have K13 := (Kx2.st p11 rfl)
    have A14 := (A0_0.kp K13)
    refine ln A14 Try.underlying76 rfl rfl rfl rfl rfl rfl ?_
    refine pu rfl rfl rfl rfl rfl ?_
    refine dn ?_
    refine bl ?_
    refine lpI (fun (x15 : (List Int) × Int) (e : Env) (w : World) => ∃ (s : St) (e0 : Env) (vx15_0 : Value), w = s.w ∧ e = upd (upd (upd (upd e0 6 vx15_0) 25 w0_0) 26 (.int .i64 (a0.length : Int))) 27 (.int .i64 x15.2) ∧ Kp s0 s ∧ OwF (Kd.sl 5 (Kd.int .u8)) s [vx15_0] x15.1 10) ⟨s11, _, v10_0, rfl, (ue (ue (ue (ue rfl rfl) rfl) rfl) rfl), K13, A10_0⟩ (fun g15 ih15 => ?_)
    rintro x15 _ _ ⟨s16, _, vx15_0, rfl, rfl, Kx15, Ax15_0⟩
    unfold slices_Concat_byte_byte.b1
    refine sr ?_
    refine pu rfl rfl rfl rfl rfl ?_
    refine dn ?_
    refine sq ?_
    refine cd rfl (fun h18 => ?_) (fun h18 => ?_)
    ·
      refine sk ?_
      refine sq ?_
      refine bl ?_
      refine sr ?_
      have A19 := (A0_0.kp Kx15)
      refine ix A19 Try.underlying76 z24 rfl rfl rfl rfl rfl rfl rfl rfl (fun ad20 es20 h0_20 h1_20 he20 ce20 ia20 => ?_)
      obtain ⟨v20, rfl, he20'⟩ := he20
      have A20 : RdF (Kd.sl 5 (Kd.int .u8)) s16 [v20] (at_ a0 x15.2) [0] := ⟨v20, rfl, he20'⟩
      refine lc0 ce20 Try.underlying24 rfl rfl rfl rfl rfl rfl rfl rfl ?_
      refine asg v20 rfl rfl rfl rfl rfl rfl ?_
      refine dn ?_
      refine rg ?_
      refine mv vx15_0 rfl rfl rfl rfl rfl rfl ?_
      refine mv v20 rfl rfl rfl rfl rfl rfl ?_
      refine apF fl_int sl24 Ax15_0 A20 rfl rfl rfl rfl rfl rfl rfl (fun v23 s23 p23 A23 => ?_)
      refine asg v23 rfl rfl rfl rfl rfl rfl ?_
      refine dn ?_
      refine ib ?_
      refine rg ?_
      refine pu rfl rfl rfl rfl rfl ?_
      refine pu rfl rfl rfl rfl rfl ?_
      refine dn ?_
      have K25 := (Kx15.st p23 rfl)
      exact lb ih15 ⟨s23, _, v23, rfl, (ue (ue (ue (ue rfl rfl) rfl) rfl) rfl), K25, A23⟩
    ·
      refine xt rfl ?_
      refine sgb ?_
      refine sr ?_
      refine mv vx15_0 rfl rfl rfl rfl rfl rfl ?_
      refine asg vx15_0 rfl rfl rfl rfl rfl rfl ?_
      refine dn ?_
      exact re rfl Try.func36 rfl (r_t rfl r_nil) rfl ⟨_, rfl, Ax15_0.fo Kx15 rfl, z.ky Kx15⟩
noncomputable def impl_Crc.b2 (a0 : (List Int)) (x5 : Int × (List Int)) (x19 : Int × Int) : Option ((Int × Int) ⊕ Int) :=
  (if (decide (x19.2 < (a0.length : Int))) = true then (if 0 ≤ x19.2 ∧ x19.2 < (a0.length : Int) then (if 0 ≤ (iand .u32 (ixor .u32 x19.1 (IntKind.wrap .u32 (at_ a0 x19.2))) (15 : Int)) ∧ (iand .u32 (ixor .u32 x19.1 (IntKind.wrap .u32 (at_ a0 x19.2))) (15 : Int)) < (x5.2.length : Int) then (if 0 ≤ (iand .u32 (ixor .u32 (ishr .u32 (ixor .u32 x19.1 (IntKind.wrap .u32 (at_ a0 x19.2))) (4 : Int)) (at_ x5.2 (iand .u32 (ixor .u32 x19.1 (IntKind.wrap .u32 (at_ a0 x19.2))) (15 : Int)))) (15 : Int)) ∧ (iand .u32 (ixor .u32 (ishr .u32 (ixor .u32 x19.1 (IntKind.wrap .u32 (at_ a0 x19.2))) (4 : Int)) (at_ x5.2 (iand .u32 (ixor .u32 x19.1 (IntKind.wrap .u32 (at_ a0 x19.2))) (15 : Int)))) (15 : Int)) < (x5.2.length : Int) then (some (.inl ((ixor .u32 (ishr .u32 (ixor .u32 (ishr .u32 (ixor .u32 x19.1 (IntKind.wrap .u32 (at_ a0 x19.2))) (4 : Int)) (at_ x5.2 (iand .u32 (ixor .u32 x19.1 (IntKind.wrap .u32 (at_ a0 x19.2))) (15 : Int)))) (4 : Int)) (at_ x5.2 (iand .u32 (ixor .u32 (ishr .u32 (ixor .u32 x19.1 (IntKind.wrap .u32 (at_ a0 x19.2))) (4 : Int)) (at_ x5.2 (iand .u32 (ixor .u32 x19.1 (IntKind.wrap .u32 (at_ a0 x19.2))) (15 : Int)))) (15 : Int)))), (IntKind.wrap .i64 (x19.2 + (1 : Int)))))) else none) else none) else none) else ((some (IntKind.wrap .i64 (ixor .u32 (IntKind.max .u32) x19.1))).bind fun o => some (.inr o)))
noncomputable def impl_Crc.b1 (x5 : Int × (List Int)) (x10 : Int × Int) : Option ((Int × Int) ⊕ (Int × (List Int) ⊕ Int)) :=
  (if (decide (x10.2 < (4 : Int))) = true then (some (.inl ((ixor .u32 (ishr .u32 x10.1 (1 : Int)) (IntKind.wrap .u32 ((iand .u32 x10.1 (1 : Int)) * (3988292384 : Int)))), (IntKind.wrap .i64 (x10.2 + (1 : Int)))))) else ((if 0 ≤ x5.1 ∧ x5.1 < (x5.2.length : Int) then (some (.inl ((IntKind.wrap .i64 (x5.1 + (1 : Int))), (x5.2.set (x5.1).toNat x10.1)))) else none).bind fun o => some (.inr o)))
noncomputable def impl_Crc.b0 (a0 : (List Int)) (x5 : Int × (List Int)) : Option ((Int × (List Int)) ⊕ Int) :=
  (if (decide (x5.1 < (16 : Int))) = true then (iter (impl_Crc.b1 x5) ((IntKind.wrap .u32 x5.1), (0 : Int))) else ((iter (impl_Crc.b2 a0 x5) ((4294967295 : Int), (0 : Int))).bind fun o => some (.inr o)))
noncomputable def impl_Crc.f (a0 : (List Int)) : Option (Int) :=
  (if (decide ((a0.length : Int) > (65536 : Int))) = true then (some (-1 : Int)) else (iter (impl_Crc.b0 a0) ((0 : Int), (List.replicate 16 (0 : Int)))))
def impl_Crc.Q (w : World) (F : Nat → Prop) (r : Int) (v : Value) (w' : World) : Prop :=
  v = (.int .i64 r) ∧ Ky [] w w'
set_option maxHeartbeats 4000000 in
set_option maxRecDepth 100000 in
theorem impl_Crc.calls (a0 : (List Int)) (w : World) (F : Nat → Prop) (w0_0 : Value) (h0_0 : (Kd.sl 5 (Kd.int .u8)).rd w [w0_0] a0 F) (r : Int) (m : impl_Crc.f a0 = some r) :
    Calls Try.prog 60 #[w0_0] w fun en w' => ∃ v, en = .returned v ∧ impl_Crc.Q w F r v w' := by
  obtain ⟨s0, rfl, kp0, z⟩ := start0 w F
  have A0_0 := z.rd h0_0
  refine calls_of_TM (args := [w0_0]) (R := fun r en w' => ∃ v, en = .returned v ∧ impl_Crc.Q s0.w F r v w') Try.func60 Try.ntmps60 rfl rfl m ?_
  unfold impl_Crc.f
  refine sr ?_
  refine pu rfl rfl rfl rfl rfl ?_
  refine dn ?_
  refine sq ?_
  refine sr ?_
  refine mv w0_0 rfl rfl rfl rfl rfl rfl ?_
  refine ln A0_0 Try.underlying24 rfl rfl rfl rfl rfl rfl ?_
  refine pu rfl rfl rfl rfl rfl ?_
  refine dn ?_
  refine cd rfl (fun h2 => ?_) (fun h2 => ?_)
  ·
    refine sr ?_
    refine pu rfl rfl rfl rfl rfl ?_
    refine dn ?_
    exact re rfl Try.func60 rfl (r_t rfl r_nil) rfl ⟨_, rfl, rfl, z.ky kp0⟩
  ·
    refine sk ?_
    refine sr ?_
    refine ala (K := (Kd.int .u32)) (v0 := (.int .u32 (0 : Int))) (x0 := (0 : Int)) (cnt := 16) 10 o84 (fun _ => ⟨rfl, rfl⟩) rfl rfl rfl rfl rfl rfl rfl rfl (fun b3 s3 p3 A3 => ?_)
    refine dn ?_
    refine sq ?_
    refine sr ?_
    refine pu rfl rfl rfl rfl rfl ?_
    refine dn ?_
    refine bl ?_
    have K6 := (kp0.st p3 rfl)
    refine lpI (fun (x5 : Int × (List Int)) (e : Env) (w : World) => ∃ (s : St) (e0 : Env), w = s.w ∧ e = upd (upd (upd e0 0 w0_0) 3 (.pointer (some ⟨b3, 0, none⟩))) 11 (.int .i64 x5.1) ∧ Kp s0 s ∧ OwF (Kd.sl 84 (Kd.int .u32)) s [(.slice (some ⟨b3, 0, none⟩) 16 16)] x5.2 10) ⟨s3, _, rfl, (ue (ue (ue rfl rfl) rfl) rfl), K6, A3⟩ (fun g5 ih5 => ?_)
    rintro x5 _ _ ⟨s7, _, rfl, rfl, Kx5, Ax5_0⟩
    unfold impl_Crc.b0
    refine sr ?_
    refine pu rfl rfl rfl rfl rfl ?_
    refine dn ?_
    refine sq ?_
    refine cd rfl (fun h9 => ?_) (fun h9 => ?_)
    ·
      refine sk ?_
      refine sq ?_
      refine bl ?_
      refine sr ?_
      refine pu rfl rfl rfl rfl rfl ?_
      refine pu rfl rfl rfl rfl rfl ?_
      refine dn ?_
      refine sr ?_
      refine pu rfl rfl rfl rfl rfl ?_
      refine cv Try.underlying83 Try.underlying3 rfl rfl rfl rfl rfl rfl ?_
      refine pu rfl rfl rfl rfl rfl ?_
      refine dn ?_
      refine sq ?_
      refine sr ?_
      refine pu rfl rfl rfl rfl rfl ?_
      refine dn ?_
      refine bl ?_
      refine lpI (fun (x10 : Int × Int) (e : Env) (w : World) => ∃ (s : St) (e0 : Env), w = s.w ∧ e = upd (upd (upd (upd (upd (upd e0 0 w0_0) 3 (.pointer (some ⟨b3, 0, none⟩))) 4 (.int .i64 x5.1)) 5 (.int .u32 x10.1)) 11 (.int .i64 x5.1)) 16 (.int .i64 x10.2) ∧ Kp s0 s ∧ OwF (Kd.sl 84 (Kd.int .u32)) s [(.slice (some ⟨b3, 0, none⟩) 16 16)] x5.2 10) ⟨s7, _, rfl, (ue (ue (ue (ue (ue (ue rfl rfl) rfl) rfl) rfl) rfl) rfl), Kx5, Ax5_0⟩ (fun g10 ih10 => ?_)
      rintro x10 _ _ ⟨s11, _, rfl, rfl, Kx10, Cx10_8⟩
      unfold impl_Crc.b1
      refine sr ?_
      refine pu rfl rfl rfl rfl rfl ?_
      refine dn ?_
      refine sq ?_
      refine cd rfl (fun h12 => ?_) (fun h12 => ?_)
      ·
        refine sk ?_
        refine sq ?_
        refine bl ?_
        refine rg ?_
        refine pu rfl rfl rfl rfl rfl ?_
        refine shrK rfl rfl rfl rfl rfl rfl rfl rfl ?_
        refine pu rfl rfl rfl rfl rfl ?_
        refine pu rfl rfl rfl rfl rfl ?_
        refine pu rfl rfl rfl rfl rfl ?_
        refine pu rfl rfl rfl rfl rfl ?_
        refine pu rfl rfl rfl rfl rfl ?_
        refine dn ?_
        refine ib ?_
        refine rg ?_
        refine pu rfl rfl rfl rfl rfl ?_
        refine pu rfl rfl rfl rfl rfl ?_
        refine dn ?_
        exact lb ih10 ⟨s11, _, rfl, (ue (ue (ue (ue (ue (ue rfl rfl) rfl) rfl) rfl) rfl) rfl), Kx10, Cx10_8⟩
      ·
        refine xt rfl ?_
        refine sgb ?_
        refine rg ?_
        refine pu rfl rfl rfl rfl rfl ?_
        refine pu rfl rfl rfl rfl rfl ?_
        refine ixp Cx10_8.rd Try.underlying84 z83 rfl rfl rfl rfl rfl rfl rfl rfl (fun ad13 es13 h0_13 h1_13 he13 ce13 ia13 => ?_)
        obtain rfl := he13
        refine so (x' := x10.1) Cx10_8 ia13 h0_13 h1_13 cs_flat z83 rfl rfl rfl rfl rfl rfl (fun s15 p15 A15 => ?_)
        refine dn ?_
        refine ib ?_
        refine rg ?_
        refine pu rfl rfl rfl rfl rfl ?_
        refine pu rfl rfl rfl rfl rfl ?_
        refine dn ?_
        have K17 := (Kx10.st p15 rfl)
        exact lb ih5 ⟨s15, _, rfl, (ue (ue (ue rfl rfl) rfl) rfl), K17, A15⟩
    ·
      refine xt rfl ?_
      refine sgb ?_
      refine sr ?_
      refine pu rfl rfl rfl rfl rfl ?_
      refine dn ?_
      refine sq ?_
      refine sr ?_
      refine mv w0_0 rfl rfl rfl rfl rfl rfl ?_
      have A18 := (A0_0.kp Kx5)
      refine ln A18 Try.underlying24 rfl rfl rfl rfl rfl rfl ?_
      refine pu rfl rfl rfl rfl rfl ?_
      refine dn ?_
      refine bl ?_
      refine lpI (fun (x19 : Int × Int) (e : Env) (w : World) => ∃ (s : St) (e0 : Env), w = s.w ∧ e = upd (upd (upd (upd (upd e0 0 w0_0) 3 (.pointer (some ⟨b3, 0, none⟩))) 6 (.int .u32 x19.1)) 30 (.int .i64 (a0.length : Int))) 31 (.int .i64 x19.2) ∧ Kp s0 s ∧ OwF (Kd.sl 84 (Kd.int .u32)) s [(.slice (some ⟨b3, 0, none⟩) 16 16)] x5.2 10) ⟨s7, _, rfl, (ue (ue (ue (ue (ue rfl rfl) rfl) rfl) rfl) rfl), Kx5, Ax5_0⟩ (fun g19 ih19 => ?_)
      rintro x19 _ _ ⟨s20, _, rfl, rfl, Kx19, Cx19_8⟩
      unfold impl_Crc.b2
      refine sr ?_
      refine pu rfl rfl rfl rfl rfl ?_
      refine dn ?_
      refine sq ?_
      refine cd rfl (fun h21 => ?_) (fun h21 => ?_)
      ·
        refine sk ?_
        refine sq ?_
        refine bl ?_
        refine sr ?_
        refine pu rfl rfl rfl rfl rfl ?_
        refine pu rfl rfl rfl rfl rfl ?_
        refine dn ?_
        refine sr ?_
        refine pu rfl rfl rfl rfl rfl ?_
        refine mv w0_0 rfl rfl rfl rfl rfl rfl ?_
        refine pu rfl rfl rfl rfl rfl ?_
        have A22 := (A0_0.kp Kx19)
        refine ix A22 Try.underlying24 z5 rfl rfl rfl rfl rfl rfl rfl rfl (fun ad23 es23 h0_23 h1_23 he23 ce23 ia23 => ?_)
        obtain rfl := he23
        refine lc0 ce23 Try.underlying5 rfl rfl rfl rfl rfl rfl rfl rfl ?_
        refine cv Try.underlying83 Try.underlying5 rfl rfl rfl rfl rfl rfl ?_
        refine pu rfl rfl rfl rfl rfl ?_
        refine pu rfl rfl rfl rfl rfl ?_
        refine dn ?_
        refine sr ?_
        refine pu rfl rfl rfl rfl rfl ?_
        refine shrK rfl rfl rfl rfl rfl rfl rfl rfl ?_
        refine pu rfl rfl rfl rfl rfl ?_
        refine pu rfl rfl rfl rfl rfl ?_
        refine ixp Cx19_8.rd Try.underlying84 z83 rfl rfl rfl rfl rfl rfl rfl rfl (fun ad25 es25 h0_25 h1_25 he25 ce25 ia25 => ?_)
        obtain rfl := he25
        refine lc0 ce25 Try.underlying83 rfl rfl rfl rfl rfl rfl rfl rfl ?_
        refine pu rfl rfl rfl rfl rfl ?_
        refine pu rfl rfl rfl rfl rfl ?_
        refine dn ?_
        refine rg ?_
        refine pu rfl rfl rfl rfl rfl ?_
        refine shrK rfl rfl rfl rfl rfl rfl rfl rfl ?_
        refine pu rfl rfl rfl rfl rfl ?_
        refine pu rfl rfl rfl rfl rfl ?_
        refine ixp Cx19_8.rd Try.underlying84 z83 rfl rfl rfl rfl rfl rfl rfl rfl (fun ad27 es27 h0_27 h1_27 he27 ce27 ia27 => ?_)
        obtain rfl := he27
        refine lc0 ce27 Try.underlying83 rfl rfl rfl rfl rfl rfl rfl rfl ?_
        refine pu rfl rfl rfl rfl rfl ?_
        refine pu rfl rfl rfl rfl rfl ?_
        refine dn ?_
        refine ib ?_
        refine rg ?_
        refine pu rfl rfl rfl rfl rfl ?_
        refine pu rfl rfl rfl rfl rfl ?_
        refine dn ?_
        exact lb ih19 ⟨s20, _, rfl, (ue (ue (ue (ue (ue rfl rfl) rfl) rfl) rfl) rfl), Kx19, Cx19_8⟩
      ·
        refine xt rfl ?_
        refine sgb ?_
        refine sr ?_
        refine pu rfl rfl rfl rfl rfl ?_
        refine pu rfl rfl rfl rfl rfl ?_
        refine cv Try.underlying3 Try.underlying83 rfl rfl rfl rfl rfl rfl ?_
        refine pu rfl rfl rfl rfl rfl ?_
        refine dn ?_
        exact re rfl Try.func60 rfl (r_t rfl r_nil) rfl ⟨_, rfl, rfl, z.ky Kx19⟩
noncomputable def impl_Frame.f (a0 : Int) (a1 : (List Int)) : Option ((List Int)) :=
  ((impl_within.f a0 (1 : Int) (255 : Int)).bind fun r2 => (if ((!r2) || (decide ((a1.length : Int) > (1000 : Int)))) = true then (some ([] : (List Int))) else ((impl_PutNum.f (a1.length : Int) (2 : Int)).bind fun r13 => (if ([(IntKind.wrap .u8 a0)]).length + r13.length ≤ Lim then (if ([(IntKind.wrap .u8 a0)] ++ r13).length + a1.length ≤ Lim then ((impl_Crc.f (([(IntKind.wrap .u8 a0)] ++ r13) ++ a1)).bind fun r23 => ((impl_PutNum.f r23 (4 : Int)).bind fun r25 => (if (([(IntKind.wrap .u8 a0)] ++ r13) ++ a1).length + r25.length ≤ Lim then (some ((([(IntKind.wrap .u8 a0)] ++ r13) ++ a1) ++ r25)) else none))) else none) else none))))
def impl_Frame.Q (w : World) (F : Nat → Prop) (r : (List Int)) (v : Value) (w' : World) : Prop :=
  FO (Kd.sl 5 (Kd.int .u8)) w w' [v] r ∧ Ky [] w w'
set_option maxHeartbeats 4000000 in
set_option maxRecDepth 100000 in
theorem impl_Frame.calls (a0 : Int) (a1 : (List Int)) (w : World) (F : Nat → Prop) (w1_0 : Value) (h1_0 : (Kd.sl 5 (Kd.int .u8)).rd w [w1_0] a1 F) (r : (List Int)) (m : impl_Frame.f a0 a1 = some r) :
    Calls Try.prog 39 #[(.int .i64 a0), w1_0] w fun en w' => ∃ v, en = .returned v ∧ impl_Frame.Q w F r v w' := by
  obtain ⟨s0, rfl, kp0, z⟩ := start0 w F
  have A1_0 := z.rd h1_0
  refine calls_of_TM (args := [(.int .i64 a0), w1_0]) (R := fun r en w' => ∃ v, en = .returned v ∧ impl_Frame.Q s0.w F r v w') Try.func39 Try.ntmps39 rfl rfl m ?_
  unfold impl_Frame.f
  refine sr ?_
  refine pu rfl rfl rfl rfl rfl ?_
  refine dn ?_
  refine sq ?_
  refine sr ?_
  refine pu rfl rfl rfl rfl rfl ?_
  refine cl rfl rfl rfl rfl rfl Try.func34 rfl rfl rfl (fun r2 m2 => impl_within.calls a0 (1 : Int) (255 : Int) s0.w (fun b => memb [] (s0.g b) = true)  r2 m2) ?_
  rintro r2 _ w2 m2 ⟨rfl, ky2⟩
  obtain ⟨s3, rfl, p3, n3⟩ := nwx s0 w2 10 ky2
  refine pu rfl rfl rfl rfl rfl ?_
  refine pu rfl rfl rfl rfl rfl ?_
  refine jy [9, 10, 11, 12, 13] [] 13 (.bool ((!r2) || (decide ((a1.length : Int) > (1000 : Int))))) rfl (fun Kg4 => ?_) (fun j4 => ?_)
  ·
    rcases Bool.eq_false_or_eq_true (!r2) with hb4 | hb4
    ·
      refine sbT hb4 ?_
      refine uw rfl rfl rfl rfl ?_
      refine uw rfl rfl rfl rfl ?_
      refine uw rfl rfl rfl rfl ?_
      refine pu rfl rfl rfl rfl rfl ?_
      exact Kg4 _ (Ag.put ((Ag.put ((Ag.put ((Ag.put (Ag.base rfl) rfl)) rfl)) rfl)) rfl) (by rw [hb4]; rfl)
    ·
      refine sbT hb4 ?_
      refine mv w1_0 rfl rfl rfl rfl rfl rfl ?_
      have K5 := (kp0.st p3 rfl)
      have A6 := (A1_0.kp K5)
      refine ln A6 Try.underlying24 rfl rfl rfl rfl rfl rfl ?_
      refine pu rfl rfl rfl rfl rfl ?_
      refine pu rfl rfl rfl rfl rfl ?_
      exact Kg4 _ (Ag.put ((Ag.put ((Ag.put ((Ag.put (Ag.base rfl) rfl)) rfl)) rfl)) rfl) (by rw [hb4]; rfl)
  refine dn ?_
  refine cd rfl (fun h7 => ?_) (fun h7 => ?_)
  ·
    refine sr ?_
    refine pu rfl rfl rfl rfl rfl ?_
    refine dn ?_
    have K8 := (kp0.st p3 rfl)
    exact re rfl Try.func39 rfl (r_t rfl r_nil) rfl ⟨_, rfl, (ow_nil 5 (Kd.int .u8) s3 10).fo K8 rfl, z.ky K8⟩
  ·
    refine sk ?_
    refine sr ?_
    refine pu rfl rfl rfl rfl rfl ?_
    refine cv Try.underlying5 Try.underlying3 rfl rfl rfl rfl rfl rfl ?_
    refine ltF (K := (Kd.int .u8)) (cells := [(.int .u8 (IntKind.wrap .u8 a0))]) [(IntKind.wrap .u8 a0)] 11 fl_int Try.underlying24 z5 o5 (fun w => (els_flat _ _ _)) rfl rfl rfl rfl rfl rfl rfl rfl rfl rfl (fun v9 s9 p9 A9 => ?_)
    refine mv w1_0 rfl rfl rfl rfl rfl rfl ?_
    have K11 := ((kp0.st p3 rfl).st p9 rfl)
    have A12 := (A1_0.kp K11)
    refine ln A12 Try.underlying24 rfl rfl rfl rfl rfl rfl ?_
    refine cl rfl rfl rfl rfl rfl Try.func37 rfl rfl rfl (fun r13 m13 => impl_PutNum.calls (a1.length : Int) (2 : Int) s9.w (fun b => memb [] (s9.g b) = true)  r13 m13) ?_
    rintro r13 v13_0 w13 m13 ⟨f13_0, ky13⟩
    obtain ⟨s14, rfl, p14, n14⟩ := nwx s9 w13 12 ky13
    have A13_0 := f13_0.c n14
    have A16 := (A9.st p14 rfl)
    refine apF fl_int sl24 A16 A13_0.rd rfl rfl rfl rfl rfl rfl rfl (fun v17 s17 p17 A17 => ?_)
    refine asg v17 rfl rfl rfl rfl rfl rfl ?_
    refine dn ?_
    refine sr ?_
    refine mv v17 rfl rfl rfl rfl rfl rfl ?_
    refine mv w1_0 rfl rfl rfl rfl rfl rfl ?_
    have K19 := ((K11.st p14 rfl).st p17 rfl)
    have A20 := (A1_0.kp K19)
    refine apF fl_int sl24 A17 A20 rfl rfl rfl rfl rfl rfl rfl (fun v21 s21 p21 A21 => ?_)
    refine asg v21 rfl rfl rfl rfl rfl rfl ?_
    refine dn ?_
    refine sr ?_
    refine mv v21 rfl rfl rfl rfl rfl rfl ?_
    refine mv v21 rfl rfl rfl rfl rfl rfl ?_
    refine cl rfl rfl rfl rfl rfl Try.func60 rfl rfl rfl (fun r23 m23 => impl_Crc.calls (([(IntKind.wrap .u8 a0)] ++ r13) ++ a1) s21.w (fun b => memb [11] (s21.g b) = true) v21 A21.rd r23 m23) ?_
    rintro r23 _ w23 m23 ⟨rfl, ky23⟩
    obtain ⟨s24, rfl, p24, n24⟩ := nwx s21 w23 13 ky23
    refine cl rfl rfl rfl rfl rfl Try.func37 rfl rfl rfl (fun r25 m25 => impl_PutNum.calls r23 (4 : Int) s24.w (fun b => memb [] (s24.g b) = true)  r25 m25) ?_
    rintro r25 v25_0 w25 m25 ⟨f25_0, ky25⟩
    obtain ⟨s26, rfl, p26, n26⟩ := nwx s24 w25 14 ky25
    have A25_0 := f25_0.c n26
    have A28 := ((A21.st p24 rfl).st p26 rfl)
    refine apF fl_int sl24 A28 A25_0.rd rfl rfl rfl rfl rfl rfl rfl (fun v29 s29 p29 A29 => ?_)
    refine asg v29 rfl rfl rfl rfl rfl rfl ?_
    refine dn ?_
    have K31 := ((((K19.st p21 rfl).st p24 rfl).st p26 rfl).st p29 rfl)
    exact re rfl Try.func39 rfl (r_t rfl r_nil) rfl ⟨_, rfl, A29.fo K31 rfl, z.ky K31⟩
noncomputable def slices_Clone_byte_byte.f (a0 : (List Int)) : Option ((List Int)) :=
  (if ([] : (List Int)).length + a0.length ≤ Lim then (some (([] : (List Int)) ++ a0)) else none)
def slices_Clone_byte_byte.Q (w : World) (F : Nat → Prop) (r : (List Int)) (v : Value) (w' : World) : Prop :=
  FO (Kd.sl 5 (Kd.int .u8)) w w' [v] r ∧ Ky [] w w'
set_option maxHeartbeats 4000000 in
set_option maxRecDepth 100000 in
theorem slices_Clone_byte_byte.calls (a0 : (List Int)) (w : World) (F : Nat → Prop) (w0_0 : Value) (h0_0 : (Kd.sl 5 (Kd.int .u8)).rd w [w0_0] a0 F) (r : (List Int)) (m : slices_Clone_byte_byte.f a0 = some r) :
    Calls Try.prog 59 #[w0_0] w fun en w' => ∃ v, en = .returned v ∧ slices_Clone_byte_byte.Q w F r v w' := by
  obtain ⟨s0, rfl, kp0, z⟩ := start0 w F
  have A0_0 := z.rd h0_0
  refine calls_of_TM (args := [w0_0]) (R := fun r en w' => ∃ v, en = .returned v ∧ slices_Clone_byte_byte.Q s0.w F r v w') Try.func59 Try.ntmps59 rfl rfl m ?_
  unfold slices_Clone_byte_byte.f
  refine sr ?_
  refine pu rfl rfl rfl rfl rfl ?_
  refine dn ?_
  refine sq ?_
  refine sr ?_
  refine mv w0_0 rfl rfl rfl rfl rfl rfl ?_
  refine nq A0_0 Try.underlying24 rfl rfl rfl rfl rfl rfl rfl (fun nb2 hn2 => ?_)
  refine dn ?_
  refine cdb rfl (fun h3 => ?_) (fun h3 => ?_)
  ·
    obtain rfl := hn2 h3
    refine mg fun _ => ?_
    refine sr ?_
    refine pu rfl rfl rfl rfl rfl ?_
    refine dn ?_
    exact re rfl Try.func59 rfl (r_t rfl r_nil) rfl ⟨_, rfl, (ow_nil 5 (Kd.int .u8) s0 10).fo kp0 rfl, z.ky kp0⟩
  ·
    refine sk ?_
    refine sr ?_
    refine lt0 (K := (Kd.int .u8)) 10 Try.underlying24 z5 rfl rfl rfl rfl rfl (fun v4 s4 p4 A4 => ?_)
    refine mv w0_0 rfl rfl rfl rfl rfl rfl ?_
    have K6 := (kp0.st p4 rfl)
    have A7 := (A0_0.kp K6)
    refine apF fl_int sl24 A4 A7 rfl rfl rfl rfl rfl rfl rfl (fun v8 s8 p8 A8 => ?_)
    refine asg v8 rfl rfl rfl rfl rfl rfl ?_
    refine dn ?_
    have K10 := (K6.st p8 rfl)
    exact re rfl Try.func59 rfl (r_t rfl r_nil) rfl ⟨_, rfl, A8.fo K10 rfl, z.ky K10⟩
noncomputable def impl_filled.f (a0 : (List Int)) (a1 : Int) : Option ((List Int)) :=
  ((slices_Clone_byte_byte.f a0).bind fun r2 => (if 0 ≤ (IntKind.wrap .i64 (a1 - (a0.length : Int))) ∧ (r2.length : Int) + (IntKind.wrap .i64 (a1 - (a0.length : Int))) ≤ (Lim : Int) then (some (r2 ++ List.replicate ((IntKind.wrap .i64 (a1 - (a0.length : Int)))).toNat (0 : Int))) else none))
def impl_filled.Q (w : World) (F : Nat → Prop) (r : (List Int)) (v : Value) (w' : World) : Prop :=
  FO (Kd.sl 5 (Kd.int .u8)) w w' [v] r ∧ Ky [] w w'
set_option maxHeartbeats 4000000 in
set_option maxRecDepth 100000 in
theorem impl_filled.calls (a0 : (List Int)) (a1 : Int) (w : World) (F : Nat → Prop) (w0_0 : Value) (h0_0 : (Kd.sl 5 (Kd.int .u8)).rd w [w0_0] a0 F) (r : (List Int)) (m : impl_filled.f a0 a1 = some r) :
    Calls Try.prog 38 #[w0_0, (.int .i64 a1)] w fun en w' => ∃ v, en = .returned v ∧ impl_filled.Q w F r v w' := by
  obtain ⟨s0, rfl, kp0, z⟩ := start0 w F
  have A0_0 := z.rd h0_0
  refine calls_of_TM (args := [w0_0, (.int .i64 a1)]) (R := fun r en w' => ∃ v, en = .returned v ∧ impl_filled.Q s0.w F r v w') Try.func38 Try.ntmps38 rfl rfl m ?_
  unfold impl_filled.f
  refine sr ?_
  refine pu rfl rfl rfl rfl rfl ?_
  refine dn ?_
  refine sr ?_
  refine mv w0_0 rfl rfl rfl rfl rfl rfl ?_
  refine cl rfl rfl rfl rfl rfl Try.func59 rfl rfl rfl (fun r2 m2 => slices_Clone_byte_byte.calls a0 s0.w (fun b => memb [0] (s0.g b) = true) w0_0 A0_0 r2 m2) ?_
  rintro r2 v2_0 w2 m2 ⟨f2_0, ky2⟩
  obtain ⟨s3, rfl, p3, n3⟩ := nwx s0 w2 10 ky2
  have A2_0 := f2_0.c n3
  refine pu rfl rfl rfl rfl rfl ?_
  refine mv w0_0 rfl rfl rfl rfl rfl rfl ?_
  have K5 := (kp0.st p3 rfl)
  have A6 := (A0_0.kp K5)
  refine ln A6 Try.underlying24 rfl rfl rfl rfl rfl rfl ?_
  refine pu rfl rfl rfl rfl rfl ?_
  refine apZ (x0 := (0 : Int)) fl_int sl24 o5 (fun _ => ⟨rfl, rfl⟩) Try.underlying3 A2_0 rfl rfl rfl rfl rfl rfl rfl (fun v7 s7 p7 A7 => ?_)
  refine asg v7 rfl rfl rfl rfl rfl rfl ?_
  refine dn ?_
  have K9 := (K5.st p7 rfl)
  exact re rfl Try.func38 rfl (r_t rfl r_nil) rfl ⟨_, rfl, A7.fo K9 rfl, z.ky K9⟩
noncomputable def impl_ControlBytes.f (a0 : Control) : Option ((List Int)) :=
  ((impl_within.f a0.Seq (1 : Int) (1000000 : Int)).bind fun r3 => ((if (!r3) = true then (some true) else ((impl_within.f a0.Area (0 : Int) (1 : Int)).bind fun r9 => (some (!r9)))).bind fun y5 => ((if y5 = true then (some true) else ((impl_isLsn.f a0.Lsn).bind fun r16 => (some (!r16)))).bind fun y15 => ((if y15 = true then (some true) else ((impl_within.f a0.Next (1 : Int) (401 : Int)).bind fun r23 => (some (!r23)))).bind fun y22 => ((if y22 = true then (some true) else ((impl_within.f a0.Pages (0 : Int) (16 : Int)).bind fun r30 => (some (!r30)))).bind fun y29 => (if y29 = true then (some ([] : (List Int))) else ((impl_PutNum.f a0.Seq (4 : Int)).bind fun r59 => ((impl_PutNum.f a0.Area (1 : Int)).bind fun r68 => ((impl_PutNum.f a0.Lsn (4 : Int)).bind fun r76 => ((impl_PutNum.f a0.Next (4 : Int)).bind fun r83 => ((impl_PutNum.f a0.Pages (1 : Int)).bind fun r88 => ((slices_Concat_byte_byte.f ([r59, r68, r76, r83, r88])).bind fun r97 => ((impl_Frame.f (9 : Int) r97).bind fun r100 => ((impl_filled.f r100 (64 : Int)).bind fun r103 => (some r103)))))))))))))))
def impl_ControlBytes.Q (w : World) (F : Nat → Prop) (r : (List Int)) (v : Value) (w' : World) : Prop :=
  FO (Kd.sl 5 (Kd.int .u8)) w w' [v] r ∧ Ky [] w w'
set_option maxHeartbeats 4000000 in
set_option maxRecDepth 100000 in
theorem impl_ControlBytes.calls (a0 : Control) (w : World) (F : Nat → Prop)   (r : (List Int)) (m : impl_ControlBytes.f a0 = some r) :
    Calls Try.prog 9 #[(.agg #[(.int .i64 a0.Seq), (.int .i64 a0.Area), (.int .i64 a0.Lsn), (.int .i64 a0.Next), (.int .i64 a0.Pages)])] w fun en w' => ∃ v, en = .returned v ∧ impl_ControlBytes.Q w F r v w' := by
  obtain ⟨s0, rfl, kp0, z⟩ := start0 w F
  refine calls_of_TM (args := [(.agg #[(.int .i64 a0.Seq), (.int .i64 a0.Area), (.int .i64 a0.Lsn), (.int .i64 a0.Next), (.int .i64 a0.Pages)])]) (R := fun r en w' => ∃ v, en = .returned v ∧ impl_ControlBytes.Q s0.w F r v w') Try.func9 Try.ntmps9 rfl rfl m ?_
  unfold impl_ControlBytes.f
  refine sr ?_
  refine bx (cs := [(.int .i64 a0.Seq), (.int .i64 a0.Area), (.int .i64 a0.Lsn), (.int .i64 a0.Next), (.int .i64 a0.Pages)]) 10 rfl rfl rfl rfl rfl rfl (fun b1 s1 p1 B1 => ?_)
  refine pu rfl rfl rfl rfl rfl ?_
  refine dn ?_
  refine sq ?_
  refine sr ?_
  refine fa fa26_0 rfl rfl rfl rfl rfl rfl ?_
  refine ld B1 Try.underlying3 rfl rfl rfl rfl rfl rfl rfl rfl ?_
  refine cl rfl rfl rfl rfl rfl Try.func34 rfl rfl rfl (fun r3 m3 => impl_within.calls a0.Seq (1 : Int) (1000000 : Int) s1.w (fun b => memb [] (s1.g b) = true)  r3 m3) ?_
  rintro r3 _ w3 m3 ⟨rfl, ky3⟩
  obtain ⟨s4, rfl, p4, n4⟩ := nwx s1 w3 11 ky3
  refine pu rfl rfl rfl rfl rfl ?_
  refine pu rfl rfl rfl rfl rfl ?_
  refine ji [10, 11, 12, 13, 14, 15, 16, 17, 18, 19, 20, 21, 22, 23, 24, 25, 26, 27] (fun (y5 : Bool) (e : Env) (w : World) => ∃ (s : St) (e0 : Env), w = s.w ∧ e = upd (upd e0 1 (.pointer (some ⟨b1, 0, none⟩))) 13 (.bool y5) ∧ Kp s0 s ∧ BlF s b1 26 [(.int .i64 a0.Seq), (.int .i64 a0.Area), (.int .i64 a0.Lsn), (.int .i64 a0.Next), (.int .i64 a0.Pages)] 10) (fun Gj5 Kj5 => ?_) ?_
  ·
    rcases Bool.eq_false_or_eq_true (!r3) with hb5 | hb5
    ·
      refine sbT hb5 ?_
      rw [if_pos hb5]
      refine uw rfl rfl rfl rfl ?_
      refine uw rfl rfl rfl rfl ?_
      refine uw rfl rfl rfl rfl ?_
      refine uw rfl rfl rfl rfl ?_
      refine pu rfl rfl rfl rfl rfl ?_
      have A6 := (BlF.st B1 p4 rfl)
      have K7 := ((kp0.st p1 rfl).st p4 rfl)
      exact Kj5 _ _ _ ⟨s4, _, rfl, (ue (ue rfl rfl) rfl), K7, A6⟩
    ·
      refine sbT hb5 ?_
      rw [if_neg (by rw [hb5]; decide)]
      refine fa fa26_1 rfl rfl rfl rfl rfl rfl ?_
      have A8 := (BlF.st B1 p4 rfl)
      refine ld A8 Try.underlying3 rfl rfl rfl rfl rfl rfl rfl rfl ?_
      refine cl rfl rfl rfl rfl rfl Try.func34 rfl rfl rfl (fun r9 m9 => impl_within.calls a0.Area (0 : Int) (1 : Int) s4.w (fun b => memb [] (s4.g b) = true)  r9 m9) ?_
      rintro r9 _ w9 m9 ⟨rfl, ky9⟩
      obtain ⟨s10, rfl, p10, n10⟩ := nwx s4 w9 12 ky9
      refine pu rfl rfl rfl rfl rfl ?_
      refine pu rfl rfl rfl rfl rfl ?_
      have A11 := (BlF.st A8 p10 rfl)
      have K12 := (((kp0.st p1 rfl).st p4 rfl).st p10 rfl)
      exact Kj5 _ _ _ ⟨s10, _, rfl, (ue (ue rfl rfl) rfl), K12, A11⟩
  rintro y5 _ _ ⟨s13, _, rfl, rfl, Ky5, By5_b1⟩
  refine pu rfl rfl rfl rfl rfl ?_
  refine ji [16, 17, 18, 19, 20, 21, 22, 23, 24, 25, 26, 27] (fun (y15 : Bool) (e : Env) (w : World) => ∃ (s : St) (e0 : Env), w = s.w ∧ e = upd (upd e0 1 (.pointer (some ⟨b1, 0, none⟩))) 19 (.bool y15) ∧ Kp s0 s ∧ BlF s b1 26 [(.int .i64 a0.Seq), (.int .i64 a0.Area), (.int .i64 a0.Lsn), (.int .i64 a0.Next), (.int .i64 a0.Pages)] 10) (fun Gj15 Kj15 => ?_) ?_
  ·
    rcases Bool.eq_false_or_eq_true y5 with hb15 | hb15
    ·
      refine sbT hb15 ?_
      rw [if_pos hb15]
      refine uw rfl rfl rfl rfl ?_
      refine uw rfl rfl rfl rfl ?_
      refine uw rfl rfl rfl rfl ?_
      refine uw rfl rfl rfl rfl ?_
      refine pu rfl rfl rfl rfl rfl ?_
      exact Kj15 _ _ _ ⟨s13, _, rfl, (ue (ue rfl rfl) rfl), Ky5, By5_b1⟩
    ·
      refine sbT hb15 ?_
      rw [if_neg (by rw [hb15]; decide)]
      refine fa fa26_2 rfl rfl rfl rfl rfl rfl ?_
      refine ld By5_b1 Try.underlying3 rfl rfl rfl rfl rfl rfl rfl rfl ?_
      refine cl rfl rfl rfl rfl rfl Try.func35 rfl rfl rfl (fun r16 m16 => impl_isLsn.calls a0.Lsn s13.w (fun b => memb [] (s13.g b) = true)  r16 m16) ?_
      rintro r16 _ w16 m16 ⟨rfl, ky16⟩
      obtain ⟨s17, rfl, p17, n17⟩ := nwx s13 w16 13 ky16
      refine pu rfl rfl rfl rfl rfl ?_
      refine pu rfl rfl rfl rfl rfl ?_
      have A18 := (BlF.st By5_b1 p17 rfl)
      have K19 := (Ky5.st p17 rfl)
      exact Kj15 _ _ _ ⟨s17, _, rfl, (ue (ue rfl rfl) rfl), K19, A18⟩
  rintro y15 _ _ ⟨s20, _, rfl, rfl, Ky15, By15_b1⟩
  refine pu rfl rfl rfl rfl rfl ?_
  refine ji [22, 23, 24, 25, 26, 27] (fun (y22 : Bool) (e : Env) (w : World) => ∃ (s : St) (e0 : Env), w = s.w ∧ e = upd (upd e0 1 (.pointer (some ⟨b1, 0, none⟩))) 25 (.bool y22) ∧ Kp s0 s ∧ BlF s b1 26 [(.int .i64 a0.Seq), (.int .i64 a0.Area), (.int .i64 a0.Lsn), (.int .i64 a0.Next), (.int .i64 a0.Pages)] 10) (fun Gj22 Kj22 => ?_) ?_
  ·
    rcases Bool.eq_false_or_eq_true y15 with hb22 | hb22
    ·
      refine sbT hb22 ?_
      rw [if_pos hb22]
      refine uw rfl rfl rfl rfl ?_
      refine uw rfl rfl rfl rfl ?_
      refine uw rfl rfl rfl rfl ?_
      refine uw rfl rfl rfl rfl ?_
      refine pu rfl rfl rfl rfl rfl ?_
      exact Kj22 _ _ _ ⟨s20, _, rfl, (ue (ue rfl rfl) rfl), Ky15, By15_b1⟩
    ·
      refine sbT hb22 ?_
      rw [if_neg (by rw [hb22]; decide)]
      refine fa fa26_3 rfl rfl rfl rfl rfl rfl ?_
      refine ld By15_b1 Try.underlying3 rfl rfl rfl rfl rfl rfl rfl rfl ?_
      refine cl rfl rfl rfl rfl rfl Try.func34 rfl rfl rfl (fun r23 m23 => impl_within.calls a0.Next (1 : Int) (401 : Int) s20.w (fun b => memb [] (s20.g b) = true)  r23 m23) ?_
      rintro r23 _ w23 m23 ⟨rfl, ky23⟩
      obtain ⟨s24, rfl, p24, n24⟩ := nwx s20 w23 14 ky23
      refine pu rfl rfl rfl rfl rfl ?_
      refine pu rfl rfl rfl rfl rfl ?_
      have A25 := (BlF.st By15_b1 p24 rfl)
      have K26 := (Ky15.st p24 rfl)
      exact Kj22 _ _ _ ⟨s24, _, rfl, (ue (ue rfl rfl) rfl), K26, A25⟩
  rintro y22 _ _ ⟨s27, _, rfl, rfl, Ky22, By22_b1⟩
  refine pu rfl rfl rfl rfl rfl ?_
  refine ji [] (fun (y29 : Bool) (e : Env) (w : World) => ∃ (s : St) (e0 : Env), w = s.w ∧ e = upd (upd e0 1 (.pointer (some ⟨b1, 0, none⟩))) 31 (.bool y29) ∧ Kp s0 s ∧ BlF s b1 26 [(.int .i64 a0.Seq), (.int .i64 a0.Area), (.int .i64 a0.Lsn), (.int .i64 a0.Next), (.int .i64 a0.Pages)] 10) (fun Gj29 Kj29 => ?_) ?_
  ·
    rcases Bool.eq_false_or_eq_true y22 with hb29 | hb29
    ·
      refine sbT hb29 ?_
      rw [if_pos hb29]
      refine uw rfl rfl rfl rfl ?_
      refine uw rfl rfl rfl rfl ?_
      refine uw rfl rfl rfl rfl ?_
      refine uw rfl rfl rfl rfl ?_
      refine pu rfl rfl rfl rfl rfl ?_
      exact Kj29 _ _ _ ⟨s27, _, rfl, (ue (ue rfl rfl) rfl), Ky22, By22_b1⟩
    ·
      refine sbT hb29 ?_
      rw [if_neg (by rw [hb29]; decide)]
      refine fa fa26_4 rfl rfl rfl rfl rfl rfl ?_
      refine ld By22_b1 Try.underlying3 rfl rfl rfl rfl rfl rfl rfl rfl ?_
      refine cl rfl rfl rfl rfl rfl Try.func34 rfl rfl rfl (fun r30 m30 => impl_within.calls a0.Pages (0 : Int) (16 : Int) s27.w (fun b => memb [] (s27.g b) = true)  r30 m30) ?_
      rintro r30 _ w30 m30 ⟨rfl, ky30⟩
      obtain ⟨s31, rfl, p31, n31⟩ := nwx s27 w30 15 ky30
      refine pu rfl rfl rfl rfl rfl ?_
      refine pu rfl rfl rfl rfl rfl ?_
      have A32 := (BlF.st By22_b1 p31 rfl)
      have K33 := (Ky22.st p31 rfl)
      exact Kj29 _ _ _ ⟨s31, _, rfl, (ue (ue rfl rfl) rfl), K33, A32⟩
  rintro y29 _ _ ⟨s34, _, rfl, rfl, Ky29, By29_b1⟩
  refine dn ?_
  refine cd rfl (fun h36 => ?_) (fun h36 => ?_)
  ·
    refine sr ?_
    refine pu rfl rfl rfl rfl rfl ?_
    refine dn ?_
    exact re rfl Try.func9 rfl (r_t rfl r_nil) rfl ⟨_, rfl, (ow_nil 5 (Kd.int .u8) s34 10).fo Ky29 rfl, z.ky Ky29⟩
  ·
    refine sk ?_
    refine sq ?_
    refine zdraw [[], [0], [1], [], [3], [4, 2], [], [6], [7, 5], [], [9], [10, 8], [], [12], [13, 11], [2, 5, 8, 11, 14], [15, 14], [16, 16, 0, 1, 2, 3, 4, 5, 6, 7, 8, 9, 10, 11, 12, 13, 14, 15, 16]] [some 32, some 33, some 34, some 35, some 36, some 37, some 38, some 39, some 40, some 41, some 42, some 43, some 44, some 45, some 46, some 47, some 48, some 3] [[1], [32], [33], [1], [35], [36], [1], [38], [39], [1], [41], [42], [1], [44], [45], [34, 37, 40, 43, 46], [47], [48]] [0, 1, 2, 3, 4, 5, 6, 7, 8, 9, 10, 11, 12, 13, 14, 15, 16, 17] ⟨by kernel_rfl, by kernel_rfl, by kernel_rfl⟩ (by kernel_rfl) (fun s37 p37 l37 tb37 zd37 => ?_)
    have zd38 := zd37.add 0 32 (.pointer (some ⟨b1, 0, none⟩)) rfl
    have A39 := (BlF.st By29_b1 p37 rfl)
    have zd40 := zd38.add 1 33 (.int .i64 a0.Seq) rfl
    have zd41 := zd40.add 3 35 (.pointer (some ⟨b1, 1, none⟩)) rfl
    have A42 := (BlF.st By29_b1 p37 rfl)
    have zd43 := zd41.add 4 36 (.int .i64 a0.Area) rfl
    have zd44 := zd43.add 6 38 (.pointer (some ⟨b1, 2, none⟩)) rfl
    have A45 := (BlF.st By29_b1 p37 rfl)
    have zd46 := zd44.add 7 39 (.int .i64 a0.Lsn) rfl
    have zd47 := zd46.add 9 41 (.pointer (some ⟨b1, 3, none⟩)) rfl
    have A48 := (BlF.st By29_b1 p37 rfl)
    have zd49 := zd47.add 10 42 (.int .i64 a0.Next) rfl
    have zd50 := zd49.add 12 44 (.pointer (some ⟨b1, 4, none⟩)) rfl
    have A51 := (BlF.st By29_b1 p37 rfl)
    have zd52 := zd50.add 13 45 (.int .i64 a0.Pages) rfl
    have A54 := (BlF.st By29_b1 p37 rfl)
    have A55 := (BlF.st By29_b1 p37 rfl)
    have A56 := (BlF.st By29_b1 p37 rfl)
    have A57 := (BlF.st By29_b1 p37 rfl)
    have A58 := (BlF.st By29_b1 p37 rfl)
    refine zstep 2 [some 45, some 44, some 42, some 41, some 39, some 38, some 36, some 35] tb37 zd52 (pq_cons (ld_q A58 Try.underlying3 rfl rfl rfl rfl rfl rfl rfl rfl) rfl (pq_cons (fa_q fa26_4 rfl rfl rfl rfl rfl rfl) rfl (pq_cons (ld_q A57 Try.underlying3 rfl rfl rfl rfl rfl rfl rfl rfl) rfl (pq_cons (fa_q fa26_3 rfl rfl rfl rfl rfl rfl) rfl (pq_cons (ld_q A56 Try.underlying3 rfl rfl rfl rfl rfl rfl rfl rfl) rfl (pq_cons (fa_q fa26_2 rfl rfl rfl rfl rfl rfl) rfl (pq_cons (ld_q A55 Try.underlying3 rfl rfl rfl rfl rfl rfl rfl rfl) rfl (pq_cons (fa_q fa26_1 rfl rfl rfl rfl rfl rfl) rfl (pq_cons (ld_q A54 Try.underlying3 rfl rfl rfl rfl rfl rfl rfl rfl) rfl (pq_cons (fa_q fa26_0 rfl rfl rfl rfl rfl rfl) rfl pq_nil)))))))))) (by kernel_rfl) rfl (fun l53 e53 zd53 => ?_)
    refine cl rfl rfl rfl rfl rfl Try.func37 rfl rfl rfl (fun r59 m59 => impl_PutNum.calls a0.Seq (4 : Int) s37.w (fun b => memb [] (s37.g b) = true)  r59 m59) ?_
    rintro r59 v59_0 w59 m59 ⟨f59_0, ky59⟩
    obtain ⟨s60, rfl, p60, n60⟩ := nwx s37 w59 16 ky59
    have A59_0 := f59_0.c n60
    refine zdone (L' := [13, 12, 10, 9, 7, 6, 4, 3]) (D' := [0, 1, 2]) zd53 rfl rfl rfl (fun zd62 => ?_)
    have A64 := (BlF.st (BlF.st By29_b1 p37 rfl) p60 rfl)
    have A65 := (BlF.st (BlF.st By29_b1 p37 rfl) p60 rfl)
    have A66 := (BlF.st (BlF.st By29_b1 p37 rfl) p60 rfl)
    have A67 := (BlF.st (BlF.st By29_b1 p37 rfl) p60 rfl)
    refine zstep 5 [some 45, some 44, some 42, some 41, some 39, some 38] tb37 zd62 (pq_cons (ld_q A67 Try.underlying3 rfl rfl rfl rfl rfl rfl rfl rfl) rfl (pq_cons (fa_q fa26_4 rfl rfl rfl rfl rfl rfl) rfl (pq_cons (ld_q A66 Try.underlying3 rfl rfl rfl rfl rfl rfl rfl rfl) rfl (pq_cons (fa_q fa26_3 rfl rfl rfl rfl rfl rfl) rfl (pq_cons (ld_q A65 Try.underlying3 rfl rfl rfl rfl rfl rfl rfl rfl) rfl (pq_cons (fa_q fa26_2 rfl rfl rfl rfl rfl rfl) rfl (pq_cons (ld_q A64 Try.underlying3 rfl rfl rfl rfl rfl rfl rfl rfl) rfl (pq_cons (fa_q fa26_1 rfl rfl rfl rfl rfl rfl) rfl pq_nil)))))))) (by kernel_rfl) rfl (fun l63 e63 zd63 => ?_)
    refine cl rfl rfl rfl rfl rfl Try.func37 rfl rfl rfl (fun r68 m68 => impl_PutNum.calls a0.Area (1 : Int) s60.w (fun b => memb [] (s60.g b) = true)  r68 m68) ?_
    rintro r68 v68_0 w68 m68 ⟨f68_0, ky68⟩
    obtain ⟨s69, rfl, p69, n69⟩ := nwx s60 w68 17 ky68
    have A68_0 := f68_0.c n69
    refine zdone (L' := [13, 12, 10, 9, 7, 6]) (D' := [3, 4, 5, 0, 1, 2]) zd63 rfl rfl rfl (fun zd71 => ?_)
    have A73 := (BlF.st (BlF.st (BlF.st By29_b1 p37 rfl) p60 rfl) p69 rfl)
    have A74 := (BlF.st (BlF.st (BlF.st By29_b1 p37 rfl) p60 rfl) p69 rfl)
    have A75 := (BlF.st (BlF.st (BlF.st By29_b1 p37 rfl) p60 rfl) p69 rfl)
    refine zstep 8 [some 45, some 44, some 42, some 41] tb37 zd71 (pq_cons (ld_q A75 Try.underlying3 rfl rfl rfl rfl rfl rfl rfl rfl) rfl (pq_cons (fa_q fa26_4 rfl rfl rfl rfl rfl rfl) rfl (pq_cons (ld_q A74 Try.underlying3 rfl rfl rfl rfl rfl rfl rfl rfl) rfl (pq_cons (fa_q fa26_3 rfl rfl rfl rfl rfl rfl) rfl (pq_cons (ld_q A73 Try.underlying3 rfl rfl rfl rfl rfl rfl rfl rfl) rfl (pq_cons (fa_q fa26_2 rfl rfl rfl rfl rfl rfl) rfl pq_nil)))))) (by kernel_rfl) rfl (fun l72 e72 zd72 => ?_)
    refine cl rfl rfl rfl rfl rfl Try.func37 rfl rfl rfl (fun r76 m76 => impl_PutNum.calls a0.Lsn (4 : Int) s69.w (fun b => memb [] (s69.g b) = true)  r76 m76) ?_
    rintro r76 v76_0 w76 m76 ⟨f76_0, ky76⟩
    obtain ⟨s77, rfl, p77, n77⟩ := nwx s69 w76 18 ky76
    have A76_0 := f76_0.c n77
    refine zdone (L' := [13, 12, 10, 9]) (D' := [6, 7, 8, 3, 4, 5, 0, 1, 2]) zd72 rfl rfl rfl (fun zd79 => ?_)
    have A81 := (BlF.st (BlF.st (BlF.st (BlF.st By29_b1 p37 rfl) p60 rfl) p69 rfl) p77 rfl)
    have A82 := (BlF.st (BlF.st (BlF.st (BlF.st By29_b1 p37 rfl) p60 rfl) p69 rfl) p77 rfl)
    refine zstep 11 [some 45, some 44] tb37 zd79 (pq_cons (ld_q A82 Try.underlying3 rfl rfl rfl rfl rfl rfl rfl rfl) rfl (pq_cons (fa_q fa26_4 rfl rfl rfl rfl rfl rfl) rfl (pq_cons (ld_q A81 Try.underlying3 rfl rfl rfl rfl rfl rfl rfl rfl) rfl (pq_cons (fa_q fa26_3 rfl rfl rfl rfl rfl rfl) rfl pq_nil)))) (by kernel_rfl) rfl (fun l80 e80 zd80 => ?_)
    refine cl rfl rfl rfl rfl rfl Try.func37 rfl rfl rfl (fun r83 m83 => impl_PutNum.calls a0.Next (4 : Int) s77.w (fun b => memb [] (s77.g b) = true)  r83 m83) ?_
    rintro r83 v83_0 w83 m83 ⟨f83_0, ky83⟩
    obtain ⟨s84, rfl, p84, n84⟩ := nwx s77 w83 19 ky83
    have A83_0 := f83_0.c n84
    refine zdone (L' := [13, 12]) (D' := [9, 10, 11, 6, 7, 8, 3, 4, 5, 0, 1, 2]) zd80 rfl rfl rfl (fun zd86 => ?_)
    have A87 := (BlF.st (BlF.st (BlF.st (BlF.st (BlF.st By29_b1 p37 rfl) p60 rfl) p69 rfl) p77 rfl) p84 rfl)
    refine zfin [14, 15, 16, 17] tb37 zd86 (pq_cons (ld_q A87 Try.underlying3 rfl rfl rfl rfl rfl rfl rfl rfl) rfl (pq_cons (fa_q fa26_4 rfl rfl rfl rfl rfl rfl) rfl pq_nil)) (by kernel_rfl) (by decide) ?_
    refine cl rfl rfl rfl rfl rfl Try.func37 rfl rfl rfl (fun r88 m88 => impl_PutNum.calls a0.Pages (1 : Int) s84.w (fun b => memb [] (s84.g b) = true)  r88 m88) ?_
    rintro r88 v88_0 w88 m88 ⟨f88_0, ky88⟩
    obtain ⟨s89, rfl, p89, n89⟩ := nwx s84 w88 20 ky88
    have A88_0 := f88_0.c n89
    have A91 := ((((A59_0.st p69 rfl).st p77 rfl).st p84 rfl).st p89 rfl)
    have A92 := (((A68_0.st p77 rfl).st p84 rfl).st p89 rfl)
    have A93 := ((A76_0.st p84 rfl).st p89 rfl)
    have A94 := (A83_0.st p89 rfl)
    refine ltR (K := (Kd.sl 5 (Kd.int .u8))) (cells := [v59_0, v68_0, v76_0, v83_0, v88_0]) [r59, r68, r76, r83, r88] 21 [16, 17, 18, 19, 20] rfl Try.underlying76 z24 o24 (el_cons (RdF.sub (D := [16, 17, 18, 19, 20]) A91.rd rfl) (el_cons (RdF.sub (D := [16, 17, 18, 19, 20]) A92.rd rfl) (el_cons (RdF.sub (D := [16, 17, 18, 19, 20]) A93.rd rfl) (el_cons (RdF.sub (D := [16, 17, 18, 19, 20]) A94.rd rfl) (el_cons (RdF.sub (D := [16, 17, 18, 19, 20]) A88_0.rd rfl) el_nil))))) rfl rfl rfl rfl rfl rfl rfl rfl rfl (lfill_pc (pc_c (oc A91.rd.one) (pc_c (oc A92.rd.one) (pc_c (oc A93.rd.one) (pc_c (oc A94.rd.one) (pc_c (oc A88_0.rd.one) pc_n))))) rfl) (fun v95 s95 p95 A95 => ?_)
    refine cl rfl rfl rfl rfl rfl Try.func36 rfl rfl rfl (fun r97 m97 => slices_Concat_byte_byte.calls ([r59, r68, r76, r83, r88]) s95.w (fun b => memb [21, 16, 17, 18, 19, 20] (s95.g b) = true) v95 A95.rd r97 m97) ?_
    rintro r97 v97_0 w97 m97 ⟨f97_0, ky97⟩
    obtain ⟨s98, rfl, p98, n98⟩ := nwx s95 w97 22 ky97
    have A97_0 := f97_0.c n98
    refine asg v97_0 rfl rfl rfl rfl rfl rfl ?_
    refine dn ?_
    refine sr ?_
    refine mv v97_0 rfl rfl rfl rfl rfl rfl ?_
    refine cl rfl rfl rfl rfl rfl Try.func39 rfl rfl rfl (fun r100 m100 => impl_Frame.calls (9 : Int) r97 s98.w (fun b => memb [22] (s98.g b) = true) v97_0 A97_0.rd r100 m100) ?_
    rintro r100 v100_0 w100 m100 ⟨f100_0, ky100⟩
    obtain ⟨s101, rfl, p101, n101⟩ := nwx s98 w100 23 ky100
    have A100_0 := f100_0.c n101
    refine cl rfl rfl rfl rfl rfl Try.func38 rfl rfl rfl (fun r103 m103 => impl_filled.calls r100 (64 : Int) s101.w (fun b => memb [23] (s101.g b) = true) v100_0 A100_0.rd r103 m103) ?_
    rintro r103 v103_0 w103 m103 ⟨f103_0, ky103⟩
    obtain ⟨s104, rfl, p104, n104⟩ := nwx s101 w103 24 ky103
    have A103_0 := f103_0.c n104
    refine asg v103_0 rfl rfl rfl rfl rfl rfl ?_
    refine dn ?_
    have K106 := ((((((((((Ky29.st p37 rfl).st p60 rfl).st p69 rfl).st p77 rfl).st p84 rfl).st p89 rfl).st p95 rfl).st p98 rfl).st p101 rfl).st p104 rfl)
    exact re rfl Try.func9 rfl (r_t rfl r_nil) rfl ⟨_, rfl, A103_0.fo K106 rfl, z.ky K106⟩
noncomputable def laws_eqByteS.b0 (a0 : (List Int)) (a1 : (List Int)) (x4 : Int) : Option (Int ⊕ Bool) :=
  (if (decide (x4 < (a0.length : Int))) = true then (if 0 ≤ x4 ∧ x4 < (a0.length : Int) then (if 0 ≤ x4 ∧ x4 < (a1.length : Int) then (if ((at_ a0 x4) != (at_ a1 x4)) = true then (some (.inr false)) else (some (.inl (IntKind.wrap .i64 (x4 + (1 : Int)))))) else none) else none) else ((some true).bind fun o => some (.inr o)))
noncomputable def laws_eqByteS.f (a0 : (List Int)) (a1 : (List Int)) : Option (Bool) :=
  (if ((a0.length : Int) != (a1.length : Int)) = true then (some false) else (iter (laws_eqByteS.b0 a0 a1) (0 : Int)))
def laws_eqByteS.Q (w : World) (F : Nat → Prop) (r : Bool) (v : Value) (w' : World) : Prop :=
  v = (.bool r) ∧ Ky [] w w'
set_option maxHeartbeats 4000000 in
set_option maxRecDepth 100000 in
theorem laws_eqByteS.calls (a0 : (List Int)) (a1 : (List Int)) (w : World) (F : Nat → Prop) (w0_0 : Value) (w1_0 : Value) (h0_0 : (Kd.sl 5 (Kd.int .u8)).rd w [w0_0] a0 F) (h1_0 : (Kd.sl 5 (Kd.int .u8)).rd w [w1_0] a1 F) (r : Bool) (m : laws_eqByteS.f a0 a1 = some r) :
    Calls Try.prog 10 #[w0_0, w1_0] w fun en w' => ∃ v, en = .returned v ∧ laws_eqByteS.Q w F r v w' := by
  obtain ⟨s0, rfl, kp0, z⟩ := start0 w F
  have A0_0 := z.rd h0_0
  have A1_0 := z.rd h1_0
  refine calls_of_TM (args := [w0_0, w1_0]) (R := fun r en w' => ∃ v, en = .returned v ∧ laws_eqByteS.Q s0.w F r v w') Try.func10 Try.ntmps10 rfl rfl m ?_
  unfold laws_eqByteS.f
  refine sr ?_
  refine pu rfl rfl rfl rfl rfl ?_
  refine dn ?_
  refine sq ?_
  refine sr ?_
  refine mv w0_0 rfl rfl rfl rfl rfl rfl ?_
  refine ln A0_0 Try.underlying24 rfl rfl rfl rfl rfl rfl ?_
  refine mv w1_0 rfl rfl rfl rfl rfl rfl ?_
  refine ln A1_0 Try.underlying24 rfl rfl rfl rfl rfl rfl ?_
  refine pu rfl rfl rfl rfl rfl ?_
  refine dn ?_
  refine cd rfl (fun h3 => ?_) (fun h3 => ?_)
  ·
    refine sr ?_
    refine pu rfl rfl rfl rfl rfl ?_
    refine dn ?_
    exact re rfl Try.func10 rfl (r_t rfl r_nil) rfl ⟨_, rfl, rfl, z.ky kp0⟩
  ·
    refine sk ?_
    refine sq ?_
    refine sr ?_
    refine pu rfl rfl rfl rfl rfl ?_
    refine dn ?_
    refine bl ?_
    refine lpI (fun (x4 : Int) (e : Env) (w : World) => ∃ (s : St) (e0 : Env), w = s.w ∧ e = upd (upd (upd e0 0 w0_0) 1 w1_0) 5 (.int .i64 x4) ∧ Kp s0 s) ⟨s0, _, rfl, (ue (ue (ue rfl rfl) rfl) rfl), kp0⟩ (fun g4 ih4 => ?_)
    rintro x4 _ _ ⟨s5, _, rfl, rfl, Kx4⟩
    unfold laws_eqByteS.b0
    refine sq ?_
    refine sr ?_
    refine pu rfl rfl rfl rfl rfl ?_
    refine mv w0_0 rfl rfl rfl rfl rfl rfl ?_
    have A6 := (A0_0.kp Kx4)
    refine ln A6 Try.underlying24 rfl rfl rfl rfl rfl rfl ?_
    refine pu rfl rfl rfl rfl rfl ?_
    refine dn ?_
    refine cd rfl (fun h7 => ?_) (fun h7 => ?_)
    ·
      refine sk ?_
      refine sq ?_
      refine bl ?_
      refine sq ?_
      refine zdraw [[], [], [0, 1], [2], [], [], [4, 5], [6], [3, 7]] [some 17, some 18, some 19, some 20, some 21, some 22, some 23, some 24, some 25] [[0], [5], [17, 18], [19], [1], [5], [21, 22], [23], [20, 24]] [0, 1, 2, 3, 4, 5, 6, 7, 8] ⟨by kernel_rfl, by kernel_rfl, by kernel_rfl⟩ (by kernel_rfl) (fun s8 p8 l8 tb8 zd8 => ?_)
      have zd9 := zd8.add 0 17 w0_0 rfl
      have zd10 := zd9.add 1 18 (.int .i64 x4) rfl
      have K11 := (Kx4.st p8 rfl)
      have A12 := (A0_0.kp K11)
      refine mg fun hg13 => ?_
      obtain ⟨ad13, es13, he13, ce13, ia13⟩ := ix_e A12 rfl hg13.1 hg13.2
      have h0_13 := hg13.1
      have h1_13 := hg13.2
      obtain rfl := he13
      have zd15 := zd10.add 2 19 (.pointer (some ad13)) rfl
      have zd16 := zd15.add 3 20 (.int .u8 (at_ a0 x4)) rfl
      have zd17 := zd16.add 4 21 w1_0 rfl
      have zd18 := zd17.add 5 22 (.int .i64 x4) rfl
      have A19 := (A1_0.kp K11)
      refine mg fun hg20 => ?_
      obtain ⟨ad20, es20, he20, ce20, ia20⟩ := ix_e A19 rfl hg20.1 hg20.2
      have h0_20 := hg20.1
      have h1_20 := hg20.2
      obtain rfl := he20
      have zd22 := zd18.add 6 23 (.pointer (some ad20)) rfl
      have zd23 := zd22.add 7 24 (.int .u8 (at_ a1 x4)) rfl
      refine zfin [8] tb8 zd23 (pq_cons (lc0_q ce20 Try.underlying5 rfl rfl rfl rfl rfl rfl rfl rfl) rfl (pq_cons (ix_q A19 Try.underlying24 z5 hg20.1 hg20.2 ia20 rfl rfl rfl rfl rfl rfl rfl) rfl (pq_cons (pu_q rfl rfl rfl rfl rfl rfl) rfl (pq_cons (mv_q w1_0 rfl rfl rfl rfl rfl rfl) rfl (pq_cons (lc0_q ce13 Try.underlying5 rfl rfl rfl rfl rfl rfl rfl rfl) rfl (pq_cons (ix_q A12 Try.underlying24 z5 hg13.1 hg13.2 ia13 rfl rfl rfl rfl rfl rfl rfl) rfl (pq_cons (pu_q rfl rfl rfl rfl rfl rfl) rfl (pq_cons (mv_q w0_0 rfl rfl rfl rfl rfl rfl) rfl pq_nil)))))))) (by kernel_rfl) (by decide) ?_
      refine pu rfl rfl rfl rfl rfl ?_
      refine dn ?_
      refine cd rfl (fun h24 => ?_) (fun h24 => ?_)
      ·
        refine sr ?_
        refine pu rfl rfl rfl rfl rfl ?_
        refine dn ?_
        refine sgi ?_
        exact re rfl Try.func10 rfl (r_t rfl r_nil) rfl ⟨_, rfl, rfl, z.ky K11⟩
      ·
        refine sk ?_
        refine ib ?_
        refine rg ?_
        refine pu rfl rfl rfl rfl rfl ?_
        refine pu rfl rfl rfl rfl rfl ?_
        refine pu rfl rfl rfl rfl rfl ?_
        refine dn ?_
        exact lb ih4 ⟨s8, _, rfl, (ue (ue (ue rfl rfl) rfl) rfl), K11⟩
    ·
      refine xt rfl ?_
      refine sgb ?_
      refine sr ?_
      refine pu rfl rfl rfl rfl rfl ?_
      refine dn ?_
      exact re rfl Try.func10 rfl (r_t rfl r_nil) rfl ⟨_, rfl, rfl, z.ky Kx4⟩
noncomputable def laws_markByteS.b0  (x2 : (List Int) × Int × Int) : Option (((List Int) × Int × Int) ⊕ (Int × (List Int))) :=
  (if (decide (x2.2.2 < (x2.1.length : Int))) = true then (if 0 ≤ x2.2.2 ∧ x2.2.2 < (x2.1.length : Int) then (some (.inl ((x2.1.set (x2.2.2).toNat (IntKind.wrap .u8 x2.2.1)), (IntKind.wrap .i64 (x2.2.1 + (1 : Int))), (IntKind.wrap .i64 (x2.2.2 + (1 : Int)))))) else none) else ((some (x2.2.1, x2.1)).bind fun o => some (.inr o)))
noncomputable def laws_markByteS.f (a0 : (List Int)) (a1 : Int) : Option (Int × (List Int)) :=
  (iter laws_markByteS.b0 (a0, a1, (0 : Int)))
def laws_markByteS.Q (w : World) (F : Nat → Prop) (os : List Nat) (w0_0 : Value) (r : Int × (List Int)) (v : Value) (w' : World) : Prop :=
  v = (.int .i64 r.1) ∧ FW (Kd.sl 5 (Kd.int .u8)) os w w' [w0_0] r.2 ∧ Ky os w w'
set_option maxHeartbeats 4000000 in
set_option maxRecDepth 100000 in
theorem laws_markByteS.calls (a0 : (List Int)) (a1 : Int) (w : World) (F : Nat → Prop) (w0_0 : Value) (os : List Nat) (h0_0 : (Kd.sl 5 (Kd.int .u8)).ow w [w0_0] a0 os) (hn : os.Nodup) (hF : ∀ b, F b → b ∉ os) (r : Int × (List Int)) (m : laws_markByteS.f a0 a1 = some r) :
    Calls Try.prog 11 #[w0_0, (.int .i64 a1)] w fun en w' => ∃ v, en = .returned v ∧ laws_markByteS.Q w F os w0_0 r v w' := by
  obtain ⟨s0, rfl, kp0, z⟩ := start1 w F os hF
  have A0_0 := z.ow h0_0 hn
  refine calls_of_TM (args := [w0_0, (.int .i64 a1)]) (R := fun r en w' => ∃ v, en = .returned v ∧ laws_markByteS.Q s0.w F os w0_0 r v w') Try.func11 Try.ntmps11 rfl rfl m ?_
  unfold laws_markByteS.f
  refine sr ?_
  refine pu rfl rfl rfl rfl rfl ?_
  refine dn ?_
  refine sq ?_
  refine sr ?_
  refine pu rfl rfl rfl rfl rfl ?_
  refine dn ?_
  refine bl ?_
  refine lpI (fun (x2 : (List Int) × Int × Int) (e : Env) (w : World) => ∃ (s : St) (e0 : Env), w = s.w ∧ e = upd (upd (upd e0 0 w0_0) 1 (.int .i64 x2.2.1)) 5 (.int .i64 x2.2.2) ∧ Kp s0 s ∧ OwF (Kd.sl 5 (Kd.int .u8)) s [w0_0] x2.1 2) ⟨s0, _, rfl, (ue (ue (ue rfl rfl) rfl) rfl), kp0, A0_0⟩ (fun g2 ih2 => ?_)
  rintro x2 _ _ ⟨s3, _, rfl, rfl, Kx2, Ax2_0⟩
  unfold laws_markByteS.b0
  refine sq ?_
  refine sr ?_
  refine pu rfl rfl rfl rfl rfl ?_
  refine mv w0_0 rfl rfl rfl rfl rfl rfl ?_
  refine ln Ax2_0.rd Try.underlying24 rfl rfl rfl rfl rfl rfl ?_
  refine pu rfl rfl rfl rfl rfl ?_
  refine dn ?_
  refine cd rfl (fun h5 => ?_) (fun h5 => ?_)
  ·
    refine sk ?_
    refine sq ?_
    refine bl ?_
    refine sr ?_
    refine mv w0_0 rfl rfl rfl rfl rfl rfl ?_
    refine pu rfl rfl rfl rfl rfl ?_
    refine pu rfl rfl rfl rfl rfl ?_
    refine cv Try.underlying5 Try.underlying3 rfl rfl rfl rfl rfl rfl ?_
    refine ix Ax2_0.rd Try.underlying24 z5 rfl rfl rfl rfl rfl rfl rfl rfl (fun ad6 es6 h0_6 h1_6 he6 ce6 ia6 => ?_)
    obtain rfl := he6
    refine so (x' := (IntKind.wrap .u8 x2.2.1)) Ax2_0 ia6 h0_6 h1_6 cs_flat z5 rfl rfl rfl rfl rfl rfl (fun s8 p8 A8 => ?_)
    refine dn ?_
    refine rg ?_
    refine pu rfl rfl rfl rfl rfl ?_
    refine pu rfl rfl rfl rfl rfl ?_
    refine pu rfl rfl rfl rfl rfl ?_
    refine dn ?_
    refine ib ?_
    refine rg ?_
    refine pu rfl rfl rfl rfl rfl ?_
    refine pu rfl rfl rfl rfl rfl ?_
    refine pu rfl rfl rfl rfl rfl ?_
    refine dn ?_
    have K10 := (Kx2.st p8 rfl)
    exact lb ih2 ⟨s8, _, rfl, (ue (ue (ue rfl rfl) rfl) rfl), K10, A8⟩
  ·
    refine xt rfl ?_
    refine sgb ?_
    refine sr ?_
    refine pu rfl rfl rfl rfl rfl ?_
    refine pu rfl rfl rfl rfl rfl ?_
    refine dn ?_
    exact re rfl Try.func11 rfl (r_t rfl r_nil) rfl ⟨_, rfl, rfl, z.fw Kx2 Ax2_0, z.ky Kx2⟩
noncomputable def laws_heldByteS.b0 (a0 : (List Int)) (x2 : Int × Int) : Option ((Int × Int) ⊕ Int) :=
  (if (decide (x2.2 < (a0.length : Int))) = true then (if 0 ≤ x2.2 ∧ x2.2 < (a0.length : Int) then (if ((at_ a0 x2.2) != (IntKind.wrap .u8 x2.1)) = true then (some (.inr (-1 : Int))) else (some (.inl ((IntKind.wrap .i64 (x2.1 + (1 : Int))), (IntKind.wrap .i64 (x2.2 + (1 : Int))))))) else none) else ((some x2.1).bind fun o => some (.inr o)))
noncomputable def laws_heldByteS.f (a0 : (List Int)) (a1 : Int) : Option (Int) :=
  (iter (laws_heldByteS.b0 a0) (a1, (0 : Int)))
def laws_heldByteS.Q (w : World) (F : Nat → Prop) (r : Int) (v : Value) (w' : World) : Prop :=
  v = (.int .i64 r) ∧ Ky [] w w'
set_option maxHeartbeats 4000000 in
set_option maxRecDepth 100000 in
theorem laws_heldByteS.calls (a0 : (List Int)) (a1 : Int) (w : World) (F : Nat → Prop) (w0_0 : Value) (h0_0 : (Kd.sl 5 (Kd.int .u8)).rd w [w0_0] a0 F) (r : Int) (m : laws_heldByteS.f a0 a1 = some r) :
    Calls Try.prog 12 #[w0_0, (.int .i64 a1)] w fun en w' => ∃ v, en = .returned v ∧ laws_heldByteS.Q w F r v w' := by
  obtain ⟨s0, rfl, kp0, z⟩ := start0 w F
  have A0_0 := z.rd h0_0
  refine calls_of_TM (args := [w0_0, (.int .i64 a1)]) (R := fun r en w' => ∃ v, en = .returned v ∧ laws_heldByteS.Q s0.w F r v w') Try.func12 Try.ntmps12 rfl rfl m ?_
  unfold laws_heldByteS.f
  refine sr ?_
  refine pu rfl rfl rfl rfl rfl ?_
  refine dn ?_
  refine sq ?_
  refine sr ?_
  refine pu rfl rfl rfl rfl rfl ?_
  refine dn ?_
  refine bl ?_
  refine lpI (fun (x2 : Int × Int) (e : Env) (w : World) => ∃ (s : St) (e0 : Env), w = s.w ∧ e = upd (upd (upd e0 0 w0_0) 1 (.int .i64 x2.1)) 5 (.int .i64 x2.2) ∧ Kp s0 s) ⟨s0, _, rfl, (ue (ue (ue rfl rfl) rfl) rfl), kp0⟩ (fun g2 ih2 => ?_)
  rintro x2 _ _ ⟨s3, _, rfl, rfl, Kx2⟩
  unfold laws_heldByteS.b0
  refine sq ?_
  refine sr ?_
  refine pu rfl rfl rfl rfl rfl ?_
  refine mv w0_0 rfl rfl rfl rfl rfl rfl ?_
  have A4 := (A0_0.kp Kx2)
  refine ln A4 Try.underlying24 rfl rfl rfl rfl rfl rfl ?_
  refine pu rfl rfl rfl rfl rfl ?_
  refine dn ?_
  refine cd rfl (fun h5 => ?_) (fun h5 => ?_)
  ·
    refine sk ?_
    refine sq ?_
    refine bl ?_
    refine sq ?_
    refine sr ?_
    refine mv w0_0 rfl rfl rfl rfl rfl rfl ?_
    refine pu rfl rfl rfl rfl rfl ?_
    refine ix A4 Try.underlying24 z5 rfl rfl rfl rfl rfl rfl rfl rfl (fun ad6 es6 h0_6 h1_6 he6 ce6 ia6 => ?_)
    obtain rfl := he6
    refine lc0 ce6 Try.underlying5 rfl rfl rfl rfl rfl rfl rfl rfl ?_
    refine pu rfl rfl rfl rfl rfl ?_
    refine cv Try.underlying5 Try.underlying3 rfl rfl rfl rfl rfl rfl ?_
    refine pu rfl rfl rfl rfl rfl ?_
    refine dn ?_
    refine cd rfl (fun h8 => ?_) (fun h8 => ?_)
    ·
      refine sr ?_
      refine pu rfl rfl rfl rfl rfl ?_
      refine dn ?_
      refine sgi ?_
      exact re rfl Try.func12 rfl (r_t rfl r_nil) rfl ⟨_, rfl, rfl, z.ky Kx2⟩
    ·
      refine sk ?_
      refine rg ?_
      refine pu rfl rfl rfl rfl rfl ?_
      refine pu rfl rfl rfl rfl rfl ?_
      refine pu rfl rfl rfl rfl rfl ?_
      refine dn ?_
      refine ib ?_
      refine rg ?_
      refine pu rfl rfl rfl rfl rfl ?_
      refine pu rfl rfl rfl rfl rfl ?_
      refine pu rfl rfl rfl rfl rfl ?_
      refine dn ?_
      exact lb ih2 ⟨s3, _, rfl, (ue (ue (ue rfl rfl) rfl) rfl), Kx2⟩
  ·
    refine xt rfl ?_
    refine sgb ?_
    refine sr ?_
    refine pu rfl rfl rfl rfl rfl ?_
    refine pu rfl rfl rfl rfl rfl ?_
    refine dn ?_
    exact re rfl Try.func12 rfl (r_t rfl r_nil) rfl ⟨_, rfl, rfl, z.ky Kx2⟩
noncomputable def impl_hasBytes.f (a0 : (List Int)) (a1 : Int) (a2 : Int) : Option (Bool) :=
  ((impl_within.f a1 (0 : Int) (a0.length : Int)).bind fun r2 => (some (r2 && (decide (a2 ≤ (IntKind.wrap .i64 ((a0.length : Int) - a1)))))))
def impl_hasBytes.Q (w : World) (F : Nat → Prop) (r : Bool) (v : Value) (w' : World) : Prop :=
  v = (.bool r) ∧ Ky [] w w'
set_option maxHeartbeats 4000000 in
set_option maxRecDepth 100000 in
theorem impl_hasBytes.calls (a0 : (List Int)) (a1 : Int) (a2 : Int) (w : World) (F : Nat → Prop) (w0_0 : Value) (h0_0 : (Kd.sl 5 (Kd.int .u8)).rd w [w0_0] a0 F) (r : Bool) (m : impl_hasBytes.f a0 a1 a2 = some r) :
    Calls Try.prog 62 #[w0_0, (.int .i64 a1), (.int .i64 a2)] w fun en w' => ∃ v, en = .returned v ∧ impl_hasBytes.Q w F r v w' := by
  obtain ⟨s0, rfl, kp0, z⟩ := start0 w F
  have A0_0 := z.rd h0_0
  refine calls_of_TM (args := [w0_0, (.int .i64 a1), (.int .i64 a2)]) (R := fun r en w' => ∃ v, en = .returned v ∧ impl_hasBytes.Q s0.w F r v w') Try.func62 Try.ntmps62 rfl rfl m ?_
  unfold impl_hasBytes.f
  refine sr ?_
  refine pu rfl rfl rfl rfl rfl ?_
  refine dn ?_
  refine sr ?_
  refine pu rfl rfl rfl rfl rfl ?_
  refine mv w0_0 rfl rfl rfl rfl rfl rfl ?_
  refine ln A0_0 Try.underlying24 rfl rfl rfl rfl rfl rfl ?_
  refine cl rfl rfl rfl rfl rfl Try.func34 rfl rfl rfl (fun r2 m2 => impl_within.calls a1 (0 : Int) (a0.length : Int) s0.w (fun b => memb [] (s0.g b) = true)  r2 m2) ?_
  rintro r2 _ w2 m2 ⟨rfl, ky2⟩
  obtain ⟨s3, rfl, p3, n3⟩ := nwx s0 w2 10 ky2
  refine pu rfl rfl rfl rfl rfl ?_
  refine jy [11, 12, 13, 14, 15, 16, 17, 18] [12] 18 (.bool (r2 && (decide (a2 ≤ (IntKind.wrap .i64 ((a0.length : Int) - a1)))))) rfl (fun Kg4 => ?_) (fun j4 => ?_)
  ·
    rcases Bool.eq_false_or_eq_true r2 with hb4 | hb4
    ·
      refine sbT hb4 ?_
      refine pu rfl rfl rfl rfl rfl ?_
      refine mv w0_0 rfl rfl rfl rfl rfl rfl ?_
      have K5 := (kp0.st p3 rfl)
      have A6 := (A0_0.kp K5)
      refine ln A6 Try.underlying24 rfl rfl rfl rfl rfl rfl ?_
      refine pu rfl rfl rfl rfl rfl ?_
      refine pu rfl rfl rfl rfl rfl ?_
      refine pu rfl rfl rfl rfl rfl ?_
      refine pu rfl rfl rfl rfl rfl ?_
      exact Kg4 _ (Ag.put ((Ag.put ((Ag.put ((Ag.put ((Ag.put ((Ag.put ((Ag.put (Ag.base rfl) rfl)) rfl)) rfl)) rfl)) rfl)) rfl)) rfl) (by rw [hb4]; rfl)
    ·
      refine sbT hb4 ?_
      refine uw rfl rfl rfl rfl ?_
      refine uw rfl rfl rfl rfl ?_
      refine uw rfl rfl rfl rfl ?_
      refine uw rfl rfl rfl rfl ?_
      refine uw rfl rfl rfl rfl ?_
      refine uw rfl rfl rfl rfl ?_
      refine pu rfl rfl rfl rfl rfl ?_
      exact Kg4 _ (Ag.put ((Ag.put ((Ag.put ((Ag.put ((Ag.put ((Ag.put ((Ag.put (Ag.base rfl) rfl)) rfl)) rfl)) rfl)) rfl)) rfl)) rfl) (by rw [hb4]; rfl)
  refine pu rfl rfl rfl rfl rfl ?_
  refine dn ?_
  have K7 := (kp0.st p3 rfl)
  exact re rfl Try.func62 rfl (r_t rfl r_nil) rfl ⟨_, rfl, rfl, z.ky K7⟩
noncomputable def impl_GetNum.b0 (a0 : (List Int)) (a1 : Int) (x13 : Int × Int) : Option ((Int × Int) ⊕ (Int × Bool)) :=
  (if (decide (x13.2 ≥ (0 : Int))) = true then (if 0 ≤ (IntKind.wrap .i64 (a1 + x13.2)) ∧ (IntKind.wrap .i64 (a1 + x13.2)) < (a0.length : Int) then (some (.inl ((ior .u64 (ishl .u64 x13.1 (8 : Int)) (IntKind.wrap .u64 (at_ a0 (IntKind.wrap .i64 (a1 + x13.2))))), (IntKind.wrap .i64 (x13.2 - (1 : Int)))))) else none) else ((if (decide (x13.1 ≥ (9223372036854775808 : Int))) = true then (some ((0 : Int), false)) else (some ((IntKind.wrap .i64 x13.1), true))).bind fun o => some (.inr o)))
noncomputable def impl_GetNum.f (a0 : (List Int)) (a1 : Int) (a2 : Int) : Option (Int × Bool) :=
  ((impl_within.f a2 (1 : Int) (8 : Int)).bind fun r2 => ((if (!r2) = true then (some true) else ((impl_hasBytes.f a0 a1 a2).bind fun r8 => (some (!r8)))).bind fun y4 => (if y4 = true then (some ((0 : Int), false)) else (iter (impl_GetNum.b0 a0 a1) ((0 : Int), (IntKind.wrap .i64 (a2 - (1 : Int))))))))
def impl_GetNum.Q (w : World) (F : Nat → Prop) (r : Int × Bool) (v : Value) (w' : World) : Prop :=
  v = .tuple #[(.int .i64 r.1), (.bool r.2)] ∧ Ky [] w w'
set_option maxHeartbeats 4000000 in
set_option maxRecDepth 100000 in
theorem impl_GetNum.calls (a0 : (List Int)) (a1 : Int) (a2 : Int) (w : World) (F : Nat → Prop) (w0_0 : Value) (h0_0 : (Kd.sl 5 (Kd.int .u8)).rd w [w0_0] a0 F) (r : Int × Bool) (m : impl_GetNum.f a0 a1 a2 = some r) :
    Calls Try.prog 44 #[w0_0, (.int .i64 a1), (.int .i64 a2)] w fun en w' => ∃ v, en = .returned v ∧ impl_GetNum.Q w F r v w' := by
  obtain ⟨s0, rfl, kp0, z⟩ := start0 w F
  have A0_0 := z.rd h0_0
  refine calls_of_TM (args := [w0_0, (.int .i64 a1), (.int .i64 a2)]) (R := fun r en w' => ∃ v, en = .returned v ∧ impl_GetNum.Q s0.w F r v w') Try.func44 Try.ntmps44 rfl rfl m ?_
  unfold impl_GetNum.f
  refine sr ?_
  refine pu rfl rfl rfl rfl rfl ?_
  refine pu rfl rfl rfl rfl rfl ?_
  refine dn ?_
  refine sq ?_
  refine sr ?_
  refine pu rfl rfl rfl rfl rfl ?_
  refine cl rfl rfl rfl rfl rfl Try.func34 rfl rfl rfl (fun r2 m2 => impl_within.calls a2 (1 : Int) (8 : Int) s0.w (fun b => memb [] (s0.g b) = true)  r2 m2) ?_
  rintro r2 _ w2 m2 ⟨rfl, ky2⟩
  obtain ⟨s3, rfl, p3, n3⟩ := nwx s0 w2 10 ky2
  refine pu rfl rfl rfl rfl rfl ?_
  refine pu rfl rfl rfl rfl rfl ?_
  refine ji [] (fun (y4 : Bool) (e : Env) (w : World) => ∃ (s : St) (e0 : Env), w = s.w ∧ e = upd (upd (upd (upd e0 0 w0_0) 1 (.int .i64 a1)) 2 (.int .i64 a2)) 19 (.bool y4) ∧ Kp s0 s) (fun Gj4 Kj4 => ?_) ?_
  ·
    rcases Bool.eq_false_or_eq_true (!r2) with hb4 | hb4
    ·
      refine sbT hb4 ?_
      rw [if_pos hb4]
      refine uw rfl rfl rfl rfl ?_
      refine uw rfl rfl rfl rfl ?_
      refine uw rfl rfl rfl rfl ?_
      refine uw rfl rfl rfl rfl ?_
      refine uw rfl rfl rfl rfl ?_
      refine pu rfl rfl rfl rfl rfl ?_
      have K5 := (kp0.st p3 rfl)
      exact Kj4 _ _ _ ⟨s3, _, rfl, (ue (ue (ue (ue rfl rfl) rfl) rfl) rfl), K5⟩
    ·
      refine sbT hb4 ?_
      rw [if_neg (by rw [hb4]; decide)]
      refine mv w0_0 rfl rfl rfl rfl rfl rfl ?_
      refine pu rfl rfl rfl rfl rfl ?_
      refine pu rfl rfl rfl rfl rfl ?_
      have K6 := (kp0.st p3 rfl)
      have A7 := (A0_0.kp K6)
      refine cl rfl rfl rfl rfl rfl Try.func62 rfl rfl rfl (fun r8 m8 => impl_hasBytes.calls a0 a1 a2 s3.w (fun b => memb [0] (s3.g b) = true) w0_0 A7 r8 m8) ?_
      rintro r8 _ w8 m8 ⟨rfl, ky8⟩
      obtain ⟨s9, rfl, p9, n9⟩ := nwx s3 w8 11 ky8
      refine pu rfl rfl rfl rfl rfl ?_
      refine pu rfl rfl rfl rfl rfl ?_
      have K10 := (K6.st p9 rfl)
      exact Kj4 _ _ _ ⟨s9, _, rfl, (ue (ue (ue (ue rfl rfl) rfl) rfl) rfl), K10⟩
  rintro y4 _ _ ⟨s11, _, rfl, rfl, Ky4⟩
  refine dn ?_
  refine cd rfl (fun h12 => ?_) (fun h12 => ?_)
  ·
    refine sr ?_
    refine pu rfl rfl rfl rfl rfl ?_
    refine pu rfl rfl rfl rfl rfl ?_
    refine dn ?_
    exact re rfl Try.func44 rfl (r_t rfl (r_t rfl r_nil)) rfl ⟨_, rfl, rfl, z.ky Ky4⟩
  ·
    refine sk ?_
    refine sr ?_
    refine pu rfl rfl rfl rfl rfl ?_
    refine dn ?_
    refine sq ?_
    refine sr ?_
    refine pu rfl rfl rfl rfl rfl ?_
    refine pu rfl rfl rfl rfl rfl ?_
    refine pu rfl rfl rfl rfl rfl ?_
    refine dn ?_
    refine bl ?_
    refine lpI (fun (x13 : Int × Int) (e : Env) (w : World) => ∃ (s : St) (e0 : Env), w = s.w ∧ e = upd (upd (upd (upd e0 0 w0_0) 1 (.int .i64 a1)) 8 (.int .u64 x13.1)) 9 (.int .i64 x13.2) ∧ Kp s0 s) ⟨s11, _, rfl, (ue (ue (ue (ue rfl rfl) rfl) rfl) rfl), Ky4⟩ (fun g13 ih13 => ?_)
    rintro x13 _ _ ⟨s14, _, rfl, rfl, Kx13⟩
    unfold impl_GetNum.b0
    refine sq ?_
    refine sr ?_
    refine pu rfl rfl rfl rfl rfl ?_
    refine pu rfl rfl rfl rfl rfl ?_
    refine dn ?_
    refine cd rfl (fun h15 => ?_) (fun h15 => ?_)
    ·
      refine sk ?_
      refine sq ?_
      refine bl ?_
      refine rg ?_
      refine pu rfl rfl rfl rfl rfl ?_
      refine shlK rfl rfl rfl rfl rfl rfl rfl rfl ?_
      refine mv w0_0 rfl rfl rfl rfl rfl rfl ?_
      refine pu rfl rfl rfl rfl rfl ?_
      refine pu rfl rfl rfl rfl rfl ?_
      refine pu rfl rfl rfl rfl rfl ?_
      have A16 := (A0_0.kp Kx13)
      refine ix A16 Try.underlying24 z5 rfl rfl rfl rfl rfl rfl rfl rfl (fun ad17 es17 h0_17 h1_17 he17 ce17 ia17 => ?_)
      obtain rfl := he17
      refine lc0 ce17 Try.underlying5 rfl rfl rfl rfl rfl rfl rfl rfl ?_
      refine cv Try.underlying82 Try.underlying5 rfl rfl rfl rfl rfl rfl ?_
      refine pu rfl rfl rfl rfl rfl ?_
      refine pu rfl rfl rfl rfl rfl ?_
      refine dn ?_
      refine ib ?_
      refine rg ?_
      refine pu rfl rfl rfl rfl rfl ?_
      refine pu rfl rfl rfl rfl rfl ?_
      refine pu rfl rfl rfl rfl rfl ?_
      refine dn ?_
      exact lb ih13 ⟨s14, _, rfl, (ue (ue (ue (ue rfl rfl) rfl) rfl) rfl), Kx13⟩
    ·
      refine xt rfl ?_
      refine sgb ?_
      refine sq ?_
      refine sr ?_
      refine pu rfl rfl rfl rfl rfl ?_
      refine pu rfl rfl rfl rfl rfl ?_
      refine dn ?_
      refine cd rfl (fun h19 => ?_) (fun h19 => ?_)
      ·
        refine sr ?_
        refine pu rfl rfl rfl rfl rfl ?_
        refine pu rfl rfl rfl rfl rfl ?_
        refine dn ?_
        exact re rfl Try.func44 rfl (r_t rfl (r_t rfl r_nil)) rfl ⟨_, rfl, rfl, z.ky Kx13⟩
      ·
        refine sk ?_
        refine sr ?_
        refine pu rfl rfl rfl rfl rfl ?_
        refine cv Try.underlying3 Try.underlying82 rfl rfl rfl rfl rfl rfl ?_
        refine pu rfl rfl rfl rfl rfl ?_
        refine pu rfl rfl rfl rfl rfl ?_
        refine dn ?_
        exact re rfl Try.func44 rfl (r_t rfl (r_t rfl r_nil)) rfl ⟨_, rfl, rfl, z.ky Kx13⟩
noncomputable def impl_FrameAt.f (a0 : (List Int)) (a1 : Int) : Option (Int × (List Int) × Int × Int) :=
  ((if (decide ((a0.length : Int) > (65536 : Int))) = true then (some true) else ((impl_hasBytes.f a0 a1 (3 : Int)).bind fun r3 => (some (!r3)))).bind fun y2 => (if y2 = true then (some ((0 : Int), ([] : (List Int)), (0 : Int), (1 : Int))) else (if 0 ≤ a1 ∧ a1 < (a0.length : Int) then ((impl_GetNum.f a0 (IntKind.wrap .i64 (a1 + (1 : Int))) (2 : Int)).bind fun r11 => (if (((IntKind.wrap .i64 (at_ a0 a1)) == (0 : Int)) || (decide (r11.1 > (1000 : Int)))) = true then (some ((0 : Int), ([] : (List Int)), (0 : Int), (2 : Int))) else ((impl_GetNum.f a0 (IntKind.wrap .i64 ((IntKind.wrap .i64 (a1 + (3 : Int))) + r11.1)) (4 : Int)).bind fun r18 => (if (!r18.2) = true then (some ((0 : Int), ([] : (List Int)), (0 : Int), (1 : Int))) else (if 0 ≤ a1 ∧ a1 ≤ (IntKind.wrap .i64 ((IntKind.wrap .i64 (a1 + (3 : Int))) + r11.1)) ∧ (IntKind.wrap .i64 ((IntKind.wrap .i64 (a1 + (3 : Int))) + r11.1)) ≤ (a0.length : Int) then ((impl_Crc.f ((a0.take ((IntKind.wrap .i64 ((IntKind.wrap .i64 (a1 + (3 : Int))) + r11.1))).toNat).drop (a1).toNat)).bind fun r26 => (if (r18.1 != r26) = true then (some ((0 : Int), ([] : (List Int)), (0 : Int), (3 : Int))) else (if 0 ≤ (IntKind.wrap .i64 (a1 + (3 : Int))) ∧ (IntKind.wrap .i64 (a1 + (3 : Int))) ≤ (IntKind.wrap .i64 ((IntKind.wrap .i64 (a1 + (3 : Int))) + r11.1)) ∧ (IntKind.wrap .i64 ((IntKind.wrap .i64 (a1 + (3 : Int))) + r11.1)) ≤ (a0.length : Int) then ((slices_Clone_byte_byte.f ((a0.take ((IntKind.wrap .i64 ((IntKind.wrap .i64 (a1 + (3 : Int))) + r11.1))).toNat).drop ((IntKind.wrap .i64 (a1 + (3 : Int)))).toNat)).bind fun r34 => (some ((IntKind.wrap .i64 (at_ a0 a1)), r34, (IntKind.wrap .i64 ((IntKind.wrap .i64 ((IntKind.wrap .i64 (a1 + (3 : Int))) + r11.1)) + (4 : Int))), (0 : Int)))) else none))) else none))))) else none)))
def impl_FrameAt.Q (w : World) (F : Nat → Prop) (r : Int × (List Int) × Int × Int) (v : Value) (w' : World) : Prop :=
  ∃ (v0 : Value), v = .tuple #[(.int .i64 r.1), v0, (.int .i64 r.2.2.1), (.int .i64 r.2.2.2)] ∧ FO (Kd.sl 5 (Kd.int .u8)) w w' [v0] r.2.1 ∧ Ky [] w w'
set_option maxHeartbeats 4000000 in
set_option maxRecDepth 100000 in
theorem impl_FrameAt.calls (a0 : (List Int)) (a1 : Int) (w : World) (F : Nat → Prop) (w0_0 : Value) (h0_0 : (Kd.sl 5 (Kd.int .u8)).rd w [w0_0] a0 F) (r : Int × (List Int) × Int × Int) (m : impl_FrameAt.f a0 a1 = some r) :
    Calls Try.prog 43 #[w0_0, (.int .i64 a1)] w fun en w' => ∃ v, en = .returned v ∧ impl_FrameAt.Q w F r v w' := by
  obtain ⟨s0, rfl, kp0, z⟩ := start0 w F
  have A0_0 := z.rd h0_0
  refine calls_of_TM (args := [w0_0, (.int .i64 a1)]) (R := fun r en w' => ∃ v, en = .returned v ∧ impl_FrameAt.Q s0.w F r v w') Try.func43 Try.ntmps43 rfl rfl m ?_
  unfold impl_FrameAt.f
  refine sr ?_
  refine pu rfl rfl rfl rfl rfl ?_
  refine pu rfl rfl rfl rfl rfl ?_
  refine pu rfl rfl rfl rfl rfl ?_
  refine pu rfl rfl rfl rfl rfl ?_
  refine dn ?_
  refine sq ?_
  refine sr ?_
  refine mv w0_0 rfl rfl rfl rfl rfl rfl ?_
  refine ln A0_0 Try.underlying24 rfl rfl rfl rfl rfl rfl ?_
  refine pu rfl rfl rfl rfl rfl ?_
  refine pu rfl rfl rfl rfl rfl ?_
  refine ji [] (fun (y2 : Bool) (e : Env) (w : World) => ∃ (s : St) (e0 : Env), w = s.w ∧ e = upd (upd (upd e0 0 w0_0) 1 (.int .i64 a1)) 22 (.bool y2) ∧ Kp s0 s) (fun Gj2 Kj2 => ?_) ?_
  ·
    rcases Bool.eq_false_or_eq_true (decide ((a0.length : Int) > (65536 : Int))) with hb2 | hb2
    ·
      refine sbT hb2 ?_
      rw [if_pos hb2]
      refine uw rfl rfl rfl rfl ?_
      refine uw rfl rfl rfl rfl ?_
      refine uw rfl rfl rfl rfl ?_
      refine uw rfl rfl rfl rfl ?_
      refine pu rfl rfl rfl rfl rfl ?_
      exact Kj2 _ _ _ ⟨s0, _, rfl, (ue (ue (ue rfl rfl) rfl) rfl), kp0⟩
    ·
      refine sbT hb2 ?_
      rw [if_neg (by rw [hb2]; decide)]
      refine mv w0_0 rfl rfl rfl rfl rfl rfl ?_
      refine pu rfl rfl rfl rfl rfl ?_
      refine cl rfl rfl rfl rfl rfl Try.func62 rfl rfl rfl (fun r3 m3 => impl_hasBytes.calls a0 a1 (3 : Int) s0.w (fun b => memb [0] (s0.g b) = true) w0_0 A0_0 r3 m3) ?_
      rintro r3 _ w3 m3 ⟨rfl, ky3⟩
      obtain ⟨s4, rfl, p4, n4⟩ := nwx s0 w3 10 ky3
      refine pu rfl rfl rfl rfl rfl ?_
      refine pu rfl rfl rfl rfl rfl ?_
      have K5 := (kp0.st p4 rfl)
      exact Kj2 _ _ _ ⟨s4, _, rfl, (ue (ue (ue rfl rfl) rfl) rfl), K5⟩
  rintro y2 _ _ ⟨s6, _, rfl, rfl, Ky2⟩
  refine dn ?_
  refine cd rfl (fun h7 => ?_) (fun h7 => ?_)
  ·
    refine sr ?_
    refine pu rfl rfl rfl rfl rfl ?_
    refine pu rfl rfl rfl rfl rfl ?_
    refine pu rfl rfl rfl rfl rfl ?_
    refine pu rfl rfl rfl rfl rfl ?_
    refine dn ?_
    exact re rfl Try.func43 rfl (r_t rfl (r_t rfl (r_t rfl (r_t rfl r_nil)))) rfl ⟨_, rfl, (.slice none 0 0), rfl, (ow_nil 5 (Kd.int .u8) s6 10).fo Ky2 rfl, z.ky Ky2⟩
  ·
    refine sk ?_
    refine sr ?_
    refine mv w0_0 rfl rfl rfl rfl rfl rfl ?_
    refine pu rfl rfl rfl rfl rfl ?_
    have A8 := (A0_0.kp Ky2)
    refine ix A8 Try.underlying24 z5 rfl rfl rfl rfl rfl rfl rfl rfl (fun ad9 es9 h0_9 h1_9 he9 ce9 ia9 => ?_)
    obtain rfl := he9
    refine lc0 ce9 Try.underlying5 rfl rfl rfl rfl rfl rfl rfl rfl ?_
    refine cv Try.underlying3 Try.underlying5 rfl rfl rfl rfl rfl rfl ?_
    refine pu rfl rfl rfl rfl rfl ?_
    refine dn ?_
    refine sr ?_
    refine mv w0_0 rfl rfl rfl rfl rfl rfl ?_
    refine pu rfl rfl rfl rfl rfl ?_
    refine pu rfl rfl rfl rfl rfl ?_
    refine cl rfl rfl rfl rfl rfl Try.func44 rfl rfl rfl (fun r11 m11 => impl_GetNum.calls a0 (IntKind.wrap .i64 (a1 + (1 : Int))) (2 : Int) s6.w (fun b => memb [0] (s6.g b) = true) w0_0 A8 r11 m11) ?_
    rintro r11 _ w11 m11 ⟨rfl, ky11⟩
    obtain ⟨s12, rfl, p12, n12⟩ := nwx s6 w11 11 ky11
    refine pu rfl rfl rfl rfl rfl ?_
    refine pu (v := (.int .i64 r11.1)) rfl rfl rfl rfl rfl ?_
    refine pu (v := (.bool r11.2)) rfl rfl rfl rfl rfl ?_
    refine pu rfl rfl rfl rfl rfl ?_
    refine pu rfl rfl rfl rfl rfl ?_
    refine dn ?_
    refine sq ?_
    refine sr ?_
    refine pu rfl rfl rfl rfl rfl ?_
    refine pu rfl rfl rfl rfl rfl ?_
    refine pu rfl rfl rfl rfl rfl ?_
    refine jy [37, 38, 39, 40] [] 40 (.bool (((IntKind.wrap .i64 (at_ a0 a1)) == (0 : Int)) || (decide (r11.1 > (1000 : Int))))) rfl (fun Kg13 => ?_) (fun j13 => ?_)
    ·
      rcases Bool.eq_false_or_eq_true ((IntKind.wrap .i64 (at_ a0 a1)) == (0 : Int)) with hb13 | hb13
      ·
        refine sbT hb13 ?_
        refine uw rfl rfl rfl rfl ?_
        refine uw rfl rfl rfl rfl ?_
        refine pu rfl rfl rfl rfl rfl ?_
        exact Kg13 _ (Ag.put ((Ag.put ((Ag.put (Ag.base rfl) rfl)) rfl)) rfl) (by rw [hb13]; rfl)
      ·
        refine sbT hb13 ?_
        refine pu rfl rfl rfl rfl rfl ?_
        refine pu rfl rfl rfl rfl rfl ?_
        refine pu rfl rfl rfl rfl rfl ?_
        exact Kg13 _ (Ag.put ((Ag.put ((Ag.put (Ag.base rfl) rfl)) rfl)) rfl) (by rw [hb13]; rfl)
    refine dn ?_
    refine cd rfl (fun h14 => ?_) (fun h14 => ?_)
    ·
      refine sr ?_
      refine pu rfl rfl rfl rfl rfl ?_
      refine pu rfl rfl rfl rfl rfl ?_
      refine pu rfl rfl rfl rfl rfl ?_
      refine pu rfl rfl rfl rfl rfl ?_
      refine dn ?_
      have K15 := (Ky2.st p12 rfl)
      exact re rfl Try.func43 rfl (r_t rfl (r_t rfl (r_t rfl (r_t rfl r_nil)))) rfl ⟨_, rfl, (.slice none 0 0), rfl, (ow_nil 5 (Kd.int .u8) s12 10).fo K15 rfl, z.ky K15⟩
    ·
      refine sk ?_
      refine sr ?_
      refine pu rfl rfl rfl rfl rfl ?_
      refine pu rfl rfl rfl rfl rfl ?_
      refine pu rfl rfl rfl rfl rfl ?_
      refine pu rfl rfl rfl rfl rfl ?_
      refine pu rfl rfl rfl rfl rfl ?_
      refine dn ?_
      refine sr ?_
      refine mv w0_0 rfl rfl rfl rfl rfl rfl ?_
      refine pu rfl rfl rfl rfl rfl ?_
      have K16 := (Ky2.st p12 rfl)
      have A17 := (A0_0.kp K16)
      refine cl rfl rfl rfl rfl rfl Try.func44 rfl rfl rfl (fun r18 m18 => impl_GetNum.calls a0 (IntKind.wrap .i64 ((IntKind.wrap .i64 (a1 + (3 : Int))) + r11.1)) (4 : Int) s12.w (fun b => memb [0] (s12.g b) = true) w0_0 A17 r18 m18) ?_
      rintro r18 _ w18 m18 ⟨rfl, ky18⟩
      obtain ⟨s19, rfl, p19, n19⟩ := nwx s12 w18 12 ky18
      refine pu rfl rfl rfl rfl rfl ?_
      refine pu (v := (.int .i64 r18.1)) rfl rfl rfl rfl rfl ?_
      refine pu (v := (.bool r18.2)) rfl rfl rfl rfl rfl ?_
      refine pu rfl rfl rfl rfl rfl ?_
      refine pu rfl rfl rfl rfl rfl ?_
      refine dn ?_
      refine sq ?_
      refine bl ?_
      refine sr ?_
      refine pu rfl rfl rfl rfl rfl ?_
      refine pu rfl rfl rfl rfl rfl ?_
      refine pu rfl rfl rfl rfl rfl ?_
      refine dn ?_
      refine cd rfl (fun h20 => ?_) (fun h20 => ?_)
      ·
        refine sr ?_
        refine pu rfl rfl rfl rfl rfl ?_
        refine pu rfl rfl rfl rfl rfl ?_
        refine pu rfl rfl rfl rfl rfl ?_
        refine pu rfl rfl rfl rfl rfl ?_
        refine dn ?_
        have K21 := (K16.st p19 rfl)
        exact re rfl Try.func43 rfl (r_t rfl (r_t rfl (r_t rfl (r_t rfl r_nil)))) rfl ⟨_, rfl, (.slice none 0 0), rfl, (ow_nil 5 (Kd.int .u8) s19 10).fo K21 rfl, z.ky K21⟩
      ·
        refine sr ?_
        refine pu rfl rfl rfl rfl rfl ?_
        refine mv w0_0 rfl rfl rfl rfl rfl rfl ?_
        refine pu rfl rfl rfl rfl rfl ?_
        refine pu rfl rfl rfl rfl rfl ?_
        have K22 := (K16.st p19 rfl)
        have A23 := (A0_0.kp K22)
        refine slb A23 Try.underlying24 z5 rfl rfl rfl rfl rfl rfl rfl rfl (fun v24 A24 => ?_)
        refine cl rfl rfl rfl rfl rfl Try.func60 rfl rfl rfl (fun r26 m26 => impl_Crc.calls ((a0.take ((IntKind.wrap .i64 ((IntKind.wrap .i64 (a1 + (3 : Int))) + r11.1))).toNat).drop (a1).toNat) s19.w (fun b => memb [0] (s19.g b) = true) v24 A24 r26 m26) ?_
        rintro r26 _ w26 m26 ⟨rfl, ky26⟩
        obtain ⟨s27, rfl, p27, n27⟩ := nwx s19 w26 13 ky26
        refine pu rfl rfl rfl rfl rfl ?_
        refine pu rfl rfl rfl rfl rfl ?_
        refine dn ?_
        refine cd rfl (fun h28 => ?_) (fun h28 => ?_)
        ·
          refine sr ?_
          refine pu rfl rfl rfl rfl rfl ?_
          refine pu rfl rfl rfl rfl rfl ?_
          refine pu rfl rfl rfl rfl rfl ?_
          refine pu rfl rfl rfl rfl rfl ?_
          refine dn ?_
          have K29 := (K22.st p27 rfl)
          exact re rfl Try.func43 rfl (r_t rfl (r_t rfl (r_t rfl (r_t rfl r_nil)))) rfl ⟨_, rfl, (.slice none 0 0), rfl, (ow_nil 5 (Kd.int .u8) s27 10).fo K29 rfl, z.ky K29⟩
        ·
          refine sk ?_
          refine ib ?_
          refine sr ?_
          refine pu rfl rfl rfl rfl rfl ?_
          refine mv w0_0 rfl rfl rfl rfl rfl rfl ?_
          refine pu rfl rfl rfl rfl rfl ?_
          refine pu rfl rfl rfl rfl rfl ?_
          refine pu rfl rfl rfl rfl rfl ?_
          have K30 := (K22.st p27 rfl)
          have A31 := (A0_0.kp K30)
          refine slb A31 Try.underlying24 z5 rfl rfl rfl rfl rfl rfl rfl rfl (fun v32 A32 => ?_)
          refine cl rfl rfl rfl rfl rfl Try.func59 rfl rfl rfl (fun r34 m34 => slices_Clone_byte_byte.calls ((a0.take ((IntKind.wrap .i64 ((IntKind.wrap .i64 (a1 + (3 : Int))) + r11.1))).toNat).drop ((IntKind.wrap .i64 (a1 + (3 : Int)))).toNat) s27.w (fun b => memb [0] (s27.g b) = true) v32 A32 r34 m34) ?_
          rintro r34 v34_0 w34 m34 ⟨f34_0, ky34⟩
          obtain ⟨s35, rfl, p35, n35⟩ := nwx s27 w34 14 ky34
          have A34_0 := f34_0.c n35
          refine pu rfl rfl rfl rfl rfl ?_
          refine pu rfl rfl rfl rfl rfl ?_
          refine pu rfl rfl rfl rfl rfl ?_
          refine asg v34_0 rfl rfl rfl rfl rfl rfl ?_
          refine pu rfl rfl rfl rfl rfl ?_
          refine pu rfl rfl rfl rfl rfl ?_
          refine dn ?_
          have K37 := (K30.st p35 rfl)
          exact re rfl Try.func43 rfl (r_t rfl (r_t rfl (r_t rfl (r_t rfl r_nil)))) rfl ⟨_, rfl, v34_0, rfl, A34_0.fo K37 rfl, z.ky K37⟩
noncomputable def bytes_Equal.f (a0 : (List Int)) (a1 : (List Int)) : Option (Bool) :=
  (some ((str a0).toList == (str a1).toList))
def bytes_Equal.Q (w : World) (F : Nat → Prop) (r : Bool) (v : Value) (w' : World) : Prop :=
  v = (.bool r) ∧ Ky [] w w'
set_option maxHeartbeats 4000000 in
set_option maxRecDepth 100000 in
theorem bytes_Equal.calls (a0 : (List Int)) (a1 : (List Int)) (w : World) (F : Nat → Prop) (w0_0 : Value) (w1_0 : Value) (h0_0 : (Kd.sl 5 (Kd.int .u8)).rd w [w0_0] a0 F) (h1_0 : (Kd.sl 5 (Kd.int .u8)).rd w [w1_0] a1 F) (r : Bool) (m : bytes_Equal.f a0 a1 = some r) :
    Calls Try.prog 45 #[w0_0, w1_0] w fun en w' => ∃ v, en = .returned v ∧ bytes_Equal.Q w F r v w' := by
  obtain ⟨s0, rfl, kp0, z⟩ := start0 w F
  have A0_0 := z.rd h0_0
  have A1_0 := z.rd h1_0
  refine calls_of_TM (args := [w0_0, w1_0]) (R := fun r en w' => ∃ v, en = .returned v ∧ bytes_Equal.Q s0.w F r v w') Try.func45 Try.ntmps45 rfl rfl m ?_
  unfold bytes_Equal.f
  refine sr ?_
  refine pu rfl rfl rfl rfl rfl ?_
  refine dn ?_
  refine sr ?_
  refine mv w0_0 rfl rfl rfl rfl rfl rfl ?_
  refine b2s A0_0 Try.underlying24 Try.underlying9 Try.underlying5 rfl rfl rfl rfl rfl rfl ?_
  refine mv w1_0 rfl rfl rfl rfl rfl rfl ?_
  refine b2s A1_0 Try.underlying24 Try.underlying9 Try.underlying5 rfl rfl rfl rfl rfl rfl ?_
  refine pu rfl rfl rfl rfl rfl ?_
  refine pu rfl rfl rfl rfl rfl ?_
  refine dn ?_
  exact re rfl Try.func45 rfl (r_t rfl r_nil) rfl ⟨_, rfl, rfl, z.ky kp0⟩
noncomputable def laws_toByteS.b0 (a0 : (List Int)) (x4 : (List Int) × Int) : Option (((List Int) × Int) ⊕ (List Int)) :=
  (if (decide (x4.2 < (a0.length : Int))) = true then (if 0 ≤ x4.2 ∧ x4.2 < (a0.length : Int) then (if 0 ≤ x4.2 ∧ x4.2 < (x4.1.length : Int) then (some (.inl ((x4.1.set (x4.2).toNat (at_ a0 x4.2)), (IntKind.wrap .i64 (x4.2 + (1 : Int)))))) else none) else none) else ((some x4.1).bind fun o => some (.inr o)))
noncomputable def laws_toByteS.f (a0 : (List Int)) : Option ((List Int)) :=
  (if 0 ≤ (a0.length : Int) ∧ (a0.length : Int) ≤ (Lim : Int) then (iter (laws_toByteS.b0 a0) ((List.replicate ((a0.length : Int)).toNat (0 : Int)), (0 : Int))) else none)
def laws_toByteS.Q (w : World) (F : Nat → Prop) (r : (List Int)) (v : Value) (w' : World) : Prop :=
  FO (Kd.sl 5 (Kd.int .u8)) w w' [v] r ∧ Ky [] w w'
set_option maxHeartbeats 4000000 in
set_option maxRecDepth 100000 in
theorem laws_toByteS.calls (a0 : (List Int)) (w : World) (F : Nat → Prop) (w0_0 : Value) (h0_0 : (Kd.sl 5 (Kd.int .u8)).rd w [w0_0] a0 F) (r : (List Int)) (m : laws_toByteS.f a0 = some r) :
    Calls Try.prog 18 #[w0_0] w fun en w' => ∃ v, en = .returned v ∧ laws_toByteS.Q w F r v w' := by
  obtain ⟨s0, rfl, kp0, z⟩ := start0 w F
  have A0_0 := z.rd h0_0
  refine calls_of_TM (args := [w0_0]) (R := fun r en w' => ∃ v, en = .returned v ∧ laws_toByteS.Q s0.w F r v w') Try.func18 Try.ntmps18 rfl rfl m ?_
  unfold laws_toByteS.f
  refine sr ?_
  refine pu rfl rfl rfl rfl rfl ?_
  refine dn ?_
  refine sr ?_
  refine mv w0_0 rfl rfl rfl rfl rfl rfl ?_
  refine ln A0_0 Try.underlying24 rfl rfl rfl rfl rfl rfl ?_
  refine mk (x0 := (0 : Int)) (K := (Kd.int .u8)) 10 sl24 o5 (fun _ => ⟨rfl, rfl⟩) rfl rfl rfl rfl rfl rfl rfl (fun v2 s2 p2 A2 => ?_)
  refine asg v2 rfl rfl rfl rfl rfl rfl ?_
  refine dn ?_
  refine sq ?_
  refine sr ?_
  refine pu rfl rfl rfl rfl rfl ?_
  refine dn ?_
  refine bl ?_
  have K5 := (kp0.st p2 rfl)
  refine lpI (fun (x4 : (List Int) × Int) (e : Env) (w : World) => ∃ (s : St) (e0 : Env), w = s.w ∧ e = upd (upd (upd e0 0 w0_0) 3 v2) 4 (.int .i64 x4.2) ∧ Kp s0 s ∧ OwF (Kd.sl 5 (Kd.int .u8)) s [v2] x4.1 10) ⟨s2, _, rfl, (ue (ue (ue rfl rfl) rfl) rfl), K5, A2⟩ (fun g4 ih4 => ?_)
  rintro x4 _ _ ⟨s6, _, rfl, rfl, Kx4, Ax4_0⟩
  unfold laws_toByteS.b0
  refine sq ?_
  refine sr ?_
  refine pu rfl rfl rfl rfl rfl ?_
  refine mv w0_0 rfl rfl rfl rfl rfl rfl ?_
  have A8 := (A0_0.kp Kx4)
  refine ln A8 Try.underlying24 rfl rfl rfl rfl rfl rfl ?_
  refine pu rfl rfl rfl rfl rfl ?_
  refine dn ?_
  refine cd rfl (fun h9 => ?_) (fun h9 => ?_)
  ·
    refine sk ?_
    refine sq ?_
    refine bl ?_
    refine rg ?_
    refine mv v2 rfl rfl rfl rfl rfl rfl ?_
    refine pu rfl rfl rfl rfl rfl ?_
    refine mv w0_0 rfl rfl rfl rfl rfl rfl ?_
    refine pu rfl rfl rfl rfl rfl ?_
    refine ix A8 Try.underlying24 z5 rfl rfl rfl rfl rfl rfl rfl rfl (fun ad10 es10 h0_10 h1_10 he10 ce10 ia10 => ?_)
    obtain rfl := he10
    refine lc0 ce10 Try.underlying5 rfl rfl rfl rfl rfl rfl rfl rfl ?_
    refine ix Ax4_0.rd Try.underlying24 z5 rfl rfl rfl rfl rfl rfl rfl rfl (fun ad12 es12 h0_12 h1_12 he12 ce12 ia12 => ?_)
    obtain rfl := he12
    refine so (x' := (at_ a0 x4.2)) Ax4_0 ia12 h0_12 h1_12 cs_flat z5 rfl rfl rfl rfl rfl rfl (fun s14 p14 A14 => ?_)
    refine dn ?_
    refine ib ?_
    refine rg ?_
    refine pu rfl rfl rfl rfl rfl ?_
    refine pu rfl rfl rfl rfl rfl ?_
    refine pu rfl rfl rfl rfl rfl ?_
    refine dn ?_
    have K16 := (Kx4.st p14 rfl)
    exact lb ih4 ⟨s14, _, rfl, (ue (ue (ue rfl rfl) rfl) rfl), K16, A14⟩
  ·
    refine xt rfl ?_
    refine sgb ?_
    refine sr ?_
    refine mv v2 rfl rfl rfl rfl rfl rfl ?_
    refine asg v2 rfl rfl rfl rfl rfl rfl ?_
    refine dn ?_
    exact re rfl Try.func18 rfl (r_t rfl r_nil) rfl ⟨_, rfl, Ax4_0.fo Kx4 rfl, z.ky Kx4⟩
noncomputable def spec_GetNum.b0 (a0 : (List Int)) (a1 : Int) (x7 : Int × Int) : Option ((Int × Int) ⊕ (Int × Bool)) :=
  (if (decide (x7.2 ≥ (0 : Int))) = true then (if 0 ≤ (IntKind.wrap .i64 (a1 + x7.2)) ∧ (IntKind.wrap .i64 (a1 + x7.2)) < (a0.length : Int) then (if ((x7.2 == (7 : Int)) && (decide ((IntKind.wrap .i64 (at_ a0 (IntKind.wrap .i64 (a1 + x7.2)))) > (127 : Int)))) = true then (some (.inr ((0 : Int), false))) else (some (.inl ((IntKind.wrap .i64 ((IntKind.wrap .i64 (x7.1 * (256 : Int))) + (IntKind.wrap .i64 (at_ a0 (IntKind.wrap .i64 (a1 + x7.2)))))), (IntKind.wrap .i64 (x7.2 - (1 : Int))))))) else none) else ((some (x7.1, true)).bind fun o => some (.inr o)))
noncomputable def spec_GetNum.f (a0 : (List Int)) (a1 : Int) (a2 : Int) : Option (Int × Bool) :=
  (if (((((decide (a2 < (1 : Int))) || (decide (a2 > (8 : Int)))) || (decide (a1 < (0 : Int)))) || (decide (a1 > (a0.length : Int)))) || (decide (a2 > (IntKind.wrap .i64 ((a0.length : Int) - a1))))) = true then (some ((0 : Int), false)) else (iter (spec_GetNum.b0 a0 a1) ((0 : Int), (IntKind.wrap .i64 (a2 - (1 : Int))))))
def spec_GetNum.Q (w : World) (F : Nat → Prop) (r : Int × Bool) (v : Value) (w' : World) : Prop :=
  v = .tuple #[(.int .i64 r.1), (.bool r.2)] ∧ Ky [] w w'
set_option maxHeartbeats 4000000 in
set_option maxRecDepth 100000 in
theorem spec_GetNum.calls (a0 : (List Int)) (a1 : Int) (a2 : Int) (w : World) (F : Nat → Prop) (w0_0 : Value) (h0_0 : (Kd.sl 5 (Kd.int .u8)).rd w [w0_0] a0 F) (r : Int × Bool) (m : spec_GetNum.f a0 a1 a2 = some r) :
    Calls Try.prog 46 #[w0_0, (.int .i64 a1), (.int .i64 a2)] w fun en w' => ∃ v, en = .returned v ∧ spec_GetNum.Q w F r v w' := by
  obtain ⟨s0, rfl, kp0, z⟩ := start0 w F
  have A0_0 := z.rd h0_0
  refine calls_of_TM (args := [w0_0, (.int .i64 a1), (.int .i64 a2)]) (R := fun r en w' => ∃ v, en = .returned v ∧ spec_GetNum.Q s0.w F r v w') Try.func46 Try.ntmps46 rfl rfl m ?_
  unfold spec_GetNum.f
  refine sr ?_
  refine pu rfl rfl rfl rfl rfl ?_
  refine pu rfl rfl rfl rfl rfl ?_
  refine dn ?_
  refine sq ?_
  refine sr ?_
  refine pu rfl rfl rfl rfl rfl ?_
  refine pu rfl rfl rfl rfl rfl ?_
  refine pu rfl rfl rfl rfl rfl ?_
  refine jy [13, 14, 15, 16] [6, 7, 8, 9, 10, 11, 12, 13, 14, 15, 16, 17, 18, 19, 20, 21, 22, 23] 16 (.bool ((decide (a2 < (1 : Int))) || (decide (a2 > (8 : Int))))) rfl (fun Kg2 => ?_) (fun j2 => ?_)
  ·
    rcases Bool.eq_false_or_eq_true (decide (a2 < (1 : Int))) with hb2 | hb2
    ·
      refine sbT hb2 ?_
      refine uw rfl rfl rfl rfl ?_
      refine uw rfl rfl rfl rfl ?_
      refine pu rfl rfl rfl rfl rfl ?_
      exact Kg2 _ (Ag.put ((Ag.put ((Ag.put (Ag.base rfl) rfl)) rfl)) rfl) (by rw [hb2]; rfl)
    ·
      refine sbT hb2 ?_
      refine pu rfl rfl rfl rfl rfl ?_
      refine pu rfl rfl rfl rfl rfl ?_
      refine pu rfl rfl rfl rfl rfl ?_
      exact Kg2 _ (Ag.put ((Ag.put ((Ag.put (Ag.base rfl) rfl)) rfl)) rfl) (by rw [hb2]; rfl)
  refine pu rfl rfl rfl rfl rfl ?_
  refine jy [17, 18, 19, 20] [10, 11, 12, 13, 14, 15, 16, 17, 18, 19, 20, 21, 22, 23] 20 (.bool (((decide (a2 < (1 : Int))) || (decide (a2 > (8 : Int)))) || (decide (a1 < (0 : Int))))) rfl (fun Kg3 => ?_) (fun j3 => ?_)
  ·
    rcases Bool.eq_false_or_eq_true ((decide (a2 < (1 : Int))) || (decide (a2 > (8 : Int)))) with hb3 | hb3
    ·
      refine sbT hb3 ?_
      refine uw rfl rfl rfl rfl ?_
      refine uw rfl rfl rfl rfl ?_
      refine pu rfl rfl rfl rfl rfl ?_
      exact Kg3 _ (Ag.put ((Ag.put ((Ag.put (Ag.base rfl) rfl)) rfl)) rfl) (by rw [hb3]; rfl)
    ·
      refine sbT hb3 ?_
      refine pu rfl rfl rfl rfl rfl ?_
      refine pu rfl rfl rfl rfl rfl ?_
      refine pu rfl rfl rfl rfl rfl ?_
      exact Kg3 _ (Ag.put ((Ag.put ((Ag.put (Ag.base rfl) rfl)) rfl)) rfl) (by rw [hb3]; rfl)
  refine pu rfl rfl rfl rfl rfl ?_
  refine jy [21, 22, 23, 24, 25, 26] [16, 17, 18, 19, 20, 21, 22, 23] 26 (.bool ((((decide (a2 < (1 : Int))) || (decide (a2 > (8 : Int)))) || (decide (a1 < (0 : Int)))) || (decide (a1 > (a0.length : Int))))) rfl (fun Kg4 => ?_) (fun j4 => ?_)
  ·
    rcases Bool.eq_false_or_eq_true (((decide (a2 < (1 : Int))) || (decide (a2 > (8 : Int)))) || (decide (a1 < (0 : Int)))) with hb4 | hb4
    ·
      refine sbT hb4 ?_
      refine uw rfl rfl rfl rfl ?_
      refine uw rfl rfl rfl rfl ?_
      refine uw rfl rfl rfl rfl ?_
      refine uw rfl rfl rfl rfl ?_
      refine pu rfl rfl rfl rfl rfl ?_
      exact Kg4 _ (Ag.put ((Ag.put ((Ag.put ((Ag.put ((Ag.put (Ag.base rfl) rfl)) rfl)) rfl)) rfl)) rfl) (by rw [hb4]; rfl)
    ·
      refine sbT hb4 ?_
      refine pu rfl rfl rfl rfl rfl ?_
      refine mv w0_0 rfl rfl rfl rfl rfl rfl ?_
      refine ln A0_0 Try.underlying24 rfl rfl rfl rfl rfl rfl ?_
      refine pu rfl rfl rfl rfl rfl ?_
      refine pu rfl rfl rfl rfl rfl ?_
      exact Kg4 _ (Ag.put ((Ag.put ((Ag.put ((Ag.put ((Ag.put (Ag.base rfl) rfl)) rfl)) rfl)) rfl)) rfl) (by rw [hb4]; rfl)
  refine pu rfl rfl rfl rfl rfl ?_
  refine jy [27, 28, 29, 30, 31, 32, 33, 34] [] 34 (.bool (((((decide (a2 < (1 : Int))) || (decide (a2 > (8 : Int)))) || (decide (a1 < (0 : Int)))) || (decide (a1 > (a0.length : Int)))) || (decide (a2 > (IntKind.wrap .i64 ((a0.length : Int) - a1)))))) rfl (fun Kg5 => ?_) (fun j5 => ?_)
  ·
    rcases Bool.eq_false_or_eq_true ((((decide (a2 < (1 : Int))) || (decide (a2 > (8 : Int)))) || (decide (a1 < (0 : Int)))) || (decide (a1 > (a0.length : Int)))) with hb5 | hb5
    ·
      refine sbT hb5 ?_
      refine uw rfl rfl rfl rfl ?_
      refine uw rfl rfl rfl rfl ?_
      refine uw rfl rfl rfl rfl ?_
      refine uw rfl rfl rfl rfl ?_
      refine uw rfl rfl rfl rfl ?_
      refine uw rfl rfl rfl rfl ?_
      refine pu rfl rfl rfl rfl rfl ?_
      exact Kg5 _ (Ag.put ((Ag.put ((Ag.put ((Ag.put ((Ag.put ((Ag.put ((Ag.put (Ag.base rfl) rfl)) rfl)) rfl)) rfl)) rfl)) rfl)) rfl) (by rw [hb5]; rfl)
    ·
      refine sbT hb5 ?_
      refine pu rfl rfl rfl rfl rfl ?_
      refine mv w0_0 rfl rfl rfl rfl rfl rfl ?_
      refine ln A0_0 Try.underlying24 rfl rfl rfl rfl rfl rfl ?_
      refine pu rfl rfl rfl rfl rfl ?_
      refine pu rfl rfl rfl rfl rfl ?_
      refine pu rfl rfl rfl rfl rfl ?_
      refine pu rfl rfl rfl rfl rfl ?_
      exact Kg5 _ (Ag.put ((Ag.put ((Ag.put ((Ag.put ((Ag.put ((Ag.put ((Ag.put (Ag.base rfl) rfl)) rfl)) rfl)) rfl)) rfl)) rfl)) rfl) (by rw [hb5]; rfl)
  refine dn ?_
  refine cd rfl (fun h6 => ?_) (fun h6 => ?_)
  ·
    refine sr ?_
    refine pu rfl rfl rfl rfl rfl ?_
    refine pu rfl rfl rfl rfl rfl ?_
    refine dn ?_
    exact re rfl Try.func46 rfl (r_t rfl (r_t rfl r_nil)) rfl ⟨_, rfl, rfl, z.ky kp0⟩
  ·
    refine sk ?_
    refine sr ?_
    refine pu rfl rfl rfl rfl rfl ?_
    refine dn ?_
    refine sq ?_
    refine sr ?_
    refine pu rfl rfl rfl rfl rfl ?_
    refine pu rfl rfl rfl rfl rfl ?_
    refine pu rfl rfl rfl rfl rfl ?_
    refine dn ?_
    refine bl ?_
    refine lpI (fun (x7 : Int × Int) (e : Env) (w : World) => ∃ (s : St) (e0 : Env), w = s.w ∧ e = upd (upd (upd (upd e0 0 w0_0) 1 (.int .i64 a1)) 8 (.int .i64 x7.1)) 9 (.int .i64 x7.2) ∧ Kp s0 s) ⟨s0, _, rfl, (ue (ue (ue (ue rfl rfl) rfl) rfl) rfl), kp0⟩ (fun g7 ih7 => ?_)
    rintro x7 _ _ ⟨s8, _, rfl, rfl, Kx7⟩
    unfold spec_GetNum.b0
    refine sq ?_
    refine sr ?_
    refine pu rfl rfl rfl rfl rfl ?_
    refine pu rfl rfl rfl rfl rfl ?_
    refine dn ?_
    refine cd rfl (fun h9 => ?_) (fun h9 => ?_)
    ·
      refine sk ?_
      refine sq ?_
      refine bl ?_
      refine sr ?_
      refine mv w0_0 rfl rfl rfl rfl rfl rfl ?_
      refine pu rfl rfl rfl rfl rfl ?_
      refine pu rfl rfl rfl rfl rfl ?_
      refine pu rfl rfl rfl rfl rfl ?_
      have A10 := (A0_0.kp Kx7)
      refine ix A10 Try.underlying24 z5 rfl rfl rfl rfl rfl rfl rfl rfl (fun ad11 es11 h0_11 h1_11 he11 ce11 ia11 => ?_)
      obtain rfl := he11
      refine lc0 ce11 Try.underlying5 rfl rfl rfl rfl rfl rfl rfl rfl ?_
      refine cv Try.underlying3 Try.underlying5 rfl rfl rfl rfl rfl rfl ?_
      refine pu rfl rfl rfl rfl rfl ?_
      refine dn ?_
      refine sq ?_
      refine sr ?_
      refine pu rfl rfl rfl rfl rfl ?_
      refine pu rfl rfl rfl rfl rfl ?_
      refine pu rfl rfl rfl rfl rfl ?_
      refine jy [50, 51, 52, 53] [] 53 (.bool ((x7.2 == (7 : Int)) && (decide ((IntKind.wrap .i64 (at_ a0 (IntKind.wrap .i64 (a1 + x7.2)))) > (127 : Int))))) rfl (fun Kg13 => ?_) (fun j13 => ?_)
      ·
        rcases Bool.eq_false_or_eq_true (x7.2 == (7 : Int)) with hb13 | hb13
        ·
          refine sbT hb13 ?_
          refine pu rfl rfl rfl rfl rfl ?_
          refine pu rfl rfl rfl rfl rfl ?_
          refine pu rfl rfl rfl rfl rfl ?_
          exact Kg13 _ (Ag.put ((Ag.put ((Ag.put (Ag.base rfl) rfl)) rfl)) rfl) (by rw [hb13]; rfl)
        ·
          refine sbT hb13 ?_
          refine uw rfl rfl rfl rfl ?_
          refine uw rfl rfl rfl rfl ?_
          refine pu rfl rfl rfl rfl rfl ?_
          exact Kg13 _ (Ag.put ((Ag.put ((Ag.put (Ag.base rfl) rfl)) rfl)) rfl) (by rw [hb13]; rfl)
      refine dn ?_
      refine cd rfl (fun h14 => ?_) (fun h14 => ?_)
      ·
        refine sr ?_
        refine pu rfl rfl rfl rfl rfl ?_
        refine pu rfl rfl rfl rfl rfl ?_
        refine dn ?_
        refine sgi ?_
        exact re rfl Try.func46 rfl (r_t rfl (r_t rfl r_nil)) rfl ⟨_, rfl, rfl, z.ky Kx7⟩
      ·
        refine sk ?_
        refine rg ?_
        refine pu rfl rfl rfl rfl rfl ?_
        refine pu rfl rfl rfl rfl rfl ?_
        refine pu rfl rfl rfl rfl rfl ?_
        refine pu rfl rfl rfl rfl rfl ?_
        refine pu rfl rfl rfl rfl rfl ?_
        refine dn ?_
        refine ib ?_
        refine rg ?_
        refine pu rfl rfl rfl rfl rfl ?_
        refine pu rfl rfl rfl rfl rfl ?_
        refine pu rfl rfl rfl rfl rfl ?_
        refine dn ?_
        exact lb ih7 ⟨s8, _, rfl, (ue (ue (ue (ue rfl rfl) rfl) rfl) rfl), Kx7⟩
    ·
      refine xt rfl ?_
      refine sgb ?_
      refine sr ?_
      refine pu rfl rfl rfl rfl rfl ?_
      refine pu rfl rfl rfl rfl rfl ?_
      refine pu rfl rfl rfl rfl rfl ?_
      refine dn ?_
      exact re rfl Try.func46 rfl (r_t rfl (r_t rfl r_nil)) rfl ⟨_, rfl, rfl, z.ky Kx7⟩
noncomputable def laws_szByteS.f (a0 : (List Int)) (a1 : Int) : Option (Int) :=
  (if (decide ((IntKind.wrap .i64 (a1 - (a0.length : Int))) < (0 : Int))) = true then (some (-1 : Int)) else (some (IntKind.wrap .i64 (a1 - (a0.length : Int)))))
def laws_szByteS.Q (w : World) (F : Nat → Prop) (r : Int) (v : Value) (w' : World) : Prop :=
  v = (.int .i64 r) ∧ Ky [] w w'
set_option maxHeartbeats 4000000 in
set_option maxRecDepth 100000 in
theorem laws_szByteS.calls (a0 : (List Int)) (a1 : Int) (w : World) (F : Nat → Prop) (w0_0 : Value) (h0_0 : (Kd.sl 5 (Kd.int .u8)).rd w [w0_0] a0 F) (r : Int) (m : laws_szByteS.f a0 a1 = some r) :
    Calls Try.prog 63 #[w0_0, (.int .i64 a1)] w fun en w' => ∃ v, en = .returned v ∧ laws_szByteS.Q w F r v w' := by
  obtain ⟨s0, rfl, kp0, z⟩ := start0 w F
  have A0_0 := z.rd h0_0
  refine calls_of_TM (args := [w0_0, (.int .i64 a1)]) (R := fun r en w' => ∃ v, en = .returned v ∧ laws_szByteS.Q s0.w F r v w') Try.func63 Try.ntmps63 rfl rfl m ?_
  unfold laws_szByteS.f
  refine sr ?_
  refine pu rfl rfl rfl rfl rfl ?_
  refine dn ?_
  refine sr ?_
  refine pu rfl rfl rfl rfl rfl ?_
  refine mv w0_0 rfl rfl rfl rfl rfl rfl ?_
  refine ln A0_0 Try.underlying24 rfl rfl rfl rfl rfl rfl ?_
  refine pu rfl rfl rfl rfl rfl ?_
  refine pu rfl rfl rfl rfl rfl ?_
  refine dn ?_
  refine sq ?_
  refine sr ?_
  refine pu rfl rfl rfl rfl rfl ?_
  refine pu rfl rfl rfl rfl rfl ?_
  refine dn ?_
  refine cd rfl (fun h2 => ?_) (fun h2 => ?_)
  ·
    refine sr ?_
    refine pu rfl rfl rfl rfl rfl ?_
    refine dn ?_
    exact re rfl Try.func63 rfl (r_t rfl r_nil) rfl ⟨_, rfl, rfl, z.ky kp0⟩
  ·
    refine sk ?_
    refine sr ?_
    refine pu rfl rfl rfl rfl rfl ?_
    refine pu rfl rfl rfl rfl rfl ?_
    refine dn ?_
    exact re rfl Try.func63 rfl (r_t rfl r_nil) rfl ⟨_, rfl, rfl, z.ky kp0⟩
noncomputable def laws_szRecord.f (a0 : Record) (a1 : Int) : Option (Int) :=
  ((laws_szByteS.f a0.Data a1).bind fun r6 => (if (decide (r6 < (0 : Int))) = true then (some (-1 : Int)) else (some r6)))
def laws_szRecord.Q (w : World) (F : Nat → Prop) (r : Int) (v : Value) (w' : World) : Prop :=
  v = (.int .i64 r) ∧ Ky [] w w'
set_option maxHeartbeats 4000000 in
set_option maxRecDepth 100000 in
theorem laws_szRecord.calls (a0 : Record) (a1 : Int) (w : World) (F : Nat → Prop) (w0_0 : Value) (h0_0 : (Kd.sl 5 (Kd.int .u8)).rd w [w0_0] a0.Data F) (r : Int) (m : laws_szRecord.f a0 a1 = some r) :
    Calls Try.prog 47 #[(.agg #[(.int .i64 a0.Kind), (.int .i64 a0.Lsn), (.int .i64 a0.Xid), (.int .i64 a0.Page), (.int .i64 a0.Slot), w0_0]), (.int .i64 a1)] w fun en w' => ∃ v, en = .returned v ∧ laws_szRecord.Q w F r v w' := by
  obtain ⟨s0, rfl, kp0, z⟩ := start0 w F
  have A0_0 := z.rd h0_0
  refine calls_of_TM (args := [(.agg #[(.int .i64 a0.Kind), (.int .i64 a0.Lsn), (.int .i64 a0.Xid), (.int .i64 a0.Page), (.int .i64 a0.Slot), w0_0]), (.int .i64 a1)]) (R := fun r en w' => ∃ v, en = .returned v ∧ laws_szRecord.Q s0.w F r v w') Try.func47 Try.ntmps47 rfl rfl m ?_
  unfold laws_szRecord.f
  refine sr ?_
  refine bx (cs := [(.int .i64 a0.Kind), (.int .i64 a0.Lsn), (.int .i64 a0.Xid), (.int .i64 a0.Page), (.int .i64 a0.Slot), w0_0]) 10 rfl rfl rfl rfl rfl rfl (fun b2 s2 p2 B2 => ?_)
  refine pu rfl rfl rfl rfl rfl ?_
  refine dn ?_
  refine sr ?_
  refine fa fa66_5 rfl rfl rfl rfl rfl rfl ?_
  refine ld B2 Try.underlying24 rfl rfl rfl rfl rfl rfl rfl rfl ?_
  refine pu rfl rfl rfl rfl rfl ?_
  have K4 := (kp0.st p2 rfl)
  have A5 := (A0_0.kp K4)
  refine cl rfl rfl rfl rfl rfl Try.func63 rfl rfl rfl (fun r6 m6 => laws_szByteS.calls a0.Data a1 s2.w (fun b => memb [0] (s2.g b) = true) w0_0 A5 r6 m6) ?_
  rintro r6 _ w6 m6 ⟨rfl, ky6⟩
  obtain ⟨s7, rfl, p7, n7⟩ := nwx s2 w6 11 ky6
  refine pu rfl rfl rfl rfl rfl ?_
  refine dn ?_
  refine sq ?_
  refine sr ?_
  refine pu rfl rfl rfl rfl rfl ?_
  refine pu rfl rfl rfl rfl rfl ?_
  refine dn ?_
  refine cd rfl (fun h8 => ?_) (fun h8 => ?_)
  ·
    refine sr ?_
    refine pu rfl rfl rfl rfl rfl ?_
    refine dn ?_
    have K9 := (K4.st p7 rfl)
    exact re rfl Try.func47 rfl (r_t rfl r_nil) rfl ⟨_, rfl, rfl, z.ky K9⟩
  ·
    refine sk ?_
    refine sr ?_
    refine pu rfl rfl rfl rfl rfl ?_
    refine pu rfl rfl rfl rfl rfl ?_
    refine dn ?_
    have K10 := (K4.st p7 rfl)
    exact re rfl Try.func47 rfl (r_t rfl r_nil) rfl ⟨_, rfl, rfl, z.ky K10⟩
noncomputable def laws_szRecordS.b0 (a0 : (List Record)) (x3 : Int × Int) : Option ((Int × Int) ⊕ Int) :=
  (if (decide (x3.2 < (a0.length : Int))) = true then (if 0 ≤ x3.2 ∧ x3.2 < (a0.length : Int) then ((laws_szRecord.f (at_ a0 x3.2) x3.1).bind fun r10 => (if (decide (r10 < (0 : Int))) = true then (some (.inr (-1 : Int))) else (some (.inl (r10, (IntKind.wrap .i64 (x3.2 + (1 : Int)))))))) else none) else ((some x3.1).bind fun o => some (.inr o)))
noncomputable def laws_szRecordS.f (a0 : (List Record)) (a1 : Int) : Option (Int) :=
  (if (decide ((IntKind.wrap .i64 (a1 - (a0.length : Int))) < (0 : Int))) = true then (some (-1 : Int)) else (iter (laws_szRecordS.b0 a0) ((IntKind.wrap .i64 (a1 - (a0.length : Int))), (0 : Int))))
def laws_szRecordS.Q (w : World) (F : Nat → Prop) (r : Int) (v : Value) (w' : World) : Prop :=
  v = (.int .i64 r) ∧ Ky [] w w'
set_option maxHeartbeats 4000000 in
set_option maxRecDepth 100000 in
theorem laws_szRecordS.calls (a0 : (List Record)) (a1 : Int) (w : World) (F : Nat → Prop) (w0_0 : Value) (h0_0 : (Kd.sl 66 kd66).rd w [w0_0] a0 F) (r : Int) (m : laws_szRecordS.f a0 a1 = some r) :
    Calls Try.prog 20 #[w0_0, (.int .i64 a1)] w fun en w' => ∃ v, en = .returned v ∧ laws_szRecordS.Q w F r v w' := by
  obtain ⟨s0, rfl, kp0, z⟩ := start0 w F
  have A0_0 := z.rd h0_0
  refine calls_of_TM (args := [w0_0, (.int .i64 a1)]) (R := fun r en w' => ∃ v, en = .returned v ∧ laws_szRecordS.Q s0.w F r v w') Try.func20 Try.ntmps20 rfl rfl m ?_
  unfold laws_szRecordS.f
  refine sr ?_
  refine pu rfl rfl rfl rfl rfl ?_
  refine dn ?_
  refine sr ?_
  refine pu rfl rfl rfl rfl rfl ?_
  refine mv w0_0 rfl rfl rfl rfl rfl rfl ?_
  refine ln A0_0 Try.underlying38 rfl rfl rfl rfl rfl rfl ?_
  refine pu rfl rfl rfl rfl rfl ?_
  refine pu rfl rfl rfl rfl rfl ?_
  refine dn ?_
  refine sq ?_
  refine sr ?_
  refine pu rfl rfl rfl rfl rfl ?_
  refine pu rfl rfl rfl rfl rfl ?_
  refine dn ?_
  refine cd rfl (fun h2 => ?_) (fun h2 => ?_)
  ·
    refine sr ?_
    refine pu rfl rfl rfl rfl rfl ?_
    refine dn ?_
    exact re rfl Try.func20 rfl (r_t rfl r_nil) rfl ⟨_, rfl, rfl, z.ky kp0⟩
  ·
    refine sk ?_
    refine sq ?_
    refine sr ?_
    refine pu rfl rfl rfl rfl rfl ?_
    refine dn ?_
    refine bl ?_
    refine lpI (fun (x3 : Int × Int) (e : Env) (w : World) => ∃ (s : St) (e0 : Env), w = s.w ∧ e = upd (upd (upd e0 0 w0_0) 1 (.int .i64 x3.1)) 5 (.int .i64 x3.2) ∧ Kp s0 s) ⟨s0, _, rfl, (ue (ue (ue rfl rfl) rfl) rfl), kp0⟩ (fun g3 ih3 => ?_)
    rintro x3 _ _ ⟨s4, _, rfl, rfl, Kx3⟩
    unfold laws_szRecordS.b0
    refine sq ?_
    refine sr ?_
    refine pu rfl rfl rfl rfl rfl ?_
    refine mv w0_0 rfl rfl rfl rfl rfl rfl ?_
    have A5 := (A0_0.kp Kx3)
    refine ln A5 Try.underlying38 rfl rfl rfl rfl rfl rfl ?_
    refine pu rfl rfl rfl rfl rfl ?_
    refine dn ?_
    refine cd rfl (fun h6 => ?_) (fun h6 => ?_)
    ·
      refine sk ?_
      refine sq ?_
      refine bl ?_
      refine sr ?_
      refine mv w0_0 rfl rfl rfl rfl rfl rfl ?_
      refine pu rfl rfl rfl rfl rfl ?_
      refine ix A5 Try.underlying38 z66 rfl rfl rfl rfl rfl rfl rfl rfl (fun ad7 es7 h0_7 h1_7 he7 ce7 ia7 => ?_)
      obtain ⟨v7_0, rfl, A7_0⟩ := op66 he7
      refine lca ce7 Try.underlying66 z66 rfl rfl rfl rfl rfl rfl rfl ?_
      refine pu rfl rfl rfl rfl rfl ?_
      refine cl rfl rfl rfl rfl rfl Try.func47 rfl rfl rfl (fun r10 m10 => laws_szRecord.calls (at_ a0 x3.2) x3.1 s4.w (fun b => memb [0] (s4.g b) = true) v7_0 A7_0 r10 m10) ?_
      rintro r10 _ w10 m10 ⟨rfl, ky10⟩
      obtain ⟨s11, rfl, p11, n11⟩ := nwx s4 w10 10 ky10
      refine pu rfl rfl rfl rfl rfl ?_
      refine dn ?_
      refine sr ?_
      refine pu rfl rfl rfl rfl rfl ?_
      refine pu rfl rfl rfl rfl rfl ?_
      refine dn ?_
      refine cd rfl (fun h12 => ?_) (fun h12 => ?_)
      ·
        refine sr ?_
        refine pu rfl rfl rfl rfl rfl ?_
        refine dn ?_
        refine sgi ?_
        have K13 := (Kx3.st p11 rfl)
        exact re rfl Try.func20 rfl (r_t rfl r_nil) rfl ⟨_, rfl, rfl, z.ky K13⟩
      ·
        refine sk ?_
        refine ib ?_
        refine rg ?_
        refine pu rfl rfl rfl rfl rfl ?_
        refine pu rfl rfl rfl rfl rfl ?_
        refine pu rfl rfl rfl rfl rfl ?_
        refine dn ?_
        have K14 := (Kx3.st p11 rfl)
        exact lb ih3 ⟨s11, _, rfl, (ue (ue (ue rfl rfl) rfl) rfl), K14⟩
    ·
      refine xt rfl ?_
      refine sgb ?_
      refine sr ?_
      refine pu rfl rfl rfl rfl rfl ?_
      refine pu rfl rfl rfl rfl rfl ?_
      refine dn ?_
      exact re rfl Try.func20 rfl (r_t rfl r_nil) rfl ⟨_, rfl, rfl, z.ky Kx3⟩
noncomputable def laws_toIntS.b0 (a0 : (List Int)) (x4 : (List Int) × Int) : Option (((List Int) × Int) ⊕ (List Int)) :=
  (if (decide (x4.2 < (a0.length : Int))) = true then (if 0 ≤ x4.2 ∧ x4.2 < (a0.length : Int) then (if 0 ≤ x4.2 ∧ x4.2 < (x4.1.length : Int) then (some (.inl ((x4.1.set (x4.2).toNat (at_ a0 x4.2)), (IntKind.wrap .i64 (x4.2 + (1 : Int)))))) else none) else none) else ((some x4.1).bind fun o => some (.inr o)))
noncomputable def laws_toIntS.f (a0 : (List Int)) : Option ((List Int)) :=
  (if 0 ≤ (a0.length : Int) ∧ (a0.length : Int) ≤ (Lim : Int) then (iter (laws_toIntS.b0 a0) ((List.replicate ((a0.length : Int)).toNat (0 : Int)), (0 : Int))) else none)
def laws_toIntS.Q (w : World) (F : Nat → Prop) (r : (List Int)) (v : Value) (w' : World) : Prop :=
  FO (Kd.sl 3 (Kd.int .i64)) w w' [v] r ∧ Ky [] w w'
set_option maxHeartbeats 4000000 in
set_option maxRecDepth 100000 in
theorem laws_toIntS.calls (a0 : (List Int)) (w : World) (F : Nat → Prop) (w0_0 : Value) (h0_0 : (Kd.sl 3 (Kd.int .i64)).rd w [w0_0] a0 F) (r : (List Int)) (m : laws_toIntS.f a0 = some r) :
    Calls Try.prog 22 #[w0_0] w fun en w' => ∃ v, en = .returned v ∧ laws_toIntS.Q w F r v w' := by
  obtain ⟨s0, rfl, kp0, z⟩ := start0 w F
  have A0_0 := z.rd h0_0
  refine calls_of_TM (args := [w0_0]) (R := fun r en w' => ∃ v, en = .returned v ∧ laws_toIntS.Q s0.w F r v w') Try.func22 Try.ntmps22 rfl rfl m ?_
  unfold laws_toIntS.f
  refine sr ?_
  refine pu rfl rfl rfl rfl rfl ?_
  refine dn ?_
  refine sr ?_
  refine mv w0_0 rfl rfl rfl rfl rfl rfl ?_
  refine ln A0_0 Try.underlying37 rfl rfl rfl rfl rfl rfl ?_
  refine mk (x0 := (0 : Int)) (K := (Kd.int .i64)) 10 sl37 o3 (fun _ => ⟨rfl, rfl⟩) rfl rfl rfl rfl rfl rfl rfl (fun v2 s2 p2 A2 => ?_)
  refine asg v2 rfl rfl rfl rfl rfl rfl ?_
  refine dn ?_
  refine sq ?_
  refine sr ?_
  refine pu rfl rfl rfl rfl rfl ?_
  refine dn ?_
  refine bl ?_
  have K5 := (kp0.st p2 rfl)
  refine lpI (fun (x4 : (List Int) × Int) (e : Env) (w : World) => ∃ (s : St) (e0 : Env), w = s.w ∧ e = upd (upd (upd e0 0 w0_0) 3 v2) 4 (.int .i64 x4.2) ∧ Kp s0 s ∧ OwF (Kd.sl 3 (Kd.int .i64)) s [v2] x4.1 10) ⟨s2, _, rfl, (ue (ue (ue rfl rfl) rfl) rfl), K5, A2⟩ (fun g4 ih4 => ?_)
  rintro x4 _ _ ⟨s6, _, rfl, rfl, Kx4, Ax4_0⟩
  unfold laws_toIntS.b0
  refine sq ?_
  refine sr ?_
  refine pu rfl rfl rfl rfl rfl ?_
  refine mv w0_0 rfl rfl rfl rfl rfl rfl ?_
  have A8 := (A0_0.kp Kx4)
  refine ln A8 Try.underlying37 rfl rfl rfl rfl rfl rfl ?_
  refine pu rfl rfl rfl rfl rfl ?_
  refine dn ?_
  refine cd rfl (fun h9 => ?_) (fun h9 => ?_)
  ·
    refine sk ?_
    refine sq ?_
    refine bl ?_
    refine rg ?_
    refine mv v2 rfl rfl rfl rfl rfl rfl ?_
    refine pu rfl rfl rfl rfl rfl ?_
    refine mv w0_0 rfl rfl rfl rfl rfl rfl ?_
    refine pu rfl rfl rfl rfl rfl ?_
    refine ix A8 Try.underlying37 z3 rfl rfl rfl rfl rfl rfl rfl rfl (fun ad10 es10 h0_10 h1_10 he10 ce10 ia10 => ?_)
    obtain rfl := he10
    refine lc0 ce10 Try.underlying3 rfl rfl rfl rfl rfl rfl rfl rfl ?_
    refine ix Ax4_0.rd Try.underlying37 z3 rfl rfl rfl rfl rfl rfl rfl rfl (fun ad12 es12 h0_12 h1_12 he12 ce12 ia12 => ?_)
    obtain rfl := he12
    refine so (x' := (at_ a0 x4.2)) Ax4_0 ia12 h0_12 h1_12 cs_flat z3 rfl rfl rfl rfl rfl rfl (fun s14 p14 A14 => ?_)
    refine dn ?_
    refine ib ?_
    refine rg ?_
    refine pu rfl rfl rfl rfl rfl ?_
    refine pu rfl rfl rfl rfl rfl ?_
    refine pu rfl rfl rfl rfl rfl ?_
    refine dn ?_
    have K16 := (Kx4.st p14 rfl)
    exact lb ih4 ⟨s14, _, rfl, (ue (ue (ue rfl rfl) rfl) rfl), K16, A14⟩
  ·
    refine xt rfl ?_
    refine sgb ?_
    refine sr ?_
    refine mv v2 rfl rfl rfl rfl rfl rfl ?_
    refine asg v2 rfl rfl rfl rfl rfl rfl ?_
    refine dn ?_
    exact re rfl Try.func22 rfl (r_t rfl r_nil) rfl ⟨_, rfl, Ax4_0.fo Kx4 rfl, z.ky Kx4⟩
noncomputable def laws_toRecord.f (a0 : Record) : Option (Record) :=
  ((laws_toByteS.f a0.Data).bind fun r26 => (some (Record.mk a0.Kind a0.Lsn a0.Xid a0.Page a0.Slot r26)))
def laws_toRecord.Q (w : World) (F : Nat → Prop) (r : Record) (v : Value) (w' : World) : Prop :=
  ∃ (v0 : Value), v = (.agg #[(.int .i64 r.Kind), (.int .i64 r.Lsn), (.int .i64 r.Xid), (.int .i64 r.Page), (.int .i64 r.Slot), v0]) ∧ FO kd68 w w' [(.int .i64 r.Kind), (.int .i64 r.Lsn), (.int .i64 r.Xid), (.int .i64 r.Page), (.int .i64 r.Slot), v0] r ∧ Ky [] w w'
set_option maxHeartbeats 4000000 in
set_option maxRecDepth 100000 in
theorem laws_toRecord.calls (a0 : Record) (w : World) (F : Nat → Prop) (w0_0 : Value) (h0_0 : (Kd.sl 5 (Kd.int .u8)).rd w [w0_0] a0.Data F) (r : Record) (m : laws_toRecord.f a0 = some r) :
    Calls Try.prog 51 #[(.agg #[(.int .i64 a0.Kind), (.int .i64 a0.Lsn), (.int .i64 a0.Xid), (.int .i64 a0.Page), (.int .i64 a0.Slot), w0_0])] w fun en w' => ∃ v, en = .returned v ∧ laws_toRecord.Q w F r v w' := by
  obtain ⟨s0, rfl, kp0, z⟩ := start0 w F
  have A0_0 := z.rd h0_0
  refine calls_of_TM (args := [(.agg #[(.int .i64 a0.Kind), (.int .i64 a0.Lsn), (.int .i64 a0.Xid), (.int .i64 a0.Page), (.int .i64 a0.Slot), w0_0])]) (R := fun r en w' => ∃ v, en = .returned v ∧ laws_toRecord.Q s0.w F r v w') Try.func51 Try.ntmps51 rfl rfl m ?_
  unfold laws_toRecord.f
  refine sr ?_
  refine bx (cs := [(.int .i64 a0.Kind), (.int .i64 a0.Lsn), (.int .i64 a0.Xid), (.int .i64 a0.Page), (.int .i64 a0.Slot), w0_0]) 10 rfl rfl rfl rfl rfl rfl (fun b2 s2 p2 B2 => ?_)
  refine al (cs := [(.int .i64 (0 : Int)), (.int .i64 (0 : Int)), (.int .i64 (0 : Int)), (.int .i64 (0 : Int)), (.int .i64 (0 : Int)), (.slice none 0 0)]) 11 rfl rfl rfl rfl rfl o68 rfl (fun b4 s4 p4 B4 => ?_)
  refine dn ?_
  refine sr ?_
  refine al (cs := [(.int .i64 (0 : Int)), (.int .i64 (0 : Int)), (.int .i64 (0 : Int)), (.int .i64 (0 : Int)), (.int .i64 (0 : Int)), (.slice none 0 0)]) 12 rfl rfl rfl rfl rfl o68 rfl (fun b6 s6 p6 B6 => ?_)
  refine dn ?_
  refine sr ?_
  refine fa fa66_0 rfl rfl rfl rfl rfl rfl ?_
  have A8 := (BlF.st (BlF.st B2 p4 rfl) p6 rfl)
  refine ld A8 Try.underlying3 rfl rfl rfl rfl rfl rfl rfl rfl ?_
  refine fa fa68_0 rfl rfl rfl rfl rfl rfl ?_
  refine sv B6 z3 rfl rfl rfl rfl rfl rfl rfl rfl (fun s9 p9 B9 => ?_)
  refine dn ?_
  refine sr ?_
  refine fa fa66_1 rfl rfl rfl rfl rfl rfl ?_
  have A11 := (BlF.st A8 p9 rfl)
  refine ld A11 Try.underlying3 rfl rfl rfl rfl rfl rfl rfl rfl ?_
  refine fa fa68_1 rfl rfl rfl rfl rfl rfl ?_
  refine sv B9 z3 rfl rfl rfl rfl rfl rfl rfl rfl (fun s12 p12 B12 => ?_)
  refine dn ?_
  refine sr ?_
  refine fa fa66_2 rfl rfl rfl rfl rfl rfl ?_
  have A14 := (BlF.st A11 p12 rfl)
  refine ld A14 Try.underlying3 rfl rfl rfl rfl rfl rfl rfl rfl ?_
  refine fa fa68_2 rfl rfl rfl rfl rfl rfl ?_
  refine sv B12 z3 rfl rfl rfl rfl rfl rfl rfl rfl (fun s15 p15 B15 => ?_)
  refine dn ?_
  refine sr ?_
  refine fa fa66_3 rfl rfl rfl rfl rfl rfl ?_
  have A17 := (BlF.st A14 p15 rfl)
  refine ld A17 Try.underlying3 rfl rfl rfl rfl rfl rfl rfl rfl ?_
  refine fa fa68_3 rfl rfl rfl rfl rfl rfl ?_
  refine sv B15 z3 rfl rfl rfl rfl rfl rfl rfl rfl (fun s18 p18 B18 => ?_)
  refine dn ?_
  refine sr ?_
  refine fa fa66_4 rfl rfl rfl rfl rfl rfl ?_
  have A20 := (BlF.st A17 p18 rfl)
  refine ld A20 Try.underlying3 rfl rfl rfl rfl rfl rfl rfl rfl ?_
  refine fa fa68_4 rfl rfl rfl rfl rfl rfl ?_
  refine sv B18 z3 rfl rfl rfl rfl rfl rfl rfl rfl (fun s21 p21 B21 => ?_)
  refine dn ?_
  refine sr ?_
  refine fa fa66_5 rfl rfl rfl rfl rfl rfl ?_
  have A23 := (BlF.st A20 p21 rfl)
  refine ld A23 Try.underlying24 rfl rfl rfl rfl rfl rfl rfl rfl ?_
  have K24 := ((((((((kp0.st p2 rfl).st p4 rfl).st p6 rfl).st p9 rfl).st p12 rfl).st p15 rfl).st p18 rfl).st p21 rfl)
  have A25 := (A0_0.kp K24)
  refine cl rfl rfl rfl rfl rfl Try.func18 rfl rfl rfl (fun r26 m26 => laws_toByteS.calls a0.Data s21.w (fun b => memb [0] (s21.g b) = true) w0_0 A25 r26 m26) ?_
  rintro r26 v26_0 w26 m26 ⟨f26_0, ky26⟩
  obtain ⟨s27, rfl, p27, n27⟩ := nwx s21 w26 13 ky26
  have A26_0 := f26_0.c n27
  refine fa fa68_5 rfl rfl rfl rfl rfl rfl ?_
  have A29 := (BlF.st B21 p27 rfl)
  refine sv A29 z24 rfl rfl rfl rfl rfl rfl A26_0.rd.one rfl (fun s30 p30 B30 => ?_)
  refine dn ?_
  refine sr ?_
  refine lda (es := [(.int .i64 a0.Kind), (.int .i64 a0.Lsn), (.int .i64 a0.Xid), (.int .i64 a0.Page), (.int .i64 a0.Slot), v26_0]) B30 Try.underlying68 z68 rfl rfl rfl rfl rfl rfl rfl rfl ?_
  have A32 := (BlF.st (BlF.st (BlF.st (BlF.st (BlF.st (BlF.st (BlF.st (BlF.st B4 p6 rfl) p9 rfl) p12 rfl) p15 rfl) p18 rfl) p21 rfl) p27 rfl) p30 rfl)
  have A33 := (A26_0.st p30 rfl)
  refine sva (vs := [(.int .i64 a0.Kind), (.int .i64 a0.Lsn), (.int .i64 a0.Xid), (.int .i64 a0.Page), (.int .i64 a0.Slot), v26_0]) A32 z68 rfl rfl rfl rfl rfl rfl (on_cons rfl (on_cons rfl (on_cons rfl (on_cons rfl (on_cons rfl (on_cons A33.rd.one on_nil)))))) rfl (fun s34 p34 B34 => ?_)
  refine dn ?_
  have A37 := (A33.st p34 rfl)
  have A36 : OwF kd68 s34 [(.int .i64 a0.Kind), (.int .i64 a0.Lsn), (.int .i64 a0.Xid), (.int .i64 a0.Page), (.int .i64 a0.Slot), v26_0] (Record.mk a0.Kind a0.Lsn a0.Xid a0.Page a0.Slot r26) 13 := (ow_isoz (fun x : Record => (x.Kind, x.Lsn, x.Xid, x.Page, x.Slot, x.Data)) (Record.mk a0.Kind a0.Lsn a0.Xid a0.Page a0.Slot r26) (ow_l (fz_int .i64 a0.Kind) (ow_l (fz_int .i64 a0.Lsn) (ow_l (fz_int .i64 a0.Xid) (ow_l (fz_int .i64 a0.Page) (ow_l (fz_int .i64 a0.Slot) A37))))))
  have K39 := (((K24.st p27 rfl).st p30 rfl).st p34 rfl)
  exact re rfl Try.func51 rfl (r_b B34 Try.underlying68 rfl z68 rfl r_nil) rfl ⟨_, rfl, v26_0, rfl, A36.fo K39 rfl, z.ky K39⟩
noncomputable def laws_toRecordS.b0 (a0 : (List Record)) (x4 : (List Record) × Int) : Option (((List Record) × Int) ⊕ (List Record)) :=
  (if (decide (x4.2 < (a0.length : Int))) = true then (if 0 ≤ x4.2 ∧ x4.2 < (a0.length : Int) then ((laws_toRecord.f (at_ a0 x4.2)).bind fun r13 => (if 0 ≤ x4.2 ∧ x4.2 < (x4.1.length : Int) then (some (.inl ((x4.1.set (x4.2).toNat r13), (IntKind.wrap .i64 (x4.2 + (1 : Int)))))) else none)) else none) else ((some x4.1).bind fun o => some (.inr o)))
noncomputable def laws_toRecordS.f (a0 : (List Record)) : Option ((List Record)) :=
  (if 0 ≤ (a0.length : Int) ∧ (a0.length : Int) ≤ (Lim : Int) then (iter (laws_toRecordS.b0 a0) ((List.replicate ((a0.length : Int)).toNat (Record.mk (0 : Int) (0 : Int) (0 : Int) (0 : Int) (0 : Int) ([] : (List Int)))), (0 : Int))) else none)
def laws_toRecordS.Q (w : World) (F : Nat → Prop) (r : (List Record)) (v : Value) (w' : World) : Prop :=
  FO (Kd.sl 68 kd68) w w' [v] r ∧ Ky [] w w'
set_option maxHeartbeats 4000000 in
set_option maxRecDepth 100000 in
theorem laws_toRecordS.calls (a0 : (List Record)) (w : World) (F : Nat → Prop) (w0_0 : Value) (h0_0 : (Kd.sl 66 kd66).rd w [w0_0] a0 F) (r : (List Record)) (m : laws_toRecordS.f a0 = some r) :
    Calls Try.prog 23 #[w0_0] w fun en w' => ∃ v, en = .returned v ∧ laws_toRecordS.Q w F r v w' := by
  obtain ⟨s0, rfl, kp0, z⟩ := start0 w F
  have A0_0 := z.rd h0_0
  refine calls_of_TM (args := [w0_0]) (R := fun r en w' => ∃ v, en = .returned v ∧ laws_toRecordS.Q s0.w F r v w') Try.func23 Try.ntmps23 rfl rfl m ?_
  unfold laws_toRecordS.f
  refine sr ?_
  refine pu rfl rfl rfl rfl rfl ?_
  refine dn ?_
  refine sr ?_
  refine mv w0_0 rfl rfl rfl rfl rfl rfl ?_
  refine ln A0_0 Try.underlying38 rfl rfl rfl rfl rfl rfl ?_
  refine mk (x0 := (Record.mk (0 : Int) (0 : Int) (0 : Int) (0 : Int) (0 : Int) ([] : (List Int)))) (K := kd68) 10 sl43 o68 (fun _ => ⟨_, _, [], [], rfl, rfl, ⟨rfl, rfl⟩, ⟨_, _, [], [], rfl, rfl, ⟨rfl, rfl⟩, ⟨_, _, [], [], rfl, rfl, ⟨rfl, rfl⟩, ⟨_, _, [], [], rfl, rfl, ⟨rfl, rfl⟩, ⟨_, _, [], [], rfl, rfl, ⟨rfl, rfl⟩, ⟨_, rfl, [], [], [], rfl, ⟨by simp, .inl ⟨rfl, rfl, rfl⟩⟩, ⟨rfl, rfl⟩⟩⟩⟩⟩⟩⟩) rfl rfl rfl rfl rfl rfl rfl (fun v2 s2 p2 A2 => ?_)
  refine asg v2 rfl rfl rfl rfl rfl rfl ?_
  refine dn ?_
  refine sq ?_
  refine sr ?_
  refine pu rfl rfl rfl rfl rfl ?_
  refine dn ?_
  refine bl ?_
  have K5 := (kp0.st p2 rfl)
  refine lpI (fun (x4 : (List Record) × Int) (e : Env) (w : World) => ∃ (s : St) (e0 : Env), w = s.w ∧ e = upd (upd (upd e0 0 w0_0) 3 v2) 4 (.int .i64 x4.2) ∧ Kp s0 s ∧ OwF (Kd.sl 68 kd68) s [v2] x4.1 10) ⟨s2, _, rfl, (ue (ue (ue rfl rfl) rfl) rfl), K5, A2⟩ (fun g4 ih4 => ?_)
  rintro x4 _ _ ⟨s6, _, rfl, rfl, Kx4, Ax4_0⟩
  unfold laws_toRecordS.b0
  refine sq ?_
  refine sr ?_
  refine pu rfl rfl rfl rfl rfl ?_
  refine mv w0_0 rfl rfl rfl rfl rfl rfl ?_
  have A8 := (A0_0.kp Kx4)
  refine ln A8 Try.underlying38 rfl rfl rfl rfl rfl rfl ?_
  refine pu rfl rfl rfl rfl rfl ?_
  refine dn ?_
  refine cd rfl (fun h9 => ?_) (fun h9 => ?_)
  ·
    refine sk ?_
    refine sq ?_
    refine bl ?_
    refine rg ?_
    refine mv v2 rfl rfl rfl rfl rfl rfl ?_
    refine pu rfl rfl rfl rfl rfl ?_
    refine mv w0_0 rfl rfl rfl rfl rfl rfl ?_
    refine pu rfl rfl rfl rfl rfl ?_
    refine ix A8 Try.underlying38 z66 rfl rfl rfl rfl rfl rfl rfl rfl (fun ad10 es10 h0_10 h1_10 he10 ce10 ia10 => ?_)
    obtain ⟨v10_0, rfl, A10_0⟩ := op66 he10
    refine lca ce10 Try.underlying66 z66 rfl rfl rfl rfl rfl rfl rfl ?_
    refine cl rfl rfl rfl rfl rfl Try.func51 rfl rfl rfl (fun r13 m13 => laws_toRecord.calls (at_ a0 x4.2) s6.w (fun b => memb [0] (s6.g b) = true) v10_0 A10_0 r13 m13) ?_
    rintro r13 _ w13 m13 ⟨v13_0, rfl, f13_0, ky13⟩
    obtain ⟨s14, rfl, p14, n14⟩ := nwx s6 w13 11 ky13
    have A13_0 := f13_0.c n14
    obtain ⟨u13_0_0, e13_0, hu13_0_0⟩ := op68 A13_0.rd
    obtain yu13_0_0 : v13_0 = u13_0_0 := by simpa using e13_0
    subst yu13_0_0
    have A17 := (Ax4_0.st p14 rfl)
    refine ix A17.rd Try.underlying43 z68 rfl rfl rfl rfl rfl rfl rfl rfl (fun ad18 es18 h0_18 h1_18 he18 ce18 ia18 => ?_)
    obtain ⟨v18_0, rfl, A18_0⟩ := op68 he18
    refine som (x' := r13) A17 ia18 h0_18 h1_18 A13_0 rfl rfl z68 rfl rfl rfl rfl rfl rfl (fun s21 p21 A21 => ?_)
    refine dn ?_
    refine ib ?_
    refine rg ?_
    refine pu rfl rfl rfl rfl rfl ?_
    refine pu rfl rfl rfl rfl rfl ?_
    refine pu rfl rfl rfl rfl rfl ?_
    refine dn ?_
    have K23 := ((Kx4.st p14 rfl).st p21 rfl)
    exact lb ih4 ⟨s21, _, rfl, (ue (ue (ue rfl rfl) rfl) rfl), K23, A21⟩
  ·
    refine xt rfl ?_
    refine sgb ?_
    refine sr ?_
    refine mv v2 rfl rfl rfl rfl rfl rfl ?_
    refine asg v2 rfl rfl rfl rfl rfl rfl ?_
    refine dn ?_
    exact re rfl Try.func23 rfl (r_t rfl r_nil) rfl ⟨_, rfl, Ax4_0.fo Kx4 rfl, z.ky Kx4⟩
noncomputable def spec_RecordOk.f (a0 : Record) : Option (Bool) :=
  ((spec_l5in.f a0.Lsn (1 : Int) (1000000 : Int)).bind fun r4 => (if (!r4) = true then (some false) else ((spec_l5in.f a0.Page (0 : Int) (15 : Int)).bind fun r9 => ((spec_l5in.f a0.Slot (0 : Int) (15 : Int)).bind fun r12 => ((spec_l5in.f a0.Xid (1 : Int) (400 : Int)).bind fun r15 => (if (a0.Kind == (1 : Int)) = true then (some (((r9 && ((a0.Data.length : Int) == (256 : Int))) && (a0.Xid == (0 : Int))) && (a0.Slot == (0 : Int)))) else (if (a0.Kind == (2 : Int)) = true then (some ((((r9 && r12) && r15) && (decide ((a0.Data.length : Int) ≥ (1 : Int)))) && (decide ((a0.Data.length : Int) ≤ (92 : Int))))) else (if (a0.Kind == (3 : Int)) = true then (some (((r9 && r12) && r15) && ((a0.Data.length : Int) == (0 : Int)))) else (if (a0.Kind == (4 : Int)) = true then (some (((r9 && r12) && (a0.Xid == (0 : Int))) && ((a0.Data.length : Int) == (0 : Int)))) else (if (a0.Kind == (5 : Int)) = true then (some (((r15 && (a0.Page == (0 : Int))) && (a0.Slot == (0 : Int))) && ((a0.Data.length : Int) == (0 : Int)))) else (some false)))))))))))
def spec_RecordOk.Q (w : World) (F : Nat → Prop) (r : Bool) (v : Value) (w' : World) : Prop :=
  v = (.bool r) ∧ Ky [] w w'
set_option maxHeartbeats 4000000 in
set_option maxRecDepth 100000 in
theorem spec_RecordOk.calls (a0 : Record) (w : World) (F : Nat → Prop) (w0_0 : Value) (h0_0 : (Kd.sl 5 (Kd.int .u8)).rd w [w0_0] a0.Data F) (r : Bool) (m : spec_RecordOk.f a0 = some r) :
    Calls Try.prog 48 #[(.agg #[(.int .i64 a0.Kind), (.int .i64 a0.Lsn), (.int .i64 a0.Xid), (.int .i64 a0.Page), (.int .i64 a0.Slot), w0_0])] w fun en w' => ∃ v, en = .returned v ∧ spec_RecordOk.Q w F r v w' := by
  obtain ⟨s0, rfl, kp0, z⟩ := start0 w F
  have A0_0 := z.rd h0_0
  refine calls_of_TM (args := [(.agg #[(.int .i64 a0.Kind), (.int .i64 a0.Lsn), (.int .i64 a0.Xid), (.int .i64 a0.Page), (.int .i64 a0.Slot), w0_0])]) (R := fun r en w' => ∃ v, en = .returned v ∧ spec_RecordOk.Q s0.w F r v w') Try.func48 Try.ntmps48 rfl rfl m ?_
  unfold spec_RecordOk.f
  refine sr ?_
  refine bx (cs := [(.int .i64 a0.Kind), (.int .i64 a0.Lsn), (.int .i64 a0.Xid), (.int .i64 a0.Page), (.int .i64 a0.Slot), w0_0]) 10 rfl rfl rfl rfl rfl rfl (fun b2 s2 p2 B2 => ?_)
  refine pu rfl rfl rfl rfl rfl ?_
  refine dn ?_
  refine sq ?_
  refine sr ?_
  refine fa fa68_1 rfl rfl rfl rfl rfl rfl ?_
  refine ld B2 Try.underlying3 rfl rfl rfl rfl rfl rfl rfl rfl ?_
  refine cl rfl rfl rfl rfl rfl Try.func30 rfl rfl rfl (fun r4 m4 => spec_l5in.calls a0.Lsn (1 : Int) (1000000 : Int) s2.w (fun b => memb [] (s2.g b) = true)  r4 m4) ?_
  rintro r4 _ w4 m4 ⟨rfl, ky4⟩
  obtain ⟨s5, rfl, p5, n5⟩ := nwx s2 w4 11 ky4
  refine pu rfl rfl rfl rfl rfl ?_
  refine dn ?_
  refine cd rfl (fun h6 => ?_) (fun h6 => ?_)
  ·
    refine sr ?_
    refine pu rfl rfl rfl rfl rfl ?_
    refine dn ?_
    have K7 := ((kp0.st p2 rfl).st p5 rfl)
    exact re rfl Try.func48 rfl (r_t rfl r_nil) rfl ⟨_, rfl, rfl, z.ky K7⟩
  ·
    refine sk ?_
    refine sr ?_
    refine fa fa68_3 rfl rfl rfl rfl rfl rfl ?_
    have A8 := (BlF.st B2 p5 rfl)
    refine ld A8 Try.underlying3 rfl rfl rfl rfl rfl rfl rfl rfl ?_
    refine cl rfl rfl rfl rfl rfl Try.func30 rfl rfl rfl (fun r9 m9 => spec_l5in.calls a0.Page (0 : Int) (15 : Int) s5.w (fun b => memb [] (s5.g b) = true)  r9 m9) ?_
    rintro r9 _ w9 m9 ⟨rfl, ky9⟩
    obtain ⟨s10, rfl, p10, n10⟩ := nwx s5 w9 12 ky9
    refine pu rfl rfl rfl rfl rfl ?_
    refine dn ?_
    refine sr ?_
    refine fa fa68_4 rfl rfl rfl rfl rfl rfl ?_
    have A11 := (BlF.st A8 p10 rfl)
    refine ld A11 Try.underlying3 rfl rfl rfl rfl rfl rfl rfl rfl ?_
    refine cl rfl rfl rfl rfl rfl Try.func30 rfl rfl rfl (fun r12 m12 => spec_l5in.calls a0.Slot (0 : Int) (15 : Int) s10.w (fun b => memb [] (s10.g b) = true)  r12 m12) ?_
    rintro r12 _ w12 m12 ⟨rfl, ky12⟩
    obtain ⟨s13, rfl, p13, n13⟩ := nwx s10 w12 13 ky12
    refine pu rfl rfl rfl rfl rfl ?_
    refine dn ?_
    refine sr ?_
    refine fa fa68_2 rfl rfl rfl rfl rfl rfl ?_
    have A14 := (BlF.st A11 p13 rfl)
    refine ld A14 Try.underlying3 rfl rfl rfl rfl rfl rfl rfl rfl ?_
    refine cl rfl rfl rfl rfl rfl Try.func30 rfl rfl rfl (fun r15 m15 => spec_l5in.calls a0.Xid (1 : Int) (400 : Int) s13.w (fun b => memb [] (s13.g b) = true)  r15 m15) ?_
    rintro r15 _ w15 m15 ⟨rfl, ky15⟩
    obtain ⟨s16, rfl, p16, n16⟩ := nwx s13 w15 14 ky15
    refine pu rfl rfl rfl rfl rfl ?_
    refine dn ?_
    refine sr ?_
    refine fa fa68_5 rfl rfl rfl rfl rfl rfl ?_
    have A17 := (BlF.st A14 p16 rfl)
    refine ld A17 Try.underlying24 rfl rfl rfl rfl rfl rfl rfl rfl ?_
    have K18 := (((((kp0.st p2 rfl).st p5 rfl).st p10 rfl).st p13 rfl).st p16 rfl)
    have A19 := (A0_0.kp K18)
    refine ln A19 Try.underlying24 rfl rfl rfl rfl rfl rfl ?_
    refine pu rfl rfl rfl rfl rfl ?_
    refine dn ?_
    refine sq ?_
    refine sr ?_
    refine fa fa68_0 rfl rfl rfl rfl rfl rfl ?_
    refine ld A17 Try.underlying3 rfl rfl rfl rfl rfl rfl rfl rfl ?_
    refine dn ?_
    refine bl ?_
    refine sr ?_
    refine pu rfl rfl rfl rfl rfl ?_
    refine pu rfl rfl rfl rfl rfl ?_
    refine dn ?_
    refine cd rfl (fun h20 => ?_) (fun h20 => ?_)
    ·
      refine sr ?_
      refine pu rfl rfl rfl rfl rfl ?_
      refine pu rfl rfl rfl rfl rfl ?_
      refine jy [28, 29, 30, 31] [5, 6, 7, 8, 9, 10, 11, 12, 13, 14, 15] 31 (.bool (r9 && ((a0.Data.length : Int) == (256 : Int)))) rfl (fun Kg21 => ?_) (fun j21 => ?_)
      ·
        rcases Bool.eq_false_or_eq_true r9 with hb21 | hb21
        ·
          refine sbT hb21 ?_
          refine pu rfl rfl rfl rfl rfl ?_
          refine pu rfl rfl rfl rfl rfl ?_
          refine pu rfl rfl rfl rfl rfl ?_
          exact Kg21 _ (Ag.put ((Ag.put ((Ag.put (Ag.base rfl) rfl)) rfl)) rfl) (by rw [hb21]; rfl)
        ·
          refine sbT hb21 ?_
          refine uw rfl rfl rfl rfl ?_
          refine uw rfl rfl rfl rfl ?_
          refine pu rfl rfl rfl rfl rfl ?_
          exact Kg21 _ (Ag.put ((Ag.put ((Ag.put (Ag.base rfl) rfl)) rfl)) rfl) (by rw [hb21]; rfl)
      refine pu rfl rfl rfl rfl rfl ?_
      refine jy [32, 33, 34, 35, 36] [10, 11, 12, 13, 14, 15] 36 (.bool ((r9 && ((a0.Data.length : Int) == (256 : Int))) && (a0.Xid == (0 : Int)))) rfl (fun Kg22 => ?_) (fun j22 => ?_)
      ·
        rcases Bool.eq_false_or_eq_true (r9 && ((a0.Data.length : Int) == (256 : Int))) with hb22 | hb22
        ·
          refine sbT hb22 ?_
          refine fa fa68_2 rfl rfl rfl rfl rfl rfl ?_
          refine ld A17 Try.underlying3 rfl rfl rfl rfl rfl rfl rfl rfl ?_
          refine pu rfl rfl rfl rfl rfl ?_
          refine pu rfl rfl rfl rfl rfl ?_
          exact Kg22 _ (Ag.put ((Ag.put ((Ag.put ((Ag.put (Ag.base rfl) rfl)) rfl)) rfl)) rfl) (by rw [hb22]; rfl)
        ·
          refine sbT hb22 ?_
          refine uw rfl rfl rfl rfl ?_
          refine uw rfl rfl rfl rfl ?_
          refine uw rfl rfl rfl rfl ?_
          refine pu rfl rfl rfl rfl rfl ?_
          exact Kg22 _ (Ag.put ((Ag.put ((Ag.put ((Ag.put (Ag.base rfl) rfl)) rfl)) rfl)) rfl) (by rw [hb22]; rfl)
      refine pu rfl rfl rfl rfl rfl ?_
      refine jy [37, 38, 39, 40, 41] [15] 41 (.bool (((r9 && ((a0.Data.length : Int) == (256 : Int))) && (a0.Xid == (0 : Int))) && (a0.Slot == (0 : Int)))) rfl (fun Kg23 => ?_) (fun j23 => ?_)
      ·
        rcases Bool.eq_false_or_eq_true ((r9 && ((a0.Data.length : Int) == (256 : Int))) && (a0.Xid == (0 : Int))) with hb23 | hb23
        ·
          refine sbT hb23 ?_
          refine fa fa68_4 rfl rfl rfl rfl rfl rfl ?_
          refine ld A17 Try.underlying3 rfl rfl rfl rfl rfl rfl rfl rfl ?_
          refine pu rfl rfl rfl rfl rfl ?_
          refine pu rfl rfl rfl rfl rfl ?_
          exact Kg23 _ (Ag.put ((Ag.put ((Ag.put ((Ag.put (Ag.base rfl) rfl)) rfl)) rfl)) rfl) (by rw [hb23]; rfl)
        ·
          refine sbT hb23 ?_
          refine uw rfl rfl rfl rfl ?_
          refine uw rfl rfl rfl rfl ?_
          refine uw rfl rfl rfl rfl ?_
          refine pu rfl rfl rfl rfl rfl ?_
          exact Kg23 _ (Ag.put ((Ag.put ((Ag.put ((Ag.put (Ag.base rfl) rfl)) rfl)) rfl)) rfl) (by rw [hb23]; rfl)
      refine pu rfl rfl rfl rfl rfl ?_
      refine dn ?_
      exact re rfl Try.func48 rfl (r_t rfl r_nil) rfl ⟨_, rfl, rfl, z.ky K18⟩
    ·
      refine sr ?_
      refine pu rfl rfl rfl rfl rfl ?_
      refine pu rfl rfl rfl rfl rfl ?_
      refine dn ?_
      refine cd rfl (fun h24 => ?_) (fun h24 => ?_)
      ·
        refine sr ?_
        refine pu rfl rfl rfl rfl rfl ?_
        refine pu rfl rfl rfl rfl rfl ?_
        refine jy [45, 46, 47] [4, 5, 6, 7, 8, 9, 10, 11, 12, 13, 14, 15] 47 (.bool (r9 && r12)) rfl (fun Kg25 => ?_) (fun j25 => ?_)
        ·
          rcases Bool.eq_false_or_eq_true r9 with hb25 | hb25
          ·
            refine sbT hb25 ?_
            refine pu rfl rfl rfl rfl rfl ?_
            refine pu rfl rfl rfl rfl rfl ?_
            exact Kg25 _ (Ag.put ((Ag.put (Ag.base rfl) rfl)) rfl) (by rw [hb25]; rfl)
          ·
            refine sbT hb25 ?_
            refine uw rfl rfl rfl rfl ?_
            refine pu rfl rfl rfl rfl rfl ?_
            exact Kg25 _ (Ag.put ((Ag.put (Ag.base rfl) rfl)) rfl) (by rw [hb25]; rfl)
        refine pu rfl rfl rfl rfl rfl ?_
        refine jy [48, 49, 50] [7, 8, 9, 10, 11, 12, 13, 14, 15] 50 (.bool ((r9 && r12) && r15)) rfl (fun Kg26 => ?_) (fun j26 => ?_)
        ·
          rcases Bool.eq_false_or_eq_true (r9 && r12) with hb26 | hb26
          ·
            refine sbT hb26 ?_
            refine pu rfl rfl rfl rfl rfl ?_
            refine pu rfl rfl rfl rfl rfl ?_
            exact Kg26 _ (Ag.put ((Ag.put (Ag.base rfl) rfl)) rfl) (by rw [hb26]; rfl)
          ·
            refine sbT hb26 ?_
            refine uw rfl rfl rfl rfl ?_
            refine pu rfl rfl rfl rfl rfl ?_
            exact Kg26 _ (Ag.put ((Ag.put (Ag.base rfl) rfl)) rfl) (by rw [hb26]; rfl)
        refine pu rfl rfl rfl rfl rfl ?_
        refine jy [51, 52, 53, 54] [11, 12, 13, 14, 15] 54 (.bool (((r9 && r12) && r15) && (decide ((a0.Data.length : Int) ≥ (1 : Int))))) rfl (fun Kg27 => ?_) (fun j27 => ?_)
        ·
          rcases Bool.eq_false_or_eq_true ((r9 && r12) && r15) with hb27 | hb27
          ·
            refine sbT hb27 ?_
            refine pu rfl rfl rfl rfl rfl ?_
            refine pu rfl rfl rfl rfl rfl ?_
            refine pu rfl rfl rfl rfl rfl ?_
            exact Kg27 _ (Ag.put ((Ag.put ((Ag.put (Ag.base rfl) rfl)) rfl)) rfl) (by rw [hb27]; rfl)
          ·
            refine sbT hb27 ?_
            refine uw rfl rfl rfl rfl ?_
            refine uw rfl rfl rfl rfl ?_
            refine pu rfl rfl rfl rfl rfl ?_
            exact Kg27 _ (Ag.put ((Ag.put ((Ag.put (Ag.base rfl) rfl)) rfl)) rfl) (by rw [hb27]; rfl)
        refine pu rfl rfl rfl rfl rfl ?_
        refine jy [55, 56, 57, 58] [15] 58 (.bool ((((r9 && r12) && r15) && (decide ((a0.Data.length : Int) ≥ (1 : Int)))) && (decide ((a0.Data.length : Int) ≤ (92 : Int))))) rfl (fun Kg28 => ?_) (fun j28 => ?_)
        ·
          rcases Bool.eq_false_or_eq_true (((r9 && r12) && r15) && (decide ((a0.Data.length : Int) ≥ (1 : Int)))) with hb28 | hb28
          ·
            refine sbT hb28 ?_
            refine pu rfl rfl rfl rfl rfl ?_
            refine pu rfl rfl rfl rfl rfl ?_
            refine pu rfl rfl rfl rfl rfl ?_
            exact Kg28 _ (Ag.put ((Ag.put ((Ag.put (Ag.base rfl) rfl)) rfl)) rfl) (by rw [hb28]; rfl)
          ·
            refine sbT hb28 ?_
            refine uw rfl rfl rfl rfl ?_
            refine uw rfl rfl rfl rfl ?_
            refine pu rfl rfl rfl rfl rfl ?_
            exact Kg28 _ (Ag.put ((Ag.put ((Ag.put (Ag.base rfl) rfl)) rfl)) rfl) (by rw [hb28]; rfl)
        refine pu rfl rfl rfl rfl rfl ?_
        refine dn ?_
        exact re rfl Try.func48 rfl (r_t rfl r_nil) rfl ⟨_, rfl, rfl, z.ky K18⟩
      ·
        refine sr ?_
        refine pu rfl rfl rfl rfl rfl ?_
        refine pu rfl rfl rfl rfl rfl ?_
        refine dn ?_
        refine cd rfl (fun h29 => ?_) (fun h29 => ?_)
        ·
          refine sr ?_
          refine pu rfl rfl rfl rfl rfl ?_
          refine pu rfl rfl rfl rfl rfl ?_
          refine jy [62, 63, 64] [4, 5, 6, 7, 8, 9, 10, 11] 64 (.bool (r9 && r12)) rfl (fun Kg30 => ?_) (fun j30 => ?_)
          ·
            rcases Bool.eq_false_or_eq_true r9 with hb30 | hb30
            ·
              refine sbT hb30 ?_
              refine pu rfl rfl rfl rfl rfl ?_
              refine pu rfl rfl rfl rfl rfl ?_
              exact Kg30 _ (Ag.put ((Ag.put (Ag.base rfl) rfl)) rfl) (by rw [hb30]; rfl)
            ·
              refine sbT hb30 ?_
              refine uw rfl rfl rfl rfl ?_
              refine pu rfl rfl rfl rfl rfl ?_
              exact Kg30 _ (Ag.put ((Ag.put (Ag.base rfl) rfl)) rfl) (by rw [hb30]; rfl)
          refine pu rfl rfl rfl rfl rfl ?_
          refine jy [65, 66, 67] [7, 8, 9, 10, 11] 67 (.bool ((r9 && r12) && r15)) rfl (fun Kg31 => ?_) (fun j31 => ?_)
          ·
            rcases Bool.eq_false_or_eq_true (r9 && r12) with hb31 | hb31
            ·
              refine sbT hb31 ?_
              refine pu rfl rfl rfl rfl rfl ?_
              refine pu rfl rfl rfl rfl rfl ?_
              exact Kg31 _ (Ag.put ((Ag.put (Ag.base rfl) rfl)) rfl) (by rw [hb31]; rfl)
            ·
              refine sbT hb31 ?_
              refine uw rfl rfl rfl rfl ?_
              refine pu rfl rfl rfl rfl rfl ?_
              exact Kg31 _ (Ag.put ((Ag.put (Ag.base rfl) rfl)) rfl) (by rw [hb31]; rfl)
          refine pu rfl rfl rfl rfl rfl ?_
          refine jy [68, 69, 70, 71] [11] 71 (.bool (((r9 && r12) && r15) && ((a0.Data.length : Int) == (0 : Int)))) rfl (fun Kg32 => ?_) (fun j32 => ?_)
          ·
            rcases Bool.eq_false_or_eq_true ((r9 && r12) && r15) with hb32 | hb32
            ·
              refine sbT hb32 ?_
              refine pu rfl rfl rfl rfl rfl ?_
              refine pu rfl rfl rfl rfl rfl ?_
              refine pu rfl rfl rfl rfl rfl ?_
              exact Kg32 _ (Ag.put ((Ag.put ((Ag.put (Ag.base rfl) rfl)) rfl)) rfl) (by rw [hb32]; rfl)
            ·
              refine sbT hb32 ?_
              refine uw rfl rfl rfl rfl ?_
              refine uw rfl rfl rfl rfl ?_
              refine pu rfl rfl rfl rfl rfl ?_
              exact Kg32 _ (Ag.put ((Ag.put ((Ag.put (Ag.base rfl) rfl)) rfl)) rfl) (by rw [hb32]; rfl)
          refine pu rfl rfl rfl rfl rfl ?_
          refine dn ?_
          exact re rfl Try.func48 rfl (r_t rfl r_nil) rfl ⟨_, rfl, rfl, z.ky K18⟩
        ·
          refine sr ?_
          refine pu rfl rfl rfl rfl rfl ?_
          refine pu rfl rfl rfl rfl rfl ?_
          refine dn ?_
          refine cd rfl (fun h33 => ?_) (fun h33 => ?_)
          ·
            refine sr ?_
            refine pu rfl rfl rfl rfl rfl ?_
            refine pu rfl rfl rfl rfl rfl ?_
            refine jy [75, 76, 77] [4, 5, 6, 7, 8, 9, 10, 11, 12, 13] 77 (.bool (r9 && r12)) rfl (fun Kg34 => ?_) (fun j34 => ?_)
            ·
              rcases Bool.eq_false_or_eq_true r9 with hb34 | hb34
              ·
                refine sbT hb34 ?_
                refine pu rfl rfl rfl rfl rfl ?_
                refine pu rfl rfl rfl rfl rfl ?_
                exact Kg34 _ (Ag.put ((Ag.put (Ag.base rfl) rfl)) rfl) (by rw [hb34]; rfl)
              ·
                refine sbT hb34 ?_
                refine uw rfl rfl rfl rfl ?_
                refine pu rfl rfl rfl rfl rfl ?_
                exact Kg34 _ (Ag.put ((Ag.put (Ag.base rfl) rfl)) rfl) (by rw [hb34]; rfl)
            refine pu rfl rfl rfl rfl rfl ?_
            refine jy [78, 79, 80, 81, 82] [9, 10, 11, 12, 13] 82 (.bool ((r9 && r12) && (a0.Xid == (0 : Int)))) rfl (fun Kg35 => ?_) (fun j35 => ?_)
            ·
              rcases Bool.eq_false_or_eq_true (r9 && r12) with hb35 | hb35
              ·
                refine sbT hb35 ?_
                refine fa fa68_2 rfl rfl rfl rfl rfl rfl ?_
                refine ld A17 Try.underlying3 rfl rfl rfl rfl rfl rfl rfl rfl ?_
                refine pu rfl rfl rfl rfl rfl ?_
                refine pu rfl rfl rfl rfl rfl ?_
                exact Kg35 _ (Ag.put ((Ag.put ((Ag.put ((Ag.put (Ag.base rfl) rfl)) rfl)) rfl)) rfl) (by rw [hb35]; rfl)
              ·
                refine sbT hb35 ?_
                refine uw rfl rfl rfl rfl ?_
                refine uw rfl rfl rfl rfl ?_
                refine uw rfl rfl rfl rfl ?_
                refine pu rfl rfl rfl rfl rfl ?_
                exact Kg35 _ (Ag.put ((Ag.put ((Ag.put ((Ag.put (Ag.base rfl) rfl)) rfl)) rfl)) rfl) (by rw [hb35]; rfl)
            refine pu rfl rfl rfl rfl rfl ?_
            refine jy [83, 84, 85, 86] [13] 86 (.bool (((r9 && r12) && (a0.Xid == (0 : Int))) && ((a0.Data.length : Int) == (0 : Int)))) rfl (fun Kg36 => ?_) (fun j36 => ?_)
            ·
              rcases Bool.eq_false_or_eq_true ((r9 && r12) && (a0.Xid == (0 : Int))) with hb36 | hb36
              ·
                refine sbT hb36 ?_
                refine pu rfl rfl rfl rfl rfl ?_
                refine pu rfl rfl rfl rfl rfl ?_
                refine pu rfl rfl rfl rfl rfl ?_
                exact Kg36 _ (Ag.put ((Ag.put ((Ag.put (Ag.base rfl) rfl)) rfl)) rfl) (by rw [hb36]; rfl)
              ·
                refine sbT hb36 ?_
                refine uw rfl rfl rfl rfl ?_
                refine uw rfl rfl rfl rfl ?_
                refine pu rfl rfl rfl rfl rfl ?_
                exact Kg36 _ (Ag.put ((Ag.put ((Ag.put (Ag.base rfl) rfl)) rfl)) rfl) (by rw [hb36]; rfl)
            refine pu rfl rfl rfl rfl rfl ?_
            refine dn ?_
            exact re rfl Try.func48 rfl (r_t rfl r_nil) rfl ⟨_, rfl, rfl, z.ky K18⟩
          ·
            refine sr ?_
            refine pu rfl rfl rfl rfl rfl ?_
            refine pu rfl rfl rfl rfl rfl ?_
            refine dn ?_
            refine cd rfl (fun h37 => ?_) (fun h37 => ?_)
            ·
              refine sr ?_
              refine pu rfl rfl rfl rfl rfl ?_
              refine pu rfl rfl rfl rfl rfl ?_
              refine jy [90, 91, 92, 93, 94] [6, 7, 8, 9, 10, 11, 12, 13, 14, 15] 94 (.bool (r15 && (a0.Page == (0 : Int)))) rfl (fun Kg38 => ?_) (fun j38 => ?_)
              ·
                rcases Bool.eq_false_or_eq_true r15 with hb38 | hb38
                ·
                  refine sbT hb38 ?_
                  refine fa fa68_3 rfl rfl rfl rfl rfl rfl ?_
                  refine ld A17 Try.underlying3 rfl rfl rfl rfl rfl rfl rfl rfl ?_
                  refine pu rfl rfl rfl rfl rfl ?_
                  refine pu rfl rfl rfl rfl rfl ?_
                  exact Kg38 _ (Ag.put ((Ag.put ((Ag.put ((Ag.put (Ag.base rfl) rfl)) rfl)) rfl)) rfl) (by rw [hb38]; rfl)
                ·
                  refine sbT hb38 ?_
                  refine uw rfl rfl rfl rfl ?_
                  refine uw rfl rfl rfl rfl ?_
                  refine uw rfl rfl rfl rfl ?_
                  refine pu rfl rfl rfl rfl rfl ?_
                  exact Kg38 _ (Ag.put ((Ag.put ((Ag.put ((Ag.put (Ag.base rfl) rfl)) rfl)) rfl)) rfl) (by rw [hb38]; rfl)
              refine pu rfl rfl rfl rfl rfl ?_
              refine jy [95, 96, 97, 98, 99] [11, 12, 13, 14, 15] 99 (.bool ((r15 && (a0.Page == (0 : Int))) && (a0.Slot == (0 : Int)))) rfl (fun Kg39 => ?_) (fun j39 => ?_)
              ·
                rcases Bool.eq_false_or_eq_true (r15 && (a0.Page == (0 : Int))) with hb39 | hb39
                ·
                  refine sbT hb39 ?_
                  refine fa fa68_4 rfl rfl rfl rfl rfl rfl ?_
                  refine ld A17 Try.underlying3 rfl rfl rfl rfl rfl rfl rfl rfl ?_
                  refine pu rfl rfl rfl rfl rfl ?_
                  refine pu rfl rfl rfl rfl rfl ?_
                  exact Kg39 _ (Ag.put ((Ag.put ((Ag.put ((Ag.put (Ag.base rfl) rfl)) rfl)) rfl)) rfl) (by rw [hb39]; rfl)
                ·
                  refine sbT hb39 ?_
                  refine uw rfl rfl rfl rfl ?_
                  refine uw rfl rfl rfl rfl ?_
                  refine uw rfl rfl rfl rfl ?_
                  refine pu rfl rfl rfl rfl rfl ?_
                  exact Kg39 _ (Ag.put ((Ag.put ((Ag.put ((Ag.put (Ag.base rfl) rfl)) rfl)) rfl)) rfl) (by rw [hb39]; rfl)
              refine pu rfl rfl rfl rfl rfl ?_
              refine jy [100, 101, 102, 103] [15] 103 (.bool (((r15 && (a0.Page == (0 : Int))) && (a0.Slot == (0 : Int))) && ((a0.Data.length : Int) == (0 : Int)))) rfl (fun Kg40 => ?_) (fun j40 => ?_)
              ·
                rcases Bool.eq_false_or_eq_true ((r15 && (a0.Page == (0 : Int))) && (a0.Slot == (0 : Int))) with hb40 | hb40
                ·
                  refine sbT hb40 ?_
                  refine pu rfl rfl rfl rfl rfl ?_
                  refine pu rfl rfl rfl rfl rfl ?_
                  refine pu rfl rfl rfl rfl rfl ?_
                  exact Kg40 _ (Ag.put ((Ag.put ((Ag.put (Ag.base rfl) rfl)) rfl)) rfl) (by rw [hb40]; rfl)
                ·
                  refine sbT hb40 ?_
                  refine uw rfl rfl rfl rfl ?_
                  refine uw rfl rfl rfl rfl ?_
                  refine pu rfl rfl rfl rfl rfl ?_
                  exact Kg40 _ (Ag.put ((Ag.put ((Ag.put (Ag.base rfl) rfl)) rfl)) rfl) (by rw [hb40]; rfl)
              refine pu rfl rfl rfl rfl rfl ?_
              refine dn ?_
              exact re rfl Try.func48 rfl (r_t rfl r_nil) rfl ⟨_, rfl, rfl, z.ky K18⟩
            ·
              refine sk ?_
              refine ib ?_
              refine sr ?_
              refine pu rfl rfl rfl rfl rfl ?_
              refine dn ?_
              exact re rfl Try.func48 rfl (r_t rfl r_nil) rfl ⟨_, rfl, rfl, z.ky K18⟩
noncomputable def spec_StatusSet.b0 (a1 : Int) (a2 : Int) (x19 : (List Int)) : Option ((List Int) ⊕ ((List Int) × Bool)) :=
  (if (decide ((x19.length : Int) ≤ a1)) = true then (if x19.length + ([(0 : Int)]).length ≤ Lim then (some (.inl (x19 ++ [(0 : Int)]))) else none) else ((if 0 ≤ a1 ∧ a1 < (x19.length : Int) then (some ((x19.set (a1).toNat a2), true)) else none).bind fun o => some (.inr o)))
noncomputable def spec_StatusSet.f (a0 : (List Int)) (a1 : Int) (a2 : Int) : Option ((List Int) × Bool) :=
  ((if (decide ((a0.length : Int) > (401 : Int))) = true then (some true) else ((spec_l5in.f a1 (1 : Int) (400 : Int)).bind fun r3 => (some (!r3)))).bind fun y2 => ((if y2 = true then (some true) else ((spec_l5in.f a2 (0 : Int) (2 : Int)).bind fun r8 => (some (!r8)))).bind fun y7 => (if y7 = true then (some (([] : (List Int)), false)) else (if ([] : (List Int)).length + a0.length ≤ Lim then (iter (spec_StatusSet.b0 a1 a2) (([] : (List Int)) ++ a0)) else none))))
def spec_StatusSet.Q (w : World) (F : Nat → Prop) (r : (List Int) × Bool) (v : Value) (w' : World) : Prop :=
  ∃ (v0 : Value), v = .tuple #[v0, (.bool r.2)] ∧ FO (Kd.sl 3 (Kd.int .i64)) w w' [v0] r.1 ∧ Ky [] w w'
set_option maxHeartbeats 4000000 in
set_option maxRecDepth 100000 in
theorem spec_StatusSet.calls (a0 : (List Int)) (a1 : Int) (a2 : Int) (w : World) (F : Nat → Prop) (w0_0 : Value) (h0_0 : (Kd.sl 3 (Kd.int .i64)).rd w [w0_0] a0 F) (r : (List Int) × Bool) (m : spec_StatusSet.f a0 a1 a2 = some r) :
    Calls Try.prog 49 #[w0_0, (.int .i64 a1), (.int .i64 a2)] w fun en w' => ∃ v, en = .returned v ∧ spec_StatusSet.Q w F r v w' := by
  obtain ⟨s0, rfl, kp0, z⟩ := start0 w F
  have A0_0 := z.rd h0_0
  refine calls_of_TM (args := [w0_0, (.int .i64 a1), (.int .i64 a2)]) (R := fun r en w' => ∃ v, en = .returned v ∧ spec_StatusSet.Q s0.w F r v w') Try.func49 Try.ntmps49 rfl rfl m ?_
  unfold spec_StatusSet.f
  refine sr ?_
  refine pu rfl rfl rfl rfl rfl ?_
  refine pu rfl rfl rfl rfl rfl ?_
  refine dn ?_
  refine sq ?_
  refine sr ?_
  refine mv w0_0 rfl rfl rfl rfl rfl rfl ?_
  refine ln A0_0 Try.underlying37 rfl rfl rfl rfl rfl rfl ?_
  refine pu rfl rfl rfl rfl rfl ?_
  refine pu rfl rfl rfl rfl rfl ?_
  refine ji [8, 9, 10, 11, 12] (fun (y2 : Bool) (e : Env) (w : World) => ∃ (s : St) (e0 : Env), w = s.w ∧ e = upd (upd (upd (upd e0 0 w0_0) 1 (.int .i64 a1)) 2 (.int .i64 a2)) 16 (.bool y2) ∧ Kp s0 s) (fun Gj2 Kj2 => ?_) ?_
  ·
    rcases Bool.eq_false_or_eq_true (decide ((a0.length : Int) > (401 : Int))) with hb2 | hb2
    ·
      refine sbT hb2 ?_
      rw [if_pos hb2]
      refine uw rfl rfl rfl rfl ?_
      refine uw rfl rfl rfl rfl ?_
      refine uw rfl rfl rfl rfl ?_
      refine pu rfl rfl rfl rfl rfl ?_
      exact Kj2 _ _ _ ⟨s0, _, rfl, (ue (ue (ue (ue rfl rfl) rfl) rfl) rfl), kp0⟩
    ·
      refine sbT hb2 ?_
      rw [if_neg (by rw [hb2]; decide)]
      refine pu rfl rfl rfl rfl rfl ?_
      refine cl rfl rfl rfl rfl rfl Try.func30 rfl rfl rfl (fun r3 m3 => spec_l5in.calls a1 (1 : Int) (400 : Int) s0.w (fun b => memb [] (s0.g b) = true)  r3 m3) ?_
      rintro r3 _ w3 m3 ⟨rfl, ky3⟩
      obtain ⟨s4, rfl, p4, n4⟩ := nwx s0 w3 10 ky3
      refine pu rfl rfl rfl rfl rfl ?_
      refine pu rfl rfl rfl rfl rfl ?_
      have K5 := (kp0.st p4 rfl)
      exact Kj2 _ _ _ ⟨s4, _, rfl, (ue (ue (ue (ue rfl rfl) rfl) rfl) rfl), K5⟩
  rintro y2 _ _ ⟨s6, _, rfl, rfl, Ky2⟩
  refine pu rfl rfl rfl rfl rfl ?_
  refine ji [] (fun (y7 : Bool) (e : Env) (w : World) => ∃ (s : St) (e0 : Env), w = s.w ∧ e = upd (upd (upd (upd e0 0 w0_0) 1 (.int .i64 a1)) 2 (.int .i64 a2)) 21 (.bool y7) ∧ Kp s0 s) (fun Gj7 Kj7 => ?_) ?_
  ·
    rcases Bool.eq_false_or_eq_true y2 with hb7 | hb7
    ·
      refine sbT hb7 ?_
      rw [if_pos hb7]
      refine uw rfl rfl rfl rfl ?_
      refine uw rfl rfl rfl rfl ?_
      refine uw rfl rfl rfl rfl ?_
      refine pu rfl rfl rfl rfl rfl ?_
      exact Kj7 _ _ _ ⟨s6, _, rfl, (ue (ue (ue (ue rfl rfl) rfl) rfl) rfl), Ky2⟩
    ·
      refine sbT hb7 ?_
      rw [if_neg (by rw [hb7]; decide)]
      refine pu rfl rfl rfl rfl rfl ?_
      refine cl rfl rfl rfl rfl rfl Try.func30 rfl rfl rfl (fun r8 m8 => spec_l5in.calls a2 (0 : Int) (2 : Int) s6.w (fun b => memb [] (s6.g b) = true)  r8 m8) ?_
      rintro r8 _ w8 m8 ⟨rfl, ky8⟩
      obtain ⟨s9, rfl, p9, n9⟩ := nwx s6 w8 11 ky8
      refine pu rfl rfl rfl rfl rfl ?_
      refine pu rfl rfl rfl rfl rfl ?_
      have K10 := (Ky2.st p9 rfl)
      exact Kj7 _ _ _ ⟨s9, _, rfl, (ue (ue (ue (ue rfl rfl) rfl) rfl) rfl), K10⟩
  rintro y7 _ _ ⟨s11, _, rfl, rfl, Ky7⟩
  refine dn ?_
  refine cd rfl (fun h12 => ?_) (fun h12 => ?_)
  ·
    refine sr ?_
    refine pu rfl rfl rfl rfl rfl ?_
    refine pu rfl rfl rfl rfl rfl ?_
    refine dn ?_
    exact re rfl Try.func49 rfl (r_t rfl (r_t rfl r_nil)) rfl ⟨_, rfl, (.slice none 0 0), rfl, (ow_nil 3 (Kd.int .i64) s11 10).fo Ky7 rfl, z.ky Ky7⟩
  ·
    refine sk ?_
    refine sr ?_
    refine lt0 (K := (Kd.int .i64)) 12 Try.underlying37 z3 rfl rfl rfl rfl rfl (fun v13 s13 p13 A13 => ?_)
    refine mv w0_0 rfl rfl rfl rfl rfl rfl ?_
    have K15 := (Ky7.st p13 rfl)
    have A16 := (A0_0.kp K15)
    refine apF fl_int sl37 A13 A16 rfl rfl rfl rfl rfl rfl rfl (fun v17 s17 p17 A17 => ?_)
    refine asg v17 rfl rfl rfl rfl rfl rfl ?_
    refine dn ?_
    refine sq ?_
    refine bl ?_
    have K20 := (K15.st p17 rfl)
    refine lpI (fun (x19 : (List Int)) (e : Env) (w : World) => ∃ (s : St) (e0 : Env) (vx19_0 : Value), w = s.w ∧ e = upd (upd (upd e0 1 (.int .i64 a1)) 2 (.int .i64 a2)) 8 vx19_0 ∧ Kp s0 s ∧ OwF (Kd.sl 3 (Kd.int .i64)) s [vx19_0] x19 12) ⟨s17, _, v17, rfl, (ue (ue (ue rfl rfl) rfl) rfl), K20, A17⟩ (fun g19 ih19 => ?_)
    rintro x19 _ _ ⟨s21, _, vx19_0, rfl, rfl, Kx19, Ax19_0⟩
    unfold spec_StatusSet.b0
    refine sq ?_
    refine sr ?_
    refine mv vx19_0 rfl rfl rfl rfl rfl rfl ?_
    refine ln Ax19_0.rd Try.underlying37 rfl rfl rfl rfl rfl rfl ?_
    refine pu rfl rfl rfl rfl rfl ?_
    refine pu rfl rfl rfl rfl rfl ?_
    refine dn ?_
    refine cd rfl (fun h23 => ?_) (fun h23 => ?_)
    ·
      refine sk ?_
      refine bl ?_
      refine rg ?_
      refine mv vx19_0 rfl rfl rfl rfl rfl rfl ?_
      refine ltF (K := (Kd.int .i64)) (cells := [(.int .i64 (0 : Int))]) [(0 : Int)] 13 fl_int Try.underlying37 z3 o3 (fun w => (els_flat _ _ _)) rfl rfl rfl rfl rfl rfl rfl rfl rfl rfl (fun v24 s24 p24 A24 => ?_)
      have A26 := (Ax19_0.st p24 rfl)
      refine apF fl_int sl37 A26 A24.rd rfl rfl rfl rfl rfl rfl rfl (fun v27 s27 p27 A27 => ?_)
      refine asg v27 rfl rfl rfl rfl rfl rfl ?_
      refine dn ?_
      refine ib ?_
      have K29 := ((Kx19.st p24 rfl).st p27 rfl)
      exact lb ih19 ⟨s27, _, v27, rfl, (ue (ue (ue rfl rfl) rfl) rfl), K29, A27⟩
    ·
      refine xt rfl ?_
      refine sgb ?_
      refine sr ?_
      refine mv vx19_0 rfl rfl rfl rfl rfl rfl ?_
      refine pu rfl rfl rfl rfl rfl ?_
      refine pu rfl rfl rfl rfl rfl ?_
      refine ix Ax19_0.rd Try.underlying37 z3 rfl rfl rfl rfl rfl rfl rfl rfl (fun ad30 es30 h0_30 h1_30 he30 ce30 ia30 => ?_)
      obtain rfl := he30
      refine so (x' := a2) Ax19_0 ia30 h0_30 h1_30 cs_flat z3 rfl rfl rfl rfl rfl rfl (fun s32 p32 A32 => ?_)
      refine dn ?_
      refine sr ?_
      refine mv vx19_0 rfl rfl rfl rfl rfl rfl ?_
      refine asg vx19_0 rfl rfl rfl rfl rfl rfl ?_
      refine pu rfl rfl rfl rfl rfl ?_
      refine dn ?_
      have K34 := (Kx19.st p32 rfl)
      exact re rfl Try.func49 rfl (r_t rfl (r_t rfl r_nil)) rfl ⟨_, rfl, vx19_0, rfl, A32.fo K34 rfl, z.ky K34⟩
noncomputable def spec_StatusOf.f (a0 : (List Int)) (a1 : Int) : Option (Int) :=
  ((spec_l5in.f a1 (1 : Int) (400 : Int)).bind fun r2 => ((if ((!r2) || (decide (a1 ≥ (a0.length : Int)))) = true then (some true) else (if 0 ≤ a1 ∧ a1 < (a0.length : Int) then ((spec_l5in.f (at_ a0 a1) (1 : Int) (2 : Int)).bind fun r13 => (some (!r13))) else none)).bind fun y7 => (if y7 = true then (some (0 : Int)) else (if 0 ≤ a1 ∧ a1 < (a0.length : Int) then (some (at_ a0 a1)) else none))))
def spec_StatusOf.Q (w : World) (F : Nat → Prop) (r : Int) (v : Value) (w' : World) : Prop :=
  v = (.int .i64 r) ∧ Ky [] w w'
set_option maxHeartbeats 4000000 in
set_option maxRecDepth 100000 in
theorem spec_StatusOf.calls (a0 : (List Int)) (a1 : Int) (w : World) (F : Nat → Prop) (w0_0 : Value) (h0_0 : (Kd.sl 3 (Kd.int .i64)).rd w [w0_0] a0 F) (r : Int) (m : spec_StatusOf.f a0 a1 = some r) :
    Calls Try.prog 64 #[w0_0, (.int .i64 a1)] w fun en w' => ∃ v, en = .returned v ∧ spec_StatusOf.Q w F r v w' := by
  obtain ⟨s0, rfl, kp0, z⟩ := start0 w F
  have A0_0 := z.rd h0_0
  refine calls_of_TM (args := [w0_0, (.int .i64 a1)]) (R := fun r en w' => ∃ v, en = .returned v ∧ spec_StatusOf.Q s0.w F r v w') Try.func64 Try.ntmps64 rfl rfl m ?_
  unfold spec_StatusOf.f
  refine sr ?_
  refine pu rfl rfl rfl rfl rfl ?_
  refine dn ?_
  refine sq ?_
  refine sr ?_
  refine pu rfl rfl rfl rfl rfl ?_
  refine cl rfl rfl rfl rfl rfl Try.func30 rfl rfl rfl (fun r2 m2 => spec_l5in.calls a1 (1 : Int) (400 : Int) s0.w (fun b => memb [] (s0.g b) = true)  r2 m2) ?_
  rintro r2 _ w2 m2 ⟨rfl, ky2⟩
  obtain ⟨s3, rfl, p3, n3⟩ := nwx s0 w2 10 ky2
  refine pu rfl rfl rfl rfl rfl ?_
  refine pu rfl rfl rfl rfl rfl ?_
  refine jy [8, 9, 10, 11, 12, 13] [9, 10, 11, 12, 13, 14, 15, 16] 13 (.bool ((!r2) || (decide (a1 ≥ (a0.length : Int))))) rfl (fun Kg4 => ?_) (fun j4 => ?_)
  ·
    rcases Bool.eq_false_or_eq_true (!r2) with hb4 | hb4
    ·
      refine sbT hb4 ?_
      refine uw rfl rfl rfl rfl ?_
      refine uw rfl rfl rfl rfl ?_
      refine uw rfl rfl rfl rfl ?_
      refine uw rfl rfl rfl rfl ?_
      refine pu rfl rfl rfl rfl rfl ?_
      exact Kg4 _ (Ag.put ((Ag.put ((Ag.put ((Ag.put ((Ag.put (Ag.base rfl) rfl)) rfl)) rfl)) rfl)) rfl) (by rw [hb4]; rfl)
    ·
      refine sbT hb4 ?_
      refine pu rfl rfl rfl rfl rfl ?_
      refine mv w0_0 rfl rfl rfl rfl rfl rfl ?_
      have K5 := (kp0.st p3 rfl)
      have A6 := (A0_0.kp K5)
      refine ln A6 Try.underlying37 rfl rfl rfl rfl rfl rfl ?_
      refine pu rfl rfl rfl rfl rfl ?_
      refine pu rfl rfl rfl rfl rfl ?_
      exact Kg4 _ (Ag.put ((Ag.put ((Ag.put ((Ag.put ((Ag.put (Ag.base rfl) rfl)) rfl)) rfl)) rfl)) rfl) (by rw [hb4]; rfl)
  refine pu rfl rfl rfl rfl rfl ?_
  refine ji [] (fun (y7 : Bool) (e : Env) (w : World) => ∃ (s : St) (e0 : Env), w = s.w ∧ e = upd (upd (upd e0 0 w0_0) 1 (.int .i64 a1)) 21 (.bool y7) ∧ Kp s0 s) (fun Gj7 Kj7 => ?_) ?_
  ·
    rcases Bool.eq_false_or_eq_true ((!r2) || (decide (a1 ≥ (a0.length : Int)))) with hb7 | hb7
    ·
      refine sbT hb7 ?_
      rw [if_pos hb7]
      refine uw rfl rfl rfl rfl ?_
      refine uw rfl rfl rfl rfl ?_
      refine uw rfl rfl rfl rfl ?_
      refine uw rfl rfl rfl rfl ?_
      refine uw rfl rfl rfl rfl ?_
      refine uw rfl rfl rfl rfl ?_
      refine pu rfl rfl rfl rfl rfl ?_
      have K8 := (kp0.st p3 rfl)
      exact Kj7 _ _ _ ⟨s3, _, rfl, (ue (ue (ue rfl rfl) rfl) rfl), K8⟩
    ·
      refine sbT hb7 ?_
      rw [if_neg (by rw [hb7]; decide)]
      refine mv w0_0 rfl rfl rfl rfl rfl rfl ?_
      refine pu rfl rfl rfl rfl rfl ?_
      have K9 := (kp0.st p3 rfl)
      have A10 := (A0_0.kp K9)
      refine ix A10 Try.underlying37 z3 rfl rfl rfl rfl rfl rfl rfl rfl (fun ad11 es11 h0_11 h1_11 he11 ce11 ia11 => ?_)
      obtain rfl := he11
      refine lc0 ce11 Try.underlying3 rfl rfl rfl rfl rfl rfl rfl rfl ?_
      refine cl rfl rfl rfl rfl rfl Try.func30 rfl rfl rfl (fun r13 m13 => spec_l5in.calls (at_ a0 a1) (1 : Int) (2 : Int) s3.w (fun b => memb [] (s3.g b) = true)  r13 m13) ?_
      rintro r13 _ w13 m13 ⟨rfl, ky13⟩
      obtain ⟨s14, rfl, p14, n14⟩ := nwx s3 w13 11 ky13
      refine pu rfl rfl rfl rfl rfl ?_
      refine pu rfl rfl rfl rfl rfl ?_
      have K15 := (K9.st p14 rfl)
      exact Kj7 _ _ _ ⟨s14, _, rfl, (ue (ue (ue rfl rfl) rfl) rfl), K15⟩
  rintro y7 _ _ ⟨s16, _, rfl, rfl, Ky7⟩
  refine dn ?_
  refine cd rfl (fun h17 => ?_) (fun h17 => ?_)
  ·
    refine sr ?_
    refine pu rfl rfl rfl rfl rfl ?_
    refine dn ?_
    exact re rfl Try.func64 rfl (r_t rfl r_nil) rfl ⟨_, rfl, rfl, z.ky Ky7⟩
  ·
    refine sk ?_
    refine sr ?_
    refine mv w0_0 rfl rfl rfl rfl rfl rfl ?_
    refine pu rfl rfl rfl rfl rfl ?_
    have A18 := (A0_0.kp Ky7)
    refine ix A18 Try.underlying37 z3 rfl rfl rfl rfl rfl rfl rfl rfl (fun ad19 es19 h0_19 h1_19 he19 ce19 ia19 => ?_)
    obtain rfl := he19
    refine lc0 ce19 Try.underlying3 rfl rfl rfl rfl rfl rfl rfl rfl ?_
    refine pu rfl rfl rfl rfl rfl ?_
    refine dn ?_
    exact re rfl Try.func64 rfl (r_t rfl r_nil) rfl ⟨_, rfl, rfl, z.ky Ky7⟩
noncomputable def spec_StatusSettle.b0 (a0 : (List Int)) (a1 : Int) (x6 : (List Int) × Int) : Option (((List Int) × Int) ⊕ (List Int)) :=
  (if (decide (x6.2 < a1)) = true then ((spec_StatusOf.f a0 x6.2).bind fun r12 => ((if (r12 == (1 : Int)) = true then (some (1 : Int)) else (some (2 : Int))).bind fun y14 => ((if (x6.2 == (0 : Int)) = true then (some (0 : Int)) else (some y14)).bind fun y21 => (if x6.1.length + ([y21]).length ≤ Lim then (some (.inl ((x6.1 ++ [y21]), (IntKind.wrap .i64 (x6.2 + (1 : Int)))))) else none)))) else ((some x6.1).bind fun o => some (.inr o)))
noncomputable def spec_StatusSettle.f (a0 : (List Int)) (a1 : Int) : Option ((List Int)) :=
  ((spec_l5in.f a1 (0 : Int) (401 : Int)).bind fun r2 => (if (!r2) = true then (some ([] : (List Int))) else (iter (spec_StatusSettle.b0 a0 a1) (([] : (List Int)), (0 : Int)))))
def spec_StatusSettle.Q (w : World) (F : Nat → Prop) (r : (List Int)) (v : Value) (w' : World) : Prop :=
  FO (Kd.sl 3 (Kd.int .i64)) w w' [v] r ∧ Ky [] w w'
set_option maxHeartbeats 4000000 in
set_option maxRecDepth 100000 in
theorem spec_StatusSettle.calls (a0 : (List Int)) (a1 : Int) (w : World) (F : Nat → Prop) (w0_0 : Value) (h0_0 : (Kd.sl 3 (Kd.int .i64)).rd w [w0_0] a0 F) (r : (List Int)) (m : spec_StatusSettle.f a0 a1 = some r) :
    Calls Try.prog 50 #[w0_0, (.int .i64 a1)] w fun en w' => ∃ v, en = .returned v ∧ spec_StatusSettle.Q w F r v w' := by
  obtain ⟨s0, rfl, kp0, z⟩ := start0 w F
  have A0_0 := z.rd h0_0
  refine calls_of_TM (args := [w0_0, (.int .i64 a1)]) (R := fun r en w' => ∃ v, en = .returned v ∧ spec_StatusSettle.Q s0.w F r v w') Try.func50 Try.ntmps50 rfl rfl m ?_
  unfold spec_StatusSettle.f
  refine sr ?_
  refine pu rfl rfl rfl rfl rfl ?_
  refine dn ?_
  refine sr ?_
  refine pu rfl rfl rfl rfl rfl ?_
  refine dn ?_
  refine sq ?_
  refine sr ?_
  refine pu rfl rfl rfl rfl rfl ?_
  refine cl rfl rfl rfl rfl rfl Try.func30 rfl rfl rfl (fun r2 m2 => spec_l5in.calls a1 (0 : Int) (401 : Int) s0.w (fun b => memb [] (s0.g b) = true)  r2 m2) ?_
  rintro r2 _ w2 m2 ⟨rfl, ky2⟩
  obtain ⟨s3, rfl, p3, n3⟩ := nwx s0 w2 10 ky2
  refine pu rfl rfl rfl rfl rfl ?_
  refine dn ?_
  refine cd rfl (fun h4 => ?_) (fun h4 => ?_)
  ·
    refine sr ?_
    refine pu rfl rfl rfl rfl rfl ?_
    refine pu rfl rfl rfl rfl rfl ?_
    refine dn ?_
    have K5 := (kp0.st p3 rfl)
    exact re rfl Try.func50 rfl (r_t rfl r_nil) rfl ⟨_, rfl, (ow_nil 3 (Kd.int .i64) s3 10).fo K5 rfl, z.ky K5⟩
  ·
    refine sk ?_
    refine sq ?_
    refine sr ?_
    refine pu rfl rfl rfl rfl rfl ?_
    refine dn ?_
    refine bl ?_
    have K7 := (kp0.st p3 rfl)
    refine lpI (fun (x6 : (List Int) × Int) (e : Env) (w : World) => ∃ (s : St) (e0 : Env) (vx6_0 : Value), w = s.w ∧ e = upd (upd (upd (upd e0 0 w0_0) 1 (.int .i64 a1)) 5 vx6_0) 6 (.int .i64 x6.2) ∧ Kp s0 s ∧ OwF (Kd.sl 3 (Kd.int .i64)) s [vx6_0] x6.1 11) ⟨s3, _, (.slice none 0 0), rfl, (ue (ue (ue (ue rfl rfl) rfl) rfl) rfl), K7, (ow_nil 3 (Kd.int .i64) _ 11)⟩ (fun g6 ih6 => ?_)
    rintro x6 _ _ ⟨s8, _, vx6_0, rfl, rfl, Kx6, Ax6_0⟩
    unfold spec_StatusSettle.b0
    refine sq ?_
    refine sr ?_
    refine pu rfl rfl rfl rfl rfl ?_
    refine pu rfl rfl rfl rfl rfl ?_
    refine pu rfl rfl rfl rfl rfl ?_
    refine dn ?_
    refine cd rfl (fun h10 => ?_) (fun h10 => ?_)
    ·
      refine sk ?_
      refine sq ?_
      refine bl ?_
      refine sr ?_
      refine pu rfl rfl rfl rfl rfl ?_
      refine dn ?_
      refine sq ?_
      refine sr ?_
      refine mv w0_0 rfl rfl rfl rfl rfl rfl ?_
      refine pu rfl rfl rfl rfl rfl ?_
      have A11 := (A0_0.kp Kx6)
      refine cl rfl rfl rfl rfl rfl Try.func64 rfl rfl rfl (fun r12 m12 => spec_StatusOf.calls a0 x6.2 s8.w (fun b => memb [0] (s8.g b) = true) w0_0 A11 r12 m12) ?_
      rintro r12 _ w12 m12 ⟨rfl, ky12⟩
      obtain ⟨s13, rfl, p13, n13⟩ := nwx s8 w12 12 ky12
      refine pu rfl rfl rfl rfl rfl ?_
      refine dn ?_
      refine jc (fun (y14 : Int) (e : Env) (w : World) => ∃ (s : St) (e0 : Env), w = s.w ∧ e = upd (upd (upd (upd (upd e0 0 w0_0) 1 (.int .i64 a1)) 5 vx6_0) 6 (.int .i64 x6.2)) 7 (.int .i64 y14) ∧ Kp s0 s ∧ OwF (Kd.sl 3 (Kd.int .i64)) s [vx6_0] x6.1 11) (fun Gj14 Kj14 => ?_) ?_
      ·
        refine cd rfl (fun h15 => ?_) (fun h15 => ?_)
        ·
          refine rg ?_
          refine pu rfl rfl rfl rfl rfl ?_
          refine dn ?_
          have A16 := (Ax6_0.st p13 rfl)
          have K17 := (Kx6.st p13 rfl)
          exact Kj14 _ _ _ ⟨s13, _, rfl, (ue (ue (ue (ue (ue rfl rfl) rfl) rfl) rfl) rfl), K17, A16⟩
        ·
          refine sk ?_
          have A18 := (Ax6_0.st p13 rfl)
          have K19 := (Kx6.st p13 rfl)
          exact Kj14 _ _ _ ⟨s13, _, rfl, (ue (ue (ue (ue (ue rfl rfl) rfl) rfl) rfl) rfl), K19, A18⟩
      rintro y14 _ _ ⟨s20, _, rfl, rfl, Ky14, Cy14_9⟩
      refine sq ?_
      refine sr ?_
      refine pu rfl rfl rfl rfl rfl ?_
      refine pu rfl rfl rfl rfl rfl ?_
      refine dn ?_
      refine jc (fun (y21 : Int) (e : Env) (w : World) => ∃ (s : St) (e0 : Env), w = s.w ∧ e = upd (upd (upd (upd (upd e0 0 w0_0) 1 (.int .i64 a1)) 5 vx6_0) 6 (.int .i64 x6.2)) 7 (.int .i64 y21) ∧ Kp s0 s ∧ OwF (Kd.sl 3 (Kd.int .i64)) s [vx6_0] x6.1 11) (fun Gj21 Kj21 => ?_) ?_
      ·
        refine cd rfl (fun h22 => ?_) (fun h22 => ?_)
        ·
          refine rg ?_
          refine pu rfl rfl rfl rfl rfl ?_
          refine dn ?_
          exact Kj21 _ _ _ ⟨s20, _, rfl, (ue (ue (ue (ue (ue rfl rfl) rfl) rfl) rfl) rfl), Ky14, Cy14_9⟩
        ·
          refine sk ?_
          exact Kj21 _ _ _ ⟨s20, _, rfl, (ue (ue (ue (ue (ue rfl rfl) rfl) rfl) rfl) rfl), Ky14, Cy14_9⟩
      rintro y21 _ _ ⟨s23, _, rfl, rfl, Ky21, Cy21_9⟩
      refine rg ?_
      refine mv vx6_0 rfl rfl rfl rfl rfl rfl ?_
      refine pu rfl rfl rfl rfl rfl ?_
      refine ltF (K := (Kd.int .i64)) (cells := [(.int .i64 y21)]) [y21] 13 fl_int Try.underlying37 z3 o3 (fun w => (els_flat _ _ _)) rfl rfl rfl rfl rfl rfl rfl rfl rfl rfl (fun v24 s24 p24 A24 => ?_)
      have A26 := (Cy21_9.st p24 rfl)
      refine apF fl_int sl37 A26 A24.rd rfl rfl rfl rfl rfl rfl rfl (fun v27 s27 p27 A27 => ?_)
      refine asg v27 rfl rfl rfl rfl rfl rfl ?_
      refine dn ?_
      refine ib ?_
      refine rg ?_
      refine pu rfl rfl rfl rfl rfl ?_
      refine pu rfl rfl rfl rfl rfl ?_
      refine pu rfl rfl rfl rfl rfl ?_
      refine dn ?_
      have K29 := ((Ky21.st p24 rfl).st p27 rfl)
      exact lb ih6 ⟨s27, _, v27, rfl, (ue (ue (ue (ue rfl rfl) rfl) rfl) rfl), K29, A27⟩
    ·
      refine xt rfl ?_
      refine sgb ?_
      refine sr ?_
      refine mv vx6_0 rfl rfl rfl rfl rfl rfl ?_
      refine asg vx6_0 rfl rfl rfl rfl rfl rfl ?_
      refine dn ?_
      exact re rfl Try.func50 rfl (r_t rfl r_nil) rfl ⟨_, rfl, Ax6_0.fo Kx6 rfl, z.ky Kx6⟩
noncomputable def spec_RedoList.b0 (a1 : (List Record)) (x15 : Int × (List Int) × Int) : Option ((Int × (List Int) × Int) ⊕ ((List Int) × Int)) :=
  (if (decide (x15.2.2 < (a1.length : Int))) = true then (if 0 ≤ x15.2.2 ∧ x15.2.2 < (a1.length : Int) then ((spec_RecordOk.f (at_ a1 x15.2.2)).bind fun r24 => (if (!r24) = true then (some (.inr (([] : (List Int)), (0 : Int)))) else (if 0 ≤ x15.2.2 ∧ x15.2.2 < (a1.length : Int) then ((if (decide ((at_ a1 x15.2.2).Xid ≥ x15.1)) = true then (if 0 ≤ x15.2.2 ∧ x15.2.2 < (a1.length : Int) then (some (IntKind.wrap .i64 ((at_ a1 x15.2.2).Xid + (1 : Int)))) else none) else (some x15.1)).bind fun y33 => (if 0 ≤ x15.2.2 ∧ x15.2.2 < (a1.length : Int) then ((if ((at_ a1 x15.2.2).Kind == (5 : Int)) = true then (if 0 ≤ x15.2.2 ∧ x15.2.2 < (a1.length : Int) then ((spec_StatusSet.f x15.2.1 ((at_ a1 x15.2.2).Xid) (1 : Int)).bind fun r50 => (some r50.1)) else none) else (some x15.2.1)).bind fun y45 => (some (.inl (y33, y45, (IntKind.wrap .i64 (x15.2.2 + (1 : Int))))))) else none)) else none))) else none) else (((spec_StatusSettle.f x15.2.1 x15.1).bind fun r61 => (some (r61, x15.1))).bind fun o => some (.inr o)))
noncomputable def spec_RedoList.f (a0 : (List Int)) (a1 : (List Record)) (a2 : Int) : Option ((List Int) × Int) :=
  ((if (decide ((a0.length : Int) > (401 : Int))) = true then (some true) else ((spec_l5in.f a2 (1 : Int) (401 : Int)).bind fun r4 => (some (!r4)))).bind fun y3 => (if y3 = true then (some (([] : (List Int)), (0 : Int))) else (if ([] : (List Int)).length + a0.length ≤ Lim then (iter (spec_RedoList.b0 a1) (a2, (([] : (List Int)) ++ a0), (0 : Int))) else none)))
def spec_RedoList.Q (w : World) (F : Nat → Prop) (r : (List Int) × Int) (v : Value) (w' : World) : Prop :=
  ∃ (v0 : Value), v = .tuple #[v0, (.int .i64 r.2)] ∧ FO (Kd.sl 3 (Kd.int .i64)) w w' [v0] r.1 ∧ Ky [] w w'
set_option maxHeartbeats 4000000 in
set_option maxRecDepth 100000 in
theorem spec_RedoList.calls (a0 : (List Int)) (a1 : (List Record)) (a2 : Int) (w : World) (F : Nat → Prop) (w0_0 : Value) (w1_0 : Value) (h0_0 : (Kd.sl 3 (Kd.int .i64)).rd w [w0_0] a0 F) (h1_0 : (Kd.sl 68 kd68).rd w [w1_0] a1 F) (r : (List Int) × Int) (m : spec_RedoList.f a0 a1 a2 = some r) :
    Calls Try.prog 21 #[w0_0, w1_0, (.int .i64 a2)] w fun en w' => ∃ v, en = .returned v ∧ spec_RedoList.Q w F r v w' := by
  obtain ⟨s0, rfl, kp0, z⟩ := start0 w F
  have A0_0 := z.rd h0_0
  have A1_0 := z.rd h1_0
  refine calls_of_TM (args := [w0_0, w1_0, (.int .i64 a2)]) (R := fun r en w' => ∃ v, en = .returned v ∧ spec_RedoList.Q s0.w F r v w') Try.func21 Try.ntmps21 rfl rfl m ?_
  unfold spec_RedoList.f
  refine sr ?_
  refine pu rfl rfl rfl rfl rfl ?_
  refine pu rfl rfl rfl rfl rfl ?_
  refine dn ?_
  refine sq ?_
  refine sr ?_
  refine mv w0_0 rfl rfl rfl rfl rfl rfl ?_
  refine ln A0_0 Try.underlying37 rfl rfl rfl rfl rfl rfl ?_
  refine pu rfl rfl rfl rfl rfl ?_
  refine pu rfl rfl rfl rfl rfl ?_
  refine ji [] (fun (y3 : Bool) (e : Env) (w : World) => ∃ (s : St) (e0 : Env), w = s.w ∧ e = upd (upd (upd (upd e0 0 w0_0) 1 w1_0) 2 (.int .i64 a2)) 17 (.bool y3) ∧ Kp s0 s) (fun Gj3 Kj3 => ?_) ?_
  ·
    rcases Bool.eq_false_or_eq_true (decide ((a0.length : Int) > (401 : Int))) with hb3 | hb3
    ·
      refine sbT hb3 ?_
      rw [if_pos hb3]
      refine uw rfl rfl rfl rfl ?_
      refine uw rfl rfl rfl rfl ?_
      refine uw rfl rfl rfl rfl ?_
      refine pu rfl rfl rfl rfl rfl ?_
      exact Kj3 _ _ _ ⟨s0, _, rfl, (ue (ue (ue (ue rfl rfl) rfl) rfl) rfl), kp0⟩
    ·
      refine sbT hb3 ?_
      rw [if_neg (by rw [hb3]; decide)]
      refine pu rfl rfl rfl rfl rfl ?_
      refine cl rfl rfl rfl rfl rfl Try.func30 rfl rfl rfl (fun r4 m4 => spec_l5in.calls a2 (1 : Int) (401 : Int) s0.w (fun b => memb [] (s0.g b) = true)  r4 m4) ?_
      rintro r4 _ w4 m4 ⟨rfl, ky4⟩
      obtain ⟨s5, rfl, p5, n5⟩ := nwx s0 w4 10 ky4
      refine pu rfl rfl rfl rfl rfl ?_
      refine pu rfl rfl rfl rfl rfl ?_
      have K6 := (kp0.st p5 rfl)
      exact Kj3 _ _ _ ⟨s5, _, rfl, (ue (ue (ue (ue rfl rfl) rfl) rfl) rfl), K6⟩
  rintro y3 _ _ ⟨s7, _, rfl, rfl, Ky3⟩
  refine dn ?_
  refine cd rfl (fun h8 => ?_) (fun h8 => ?_)
  ·
    refine sr ?_
    refine pu rfl rfl rfl rfl rfl ?_
    refine pu rfl rfl rfl rfl rfl ?_
    refine dn ?_
    exact re rfl Try.func21 rfl (r_t rfl (r_t rfl r_nil)) rfl ⟨_, rfl, (.slice none 0 0), rfl, (ow_nil 3 (Kd.int .i64) s7 10).fo Ky3 rfl, z.ky Ky3⟩
  ·
    refine sk ?_
    refine sr ?_
    refine lt0 (K := (Kd.int .i64)) 11 Try.underlying37 z3 rfl rfl rfl rfl rfl (fun v9 s9 p9 A9 => ?_)
    refine mv w0_0 rfl rfl rfl rfl rfl rfl ?_
    have K11 := (Ky3.st p9 rfl)
    have A12 := (A0_0.kp K11)
    refine apF fl_int sl37 A9 A12 rfl rfl rfl rfl rfl rfl rfl (fun v13 s13 p13 A13 => ?_)
    refine asg v13 rfl rfl rfl rfl rfl rfl ?_
    refine dn ?_
    refine sq ?_
    refine sr ?_
    refine pu rfl rfl rfl rfl rfl ?_
    refine dn ?_
    refine bl ?_
    have K16 := (K11.st p13 rfl)
    refine lpI (fun (x15 : Int × (List Int) × Int) (e : Env) (w : World) => ∃ (s : St) (e0 : Env) (vx15_0 : Value), w = s.w ∧ e = upd (upd (upd (upd e0 1 w1_0) 2 (.int .i64 x15.1)) 8 vx15_0) 9 (.int .i64 x15.2.2) ∧ Kp s0 s ∧ OwF (Kd.sl 3 (Kd.int .i64)) s [vx15_0] x15.2.1 11) ⟨s13, _, v13, rfl, (ue (ue (ue (ue rfl rfl) rfl) rfl) rfl), K16, A13⟩ (fun g15 ih15 => ?_)
    rintro x15 _ _ ⟨s17, _, vx15_0, rfl, rfl, Kx15, Ax15_0⟩
    unfold spec_RedoList.b0
    refine sq ?_
    refine sr ?_
    refine pu rfl rfl rfl rfl rfl ?_
    refine mv w1_0 rfl rfl rfl rfl rfl rfl ?_
    have A19 := (A1_0.kp Kx15)
    refine ln A19 Try.underlying43 rfl rfl rfl rfl rfl rfl ?_
    refine pu rfl rfl rfl rfl rfl ?_
    refine dn ?_
    refine cd rfl (fun h20 => ?_) (fun h20 => ?_)
    ·
      refine sk ?_
      refine sq ?_
      refine bl ?_
      refine sq ?_
      refine sr ?_
      refine mv w1_0 rfl rfl rfl rfl rfl rfl ?_
      refine pu rfl rfl rfl rfl rfl ?_
      refine ix A19 Try.underlying43 z68 rfl rfl rfl rfl rfl rfl rfl rfl (fun ad21 es21 h0_21 h1_21 he21 ce21 ia21 => ?_)
      obtain ⟨v21_0, rfl, A21_0⟩ := op68 he21
      refine lca ce21 Try.underlying68 z68 rfl rfl rfl rfl rfl rfl rfl ?_
      refine cl rfl rfl rfl rfl rfl Try.func48 rfl rfl rfl (fun r24 m24 => spec_RecordOk.calls (at_ a1 x15.2.2) s17.w (fun b => memb [0] (s17.g b) = true) v21_0 A21_0 r24 m24) ?_
      rintro r24 _ w24 m24 ⟨rfl, ky24⟩
      obtain ⟨s25, rfl, p25, n25⟩ := nwx s17 w24 12 ky24
      refine pu rfl rfl rfl rfl rfl ?_
      refine dn ?_
      refine cd rfl (fun h26 => ?_) (fun h26 => ?_)
      ·
        refine sr ?_
        refine pu rfl rfl rfl rfl rfl ?_
        refine pu rfl rfl rfl rfl rfl ?_
        refine dn ?_
        refine sgi ?_
        have K27 := (Kx15.st p25 rfl)
        exact re rfl Try.func21 rfl (r_t rfl (r_t rfl r_nil)) rfl ⟨_, rfl, (.slice none 0 0), rfl, (ow_nil 3 (Kd.int .i64) s25 10).fo K27 rfl, z.ky K27⟩
      ·
        refine sk ?_
        refine sq ?_
        refine sr ?_
        refine mv w1_0 rfl rfl rfl rfl rfl rfl ?_
        refine pu rfl rfl rfl rfl rfl ?_
        have K28 := (Kx15.st p25 rfl)
        have A29 := (A1_0.kp K28)
        refine ix A29 Try.underlying43 z68 rfl rfl rfl rfl rfl rfl rfl rfl (fun ad30 es30 h0_30 h1_30 he30 ce30 ia30 => ?_)
        obtain ⟨v30_0, rfl, A30_0⟩ := op68 he30
        refine fa fa68_2 rfl rfl rfl rfl rfl rfl ?_
        refine lc ce30 Try.underlying3 rfl rfl rfl rfl rfl rfl rfl rfl ?_
        refine pu rfl rfl rfl rfl rfl ?_
        refine pu rfl rfl rfl rfl rfl ?_
        refine dn ?_
        refine jc (fun (y33 : Int) (e : Env) (w : World) => ∃ (s : St) (e0 : Env), w = s.w ∧ e = upd (upd (upd (upd e0 1 w1_0) 2 (.int .i64 y33)) 8 vx15_0) 9 (.int .i64 x15.2.2) ∧ Kp s0 s ∧ OwF (Kd.sl 3 (Kd.int .i64)) s [vx15_0] x15.2.1 11) (fun Gj33 Kj33 => ?_) ?_
        ·
          refine cd rfl (fun h34 => ?_) (fun h34 => ?_)
          ·
            refine rg ?_
            refine mv w1_0 rfl rfl rfl rfl rfl rfl ?_
            refine pu rfl rfl rfl rfl rfl ?_
            refine ix A29 Try.underlying43 z68 rfl rfl rfl rfl rfl rfl rfl rfl (fun ad35 es35 h0_35 h1_35 he35 ce35 ia35 => ?_)
            obtain ⟨v35_0, rfl, A35_0⟩ := op68 he35
            refine fa fa68_2 rfl rfl rfl rfl rfl rfl ?_
            refine lc ce35 Try.underlying3 rfl rfl rfl rfl rfl rfl rfl rfl ?_
            refine pu rfl rfl rfl rfl rfl ?_
            refine pu rfl rfl rfl rfl rfl ?_
            refine dn ?_
            have A38 := (Ax15_0.st p25 rfl)
            exact Kj33 _ _ _ ⟨s25, _, rfl, (ue (ue (ue (ue rfl rfl) rfl) rfl) rfl), K28, A38⟩
          ·
            refine sk ?_
            have A39 := (Ax15_0.st p25 rfl)
            exact Kj33 _ _ _ ⟨s25, _, rfl, (ue (ue (ue (ue rfl rfl) rfl) rfl) rfl), K28, A39⟩
        rintro y33 _ _ ⟨s40, _, rfl, rfl, Ky33, Cy33_18⟩
        refine sr ?_
        refine mv w1_0 rfl rfl rfl rfl rfl rfl ?_
        refine pu rfl rfl rfl rfl rfl ?_
        have A41 := (A1_0.kp Ky33)
        refine ix A41 Try.underlying43 z68 rfl rfl rfl rfl rfl rfl rfl rfl (fun ad42 es42 h0_42 h1_42 he42 ce42 ia42 => ?_)
        obtain ⟨v42_0, rfl, A42_0⟩ := op68 he42
        refine fa fa68_0 rfl rfl rfl rfl rfl rfl ?_
        refine lc0 ce42 Try.underlying3 rfl rfl rfl rfl rfl rfl rfl rfl ?_
        refine pu rfl rfl rfl rfl rfl ?_
        refine dn ?_
        refine jc (fun (y45 : (List Int)) (e : Env) (w : World) => ∃ (s : St) (e0 : Env) (vy45_0 : Value), w = s.w ∧ e = upd (upd (upd (upd e0 1 w1_0) 2 (.int .i64 y33)) 8 vy45_0) 9 (.int .i64 x15.2.2) ∧ Kp s0 s ∧ OwF (Kd.sl 3 (Kd.int .i64)) s [vy45_0] y45 13) (fun Gj45 Kj45 => ?_) ?_
        ·
          refine cd rfl (fun h46 => ?_) (fun h46 => ?_)
          ·
            refine rg ?_
            refine mv vx15_0 rfl rfl rfl rfl rfl rfl ?_
            refine mv w1_0 rfl rfl rfl rfl rfl rfl ?_
            refine pu rfl rfl rfl rfl rfl ?_
            refine ix A41 Try.underlying43 z68 rfl rfl rfl rfl rfl rfl rfl rfl (fun ad47 es47 h0_47 h1_47 he47 ce47 ia47 => ?_)
            obtain ⟨v47_0, rfl, A47_0⟩ := op68 he47
            refine fa fa68_2 rfl rfl rfl rfl rfl rfl ?_
            refine lc ce47 Try.underlying3 rfl rfl rfl rfl rfl rfl rfl rfl ?_
            refine cl rfl rfl rfl rfl rfl Try.func49 rfl rfl rfl (fun r50 m50 => spec_StatusSet.calls x15.2.1 ((at_ a1 x15.2.2).Xid) (1 : Int) s40.w (fun b => memb [11] (s40.g b) = true) vx15_0 Cy33_18.rd r50 m50) ?_
            rintro r50 _ w50 m50 ⟨v50_0, rfl, f50_0, ky50⟩
            obtain ⟨s51, rfl, p51, n51⟩ := nwx s40 w50 14 ky50
            have A50_0 := f50_0.c n51
            refine pu rfl rfl rfl rfl rfl ?_
            refine pu (v := v50_0) rfl rfl rfl rfl rfl ?_
            refine pu (v := (.bool r50.2)) rfl rfl rfl rfl rfl ?_
            refine asg v50_0 rfl rfl rfl rfl rfl rfl ?_
            refine dn ?_
            obtain ⟨s53, hw53, p53, A53⟩ := A50_0.rc 13 rfl
            rw [hw53]
            have K54 := ((Ky33.st p51 rfl).st p53 rfl)
            exact Kj45 _ _ _ ⟨s53, _, v50_0, rfl, (ue (ue (ue (ue rfl rfl) rfl) rfl) rfl), K54, A53⟩
          ·
            refine sk ?_
            obtain ⟨s55, hw55, p55, A55⟩ := Cy33_18.rc 13 rfl
            rw [hw55]
            have K56 := (Ky33.st p55 rfl)
            exact Kj45 _ _ _ ⟨s55, _, vx15_0, rfl, (ue (ue (ue (ue rfl rfl) rfl) rfl) rfl), K56, A55⟩
        rintro y45 _ _ ⟨s57, _, vy45_0, rfl, rfl, Ky45, Ay45_0⟩
        refine ib ?_
        refine rg ?_
        refine pu rfl rfl rfl rfl rfl ?_
        refine pu rfl rfl rfl rfl rfl ?_
        refine pu rfl rfl rfl rfl rfl ?_
        refine dn ?_
        obtain ⟨s59, hw59, p59, A59⟩ := Ay45_0.rc 11 rfl
        rw [hw59]
        have K60 := (Ky45.st p59 rfl)
        exact lb ih15 ⟨s59, _, vy45_0, rfl, (ue (ue (ue (ue rfl rfl) rfl) rfl) rfl), K60, A59⟩
    ·
      refine xt rfl ?_
      refine sgb ?_
      refine sr ?_
      refine mv vx15_0 rfl rfl rfl rfl rfl rfl ?_
      refine pu rfl rfl rfl rfl rfl ?_
      refine cl rfl rfl rfl rfl rfl Try.func50 rfl rfl rfl (fun r61 m61 => spec_StatusSettle.calls x15.2.1 x15.1 s17.w (fun b => memb [11] (s17.g b) = true) vx15_0 Ax15_0.rd r61 m61) ?_
      rintro r61 v61_0 w61 m61 ⟨f61_0, ky61⟩
      obtain ⟨s62, rfl, p62, n62⟩ := nwx s17 w61 15 ky61
      have A61_0 := f61_0.c n62
      refine pu rfl rfl rfl rfl rfl ?_
      refine asg v61_0 rfl rfl rfl rfl rfl rfl ?_
      refine pu rfl rfl rfl rfl rfl ?_
      refine dn ?_
      have K64 := (Kx15.st p62 rfl)
      exact re rfl Try.func21 rfl (r_t rfl (r_t rfl r_nil)) rfl ⟨_, rfl, v61_0, rfl, A61_0.fo K64 rfl, z.ky K64⟩
noncomputable def impl_areAll_impl_Record_1.f (a0 : Record) (a1 : (Record → Option Bool)) : Option (Bool) :=
  ((a1 a0).bind fun r8 => (some (!r8)))
def impl_areAll_impl_Record_1.Q (w : World) (F : Nat → Prop) (r : Bool) (v : Value) (w' : World) : Prop :=
  v = (.bool r) ∧ Ky [] w w'
set_option maxHeartbeats 4000000 in
set_option maxRecDepth 100000 in
theorem impl_areAll_impl_Record_1.calls (a0 : Record) (a1 : (Record → Option Bool)) (w : World) (F : Nat → Prop) (w0_0 : Value) (c1 : Nat) (f1 : Value) (h0_0 : (Kd.sl 5 (Kd.int .u8)).rd w [w0_0] a0.Data F) (hf1 : ∀ (x0 : Record) (u0_0 : Value) (w' : World), Ky [] w w' → (Kd.sl 5 (Kd.int .u8)).rd w' [u0_0] x0.Data (fun _ => True) → ∀ r, a1 x0 = some r → CallV Try.prog f1 [(.agg #[(.int .i64 x0.Kind), (.int .i64 x0.Lsn), (.int .i64 x0.Xid), (.int .i64 x0.Page), (.int .i64 x0.Slot), u0_0])] w' fun en w'' => ∃ v, en = .returned v ∧ v = (.bool r) ∧ Ky [] w' w'') (ho1 : f1.cells = #[f1]) (hb1 : BlW w c1 67 [f1]) (hp1 : F c1) (r : Bool) (m : impl_areAll_impl_Record_1.f a0 a1 = some r) :
    Calls Try.prog 66 #[(.agg #[(.int .i64 a0.Kind), (.int .i64 a0.Lsn), (.int .i64 a0.Xid), (.int .i64 a0.Page), (.int .i64 a0.Slot), w0_0]), (.pointer (some ⟨c1, 0, none⟩))] w fun en w' => ∃ v, en = .returned v ∧ impl_areAll_impl_Record_1.Q w F r v w' := by
  obtain ⟨s0, rfl, kp0, z⟩ := start0 w F
  have A0_0 := z.rd h0_0
  have B1 := z.b0 hb1 hp1
  refine calls_of_TM (args := [(.agg #[(.int .i64 a0.Kind), (.int .i64 a0.Lsn), (.int .i64 a0.Xid), (.int .i64 a0.Page), (.int .i64 a0.Slot), w0_0]), (.pointer (some ⟨c1, 0, none⟩))]) (R := fun r en w' => ∃ v, en = .returned v ∧ impl_areAll_impl_Record_1.Q s0.w F r v w') Try.func66 Try.ntmps66 rfl rfl m ?_
  unfold impl_areAll_impl_Record_1.f
  refine sr ?_
  refine bx (cs := [(.int .i64 a0.Kind), (.int .i64 a0.Lsn), (.int .i64 a0.Xid), (.int .i64 a0.Page), (.int .i64 a0.Slot), w0_0]) 10 rfl rfl rfl rfl rfl rfl (fun b3 s3 p3 B3 => ?_)
  refine pu rfl rfl rfl rfl rfl ?_
  refine dn ?_
  refine sr ?_
  have A5 := (BlF.st B1 p3 rfl)
  refine ld A5 Try.underlying67 rfl rfl rfl rfl rfl rfl rfl rfl ?_
  refine lda (es := [(.int .i64 a0.Kind), (.int .i64 a0.Lsn), (.int .i64 a0.Xid), (.int .i64 a0.Page), (.int .i64 a0.Slot), w0_0]) B3 Try.underlying68 z68 rfl rfl rfl rfl rfl rfl rfl rfl ?_
  have K6 := (kp0.st p3 rfl)
  have A7 := (A0_0.kp K6)
  refine clv rfl rfl rfl rfl rfl rfl rfl (fun r8 m8 => hf1 a0 w0_0 s3.w (z.ky K6) (RdF.top A7) r8 m8) ?_
  rintro r8 _ w8 m8 ⟨rfl, ky8⟩
  obtain ⟨s9, rfl, p9, n9⟩ := nwx s3 w8 11 ky8
  refine pu rfl rfl rfl rfl rfl ?_
  refine pu rfl rfl rfl rfl rfl ?_
  refine dn ?_
  have K10 := (K6.st p9 rfl)
  exact re rfl Try.func66 rfl (r_t rfl r_nil) rfl ⟨_, rfl, rfl, z.ky K10⟩
noncomputable def slices_IndexFunc_impl_Record_impl_Record.b0 (a0 : (List Record)) (a1 : (Record → Option Bool)) (x2 : Int) : Option (Int ⊕ Int) :=
  (if (decide (x2 < (a0.length : Int))) = true then (if 0 ≤ x2 ∧ x2 < (a0.length : Int) then ((a1 (at_ a0 x2)).bind fun r9 => (if r9 = true then (some (.inr x2)) else (some (.inl (IntKind.wrap .i64 (x2 + (1 : Int))))))) else none) else ((some (-1 : Int)).bind fun o => some (.inr o)))
noncomputable def slices_IndexFunc_impl_Record_impl_Record.f (a0 : (List Record)) (a1 : (Record → Option Bool)) : Option (Int) :=
  (iter (slices_IndexFunc_impl_Record_impl_Record.b0 a0 a1) (0 : Int))
def slices_IndexFunc_impl_Record_impl_Record.Q (w : World) (F : Nat → Prop) (r : Int) (v : Value) (w' : World) : Prop :=
  v = (.int .i64 r) ∧ Ky [] w w'
set_option maxHeartbeats 4000000 in
set_option maxRecDepth 100000 in
theorem slices_IndexFunc_impl_Record_impl_Record.calls (a0 : (List Record)) (a1 : (Record → Option Bool)) (w : World) (F : Nat → Prop) (w0_0 : Value) (f1 : Value) (h0_0 : (Kd.sl 68 kd68).rd w [w0_0] a0 F) (hf1 : ∀ (x0 : Record) (u0_0 : Value) (w' : World), Ky [] w w' → (Kd.sl 5 (Kd.int .u8)).rd w' [u0_0] x0.Data (fun _ => True) → ∀ r, a1 x0 = some r → CallV Try.prog f1 [(.agg #[(.int .i64 x0.Kind), (.int .i64 x0.Lsn), (.int .i64 x0.Xid), (.int .i64 x0.Page), (.int .i64 x0.Slot), u0_0])] w' fun en w'' => ∃ v, en = .returned v ∧ v = (.bool r) ∧ Ky [] w' w'') (ho1 : f1.cells = #[f1]) (r : Int) (m : slices_IndexFunc_impl_Record_impl_Record.f a0 a1 = some r) :
    Calls Try.prog 72 #[w0_0, f1] w fun en w' => ∃ v, en = .returned v ∧ slices_IndexFunc_impl_Record_impl_Record.Q w F r v w' := by
  obtain ⟨s0, rfl, kp0, z⟩ := start0 w F
  have A0_0 := z.rd h0_0
  refine calls_of_TM (args := [w0_0, f1]) (R := fun r en w' => ∃ v, en = .returned v ∧ slices_IndexFunc_impl_Record_impl_Record.Q s0.w F r v w') Try.func72 Try.ntmps72 rfl rfl m ?_
  unfold slices_IndexFunc_impl_Record_impl_Record.f
  refine sr ?_
  refine pu rfl rfl rfl rfl rfl ?_
  refine dn ?_
  refine sq ?_
  refine sr ?_
  refine mv w0_0 rfl rfl rfl rfl rfl rfl ?_
  refine ln A0_0 Try.underlying43 rfl rfl rfl rfl rfl rfl ?_
  refine pu rfl rfl rfl rfl rfl ?_
  refine dn ?_
  refine bl ?_
  refine lpI (fun (x2 : Int) (e : Env) (w : World) => ∃ (s : St) (e0 : Env), w = s.w ∧ e = upd (upd (upd (upd e0 0 w0_0) 1 f1) 7 (.int .i64 (a0.length : Int))) 8 (.int .i64 x2) ∧ Kp s0 s) ⟨s0, _, rfl, (ue (ue (ue (ue rfl rfl) rfl) rfl) rfl), kp0⟩ (fun g2 ih2 => ?_)
  rintro x2 _ _ ⟨s3, _, rfl, rfl, Kx2⟩
  unfold slices_IndexFunc_impl_Record_impl_Record.b0
  refine sr ?_
  refine pu rfl rfl rfl rfl rfl ?_
  refine dn ?_
  refine sq ?_
  refine cd rfl (fun h4 => ?_) (fun h4 => ?_)
  ·
    refine sk ?_
    refine sq ?_
    refine bl ?_
    refine sr ?_
    refine pu rfl rfl rfl rfl rfl ?_
    refine pu rfl rfl rfl rfl rfl ?_
    refine dn ?_
    refine sr ?_
    refine mv f1 rfl rfl rfl rfl rfl rfl ?_
    refine mv w0_0 rfl rfl rfl rfl rfl rfl ?_
    refine pu rfl rfl rfl rfl rfl ?_
    have A5 := (A0_0.kp Kx2)
    refine ix A5 Try.underlying43 z68 rfl rfl rfl rfl rfl rfl rfl rfl (fun ad6 es6 h0_6 h1_6 he6 ce6 ia6 => ?_)
    obtain ⟨v6_0, rfl, A6_0⟩ := op68 he6
    refine lca ce6 Try.underlying68 z68 rfl rfl rfl rfl rfl rfl rfl ?_
    refine clv rfl rfl rfl rfl rfl rfl rfl (fun r9 m9 => hf1 (at_ a0 x2) v6_0 s3.w (z.ky Kx2) (RdF.top A6_0) r9 m9) ?_
    rintro r9 _ w9 m9 ⟨rfl, ky9⟩
    obtain ⟨s10, rfl, p10, n10⟩ := nwx s3 w9 10 ky9
    refine dn ?_
    refine cd rfl (fun h11 => ?_) (fun h11 => ?_)
    ·
      refine sr ?_
      refine pu rfl rfl rfl rfl rfl ?_
      refine pu rfl rfl rfl rfl rfl ?_
      refine dn ?_
      refine sgi ?_
      have K12 := (Kx2.st p10 rfl)
      exact re rfl Try.func72 rfl (r_t rfl r_nil) rfl ⟨_, rfl, rfl, z.ky K12⟩
    ·
      refine sk ?_
      refine ib ?_
      refine rg ?_
      refine pu rfl rfl rfl rfl rfl ?_
      refine pu rfl rfl rfl rfl rfl ?_
      refine dn ?_
      have K13 := (Kx2.st p10 rfl)
      exact lb ih2 ⟨s10, _, rfl, (ue (ue (ue (ue rfl rfl) rfl) rfl) rfl), K13⟩
  ·
    refine xt rfl ?_
    refine sgb ?_
    refine sr ?_
    refine pu rfl rfl rfl rfl rfl ?_
    refine dn ?_
    exact re rfl Try.func72 rfl (r_t rfl r_nil) rfl ⟨_, rfl, rfl, z.ky Kx2⟩
noncomputable def slices_ContainsFunc_impl_Record_impl_Record.f (a0 : (List Record)) (a1 : (Record → Option Bool)) : Option (Bool) :=
  ((slices_IndexFunc_impl_Record_impl_Record.f a0 a1).bind fun r2 => (some (decide (r2 ≥ (0 : Int)))))
def slices_ContainsFunc_impl_Record_impl_Record.Q (w : World) (F : Nat → Prop) (r : Bool) (v : Value) (w' : World) : Prop :=
  v = (.bool r) ∧ Ky [] w w'
set_option maxHeartbeats 4000000 in
set_option maxRecDepth 100000 in
theorem slices_ContainsFunc_impl_Record_impl_Record.calls (a0 : (List Record)) (a1 : (Record → Option Bool)) (w : World) (F : Nat → Prop) (w0_0 : Value) (f1 : Value) (h0_0 : (Kd.sl 68 kd68).rd w [w0_0] a0 F) (hf1 : ∀ (x0 : Record) (u0_0 : Value) (w' : World), Ky [] w w' → (Kd.sl 5 (Kd.int .u8)).rd w' [u0_0] x0.Data (fun _ => True) → ∀ r, a1 x0 = some r → CallV Try.prog f1 [(.agg #[(.int .i64 x0.Kind), (.int .i64 x0.Lsn), (.int .i64 x0.Xid), (.int .i64 x0.Page), (.int .i64 x0.Slot), u0_0])] w' fun en w'' => ∃ v, en = .returned v ∧ v = (.bool r) ∧ Ky [] w' w'') (ho1 : f1.cells = #[f1]) (r : Bool) (m : slices_ContainsFunc_impl_Record_impl_Record.f a0 a1 = some r) :
    Calls Try.prog 65 #[w0_0, f1] w fun en w' => ∃ v, en = .returned v ∧ slices_ContainsFunc_impl_Record_impl_Record.Q w F r v w' := by
  obtain ⟨s0, rfl, kp0, z⟩ := start0 w F
  have A0_0 := z.rd h0_0
  refine calls_of_TM (args := [w0_0, f1]) (R := fun r en w' => ∃ v, en = .returned v ∧ slices_ContainsFunc_impl_Record_impl_Record.Q s0.w F r v w') Try.func65 Try.ntmps65 rfl rfl m ?_
  unfold slices_ContainsFunc_impl_Record_impl_Record.f
  refine sr ?_
  refine pu rfl rfl rfl rfl rfl ?_
  refine dn ?_
  refine sr ?_
  refine mv w0_0 rfl rfl rfl rfl rfl rfl ?_
  refine mv f1 rfl rfl rfl rfl rfl rfl ?_
  refine cl rfl rfl rfl rfl rfl Try.func72 rfl rfl rfl (fun r2 m2 => slices_IndexFunc_impl_Record_impl_Record.calls a0 a1 s0.w (fun b => memb [0] (s0.g b) = true) w0_0 f1 A0_0 (fun x0 u0_0 w' k h0 r m =>  hf1 x0 u0_0 w' (Ky.trans (z.ky kp0) k) h0 r m) ho1 r2 m2) ?_
  rintro r2 _ w2 m2 ⟨rfl, ky2⟩
  obtain ⟨s3, rfl, p3, n3⟩ := nwx s0 w2 10 ky2
  refine pu rfl rfl rfl rfl rfl ?_
  refine pu rfl rfl rfl rfl rfl ?_
  refine dn ?_
  have K4 := (kp0.st p3 rfl)
  exact re rfl Try.func65 rfl (r_t rfl r_nil) rfl ⟨_, rfl, rfl, z.ky K4⟩
noncomputable def impl_areAll_impl_Record.f (a0 : (List Record)) (a1 : (Record → Option Bool)) : Option (Bool) :=
  ((slices_ContainsFunc_impl_Record_impl_Record.f a0 (fun x0 => impl_areAll_impl_Record_1.f x0 a1)).bind fun r6 => (some (!r6)))
def impl_areAll_impl_Record.Q (w : World) (F : Nat → Prop) (r : Bool) (v : Value) (w' : World) : Prop :=
  v = (.bool r) ∧ Ky [] w w'
set_option maxHeartbeats 4000000 in
set_option maxRecDepth 100000 in
theorem impl_areAll_impl_Record.calls (a0 : (List Record)) (a1 : (Record → Option Bool)) (w : World) (F : Nat → Prop) (w0_0 : Value) (f1 : Value) (h0_0 : (Kd.sl 68 kd68).rd w [w0_0] a0 F) (hf1 : ∀ (x0 : Record) (u0_0 : Value) (w' : World), Ky [] w w' → (Kd.sl 5 (Kd.int .u8)).rd w' [u0_0] x0.Data (fun _ => True) → ∀ r, a1 x0 = some r → CallV Try.prog f1 [(.agg #[(.int .i64 x0.Kind), (.int .i64 x0.Lsn), (.int .i64 x0.Xid), (.int .i64 x0.Page), (.int .i64 x0.Slot), u0_0])] w' fun en w'' => ∃ v, en = .returned v ∧ v = (.bool r) ∧ Ky [] w' w'') (ho1 : f1.cells = #[f1]) (r : Bool) (m : impl_areAll_impl_Record.f a0 a1 = some r) :
    Calls Try.prog 52 #[w0_0, f1] w fun en w' => ∃ v, en = .returned v ∧ impl_areAll_impl_Record.Q w F r v w' := by
  obtain ⟨s0, rfl, kp0, z⟩ := start0 w F
  have A0_0 := z.rd h0_0
  refine calls_of_TM (args := [w0_0, f1]) (R := fun r en w' => ∃ v, en = .returned v ∧ impl_areAll_impl_Record.Q s0.w F r v w') Try.func52 Try.ntmps52 rfl rfl m ?_
  unfold impl_areAll_impl_Record.f
  refine sr ?_
  refine bx (cs := [f1]) 10 rfl rfl rfl rfl rfl ho1 (fun b2 s2 p2 B2 => ?_)
  refine pu rfl rfl rfl rfl rfl ?_
  refine dn ?_
  refine sr ?_
  refine mv w0_0 rfl rfl rfl rfl rfl rfl ?_
  refine mkf (fs := []) (cs := [(.pointer (some ⟨b2, 0, none⟩))]) rfl rfl rfl rfl rfl rfl rfl ?_
  have K4 := (kp0.st p2 rfl)
  have A5 := (A0_0.kp K4)
  refine cl rfl rfl rfl rfl rfl Try.func65 rfl rfl rfl (fun r6 m6 => slices_ContainsFunc_impl_Record_impl_Record.calls a0 (fun x0 => impl_areAll_impl_Record_1.f x0 a1) s2.w (fun b => memb [0] (s2.g b) = true) w0_0 (.func (.func 66) (List.toArray []) (List.toArray [(.pointer (some ⟨b2, 0, none⟩))])) A5 (fun x0 u0_0 w' k h0 r m =>  ⟨66, _, _, [], [(.pointer (some ⟨b2, 0, none⟩))], rfl, Try.func66, rfl, rfl, (impl_areAll_impl_Record_1.calls x0 a1 w' (fun _ => True) u0_0 b2 f1 h0 (fun x0c u0_0c w'c kc h0c r m =>  hf1 x0c u0_0c w'c (Ky.trans (z.ky K4) (Ky.trans k kc)) h0c r m) ho1 (BlF.ky B2 k) trivial r m).mono fun en w2 hq => by obtain ⟨v, e, q⟩ := hq; exact ⟨v, e, q⟩⟩) rfl r6 m6) ?_
  rintro r6 _ w6 m6 ⟨rfl, ky6⟩
  obtain ⟨s7, rfl, p7, n7⟩ := nwx s2 w6 11 ky6
  refine pu rfl rfl rfl rfl rfl ?_
  refine pu rfl rfl rfl rfl rfl ?_
  refine dn ?_
  have K8 := (K4.st p7 rfl)
  exact re rfl Try.func52 rfl (r_t rfl r_nil) rfl ⟨_, rfl, rfl, z.ky K8⟩
noncomputable def impl_isPage.f (a0 : Int) : Option (Bool) :=
  ((impl_within.f a0 (0 : Int) (15 : Int)).bind fun r1 => (some r1))
def impl_isPage.Q (w : World) (F : Nat → Prop) (r : Bool) (v : Value) (w' : World) : Prop :=
  v = (.bool r) ∧ Ky [] w w'
set_option maxHeartbeats 4000000 in
set_option maxRecDepth 100000 in
theorem impl_isPage.calls (a0 : Int) (w : World) (F : Nat → Prop)   (r : Bool) (m : impl_isPage.f a0 = some r) :
    Calls Try.prog 67 #[(.int .i64 a0)] w fun en w' => ∃ v, en = .returned v ∧ impl_isPage.Q w F r v w' := by
  obtain ⟨s0, rfl, kp0, z⟩ := start0 w F
  refine calls_of_TM (args := [(.int .i64 a0)]) (R := fun r en w' => ∃ v, en = .returned v ∧ impl_isPage.Q s0.w F r v w') Try.func67 Try.ntmps67 rfl rfl m ?_
  unfold impl_isPage.f
  refine sr ?_
  refine pu rfl rfl rfl rfl rfl ?_
  refine dn ?_
  refine sr ?_
  refine pu rfl rfl rfl rfl rfl ?_
  refine cl rfl rfl rfl rfl rfl Try.func34 rfl rfl rfl (fun r1 m1 => impl_within.calls a0 (0 : Int) (15 : Int) s0.w (fun b => memb [] (s0.g b) = true)  r1 m1) ?_
  rintro r1 _ w1 m1 ⟨rfl, ky1⟩
  obtain ⟨s2, rfl, p2, n2⟩ := nwx s0 w1 10 ky1
  refine pu rfl rfl rfl rfl rfl ?_
  refine dn ?_
  have K3 := (kp0.st p2 rfl)
  exact re rfl Try.func67 rfl (r_t rfl r_nil) rfl ⟨_, rfl, rfl, z.ky K3⟩
noncomputable def impl_isSlot.f (a0 : Int) : Option (Bool) :=
  ((impl_within.f a0 (0 : Int) (15 : Int)).bind fun r1 => (some r1))
def impl_isSlot.Q (w : World) (F : Nat → Prop) (r : Bool) (v : Value) (w' : World) : Prop :=
  v = (.bool r) ∧ Ky [] w w'
set_option maxHeartbeats 4000000 in
set_option maxRecDepth 100000 in
theorem impl_isSlot.calls (a0 : Int) (w : World) (F : Nat → Prop)   (r : Bool) (m : impl_isSlot.f a0 = some r) :
    Calls Try.prog 68 #[(.int .i64 a0)] w fun en w' => ∃ v, en = .returned v ∧ impl_isSlot.Q w F r v w' := by
  obtain ⟨s0, rfl, kp0, z⟩ := start0 w F
  refine calls_of_TM (args := [(.int .i64 a0)]) (R := fun r en w' => ∃ v, en = .returned v ∧ impl_isSlot.Q s0.w F r v w') Try.func68 Try.ntmps68 rfl rfl m ?_
  unfold impl_isSlot.f
  refine sr ?_
  refine pu rfl rfl rfl rfl rfl ?_
  refine dn ?_
  refine sr ?_
  refine pu rfl rfl rfl rfl rfl ?_
  refine cl rfl rfl rfl rfl rfl Try.func34 rfl rfl rfl (fun r1 m1 => impl_within.calls a0 (0 : Int) (15 : Int) s0.w (fun b => memb [] (s0.g b) = true)  r1 m1) ?_
  rintro r1 _ w1 m1 ⟨rfl, ky1⟩
  obtain ⟨s2, rfl, p2, n2⟩ := nwx s0 w1 10 ky1
  refine pu rfl rfl rfl rfl rfl ?_
  refine dn ?_
  have K3 := (kp0.st p2 rfl)
  exact re rfl Try.func68 rfl (r_t rfl r_nil) rfl ⟨_, rfl, rfl, z.ky K3⟩
noncomputable def impl_isXid.f (a0 : Int) : Option (Bool) :=
  ((impl_within.f a0 (1 : Int) (400 : Int)).bind fun r1 => (some r1))
def impl_isXid.Q (w : World) (F : Nat → Prop) (r : Bool) (v : Value) (w' : World) : Prop :=
  v = (.bool r) ∧ Ky [] w w'
set_option maxHeartbeats 4000000 in
set_option maxRecDepth 100000 in
theorem impl_isXid.calls (a0 : Int) (w : World) (F : Nat → Prop)   (r : Bool) (m : impl_isXid.f a0 = some r) :
    Calls Try.prog 69 #[(.int .i64 a0)] w fun en w' => ∃ v, en = .returned v ∧ impl_isXid.Q w F r v w' := by
  obtain ⟨s0, rfl, kp0, z⟩ := start0 w F
  refine calls_of_TM (args := [(.int .i64 a0)]) (R := fun r en w' => ∃ v, en = .returned v ∧ impl_isXid.Q s0.w F r v w') Try.func69 Try.ntmps69 rfl rfl m ?_
  unfold impl_isXid.f
  refine sr ?_
  refine pu rfl rfl rfl rfl rfl ?_
  refine dn ?_
  refine sr ?_
  refine pu rfl rfl rfl rfl rfl ?_
  refine cl rfl rfl rfl rfl rfl Try.func34 rfl rfl rfl (fun r1 m1 => impl_within.calls a0 (1 : Int) (400 : Int) s0.w (fun b => memb [] (s0.g b) = true)  r1 m1) ?_
  rintro r1 _ w1 m1 ⟨rfl, ky1⟩
  obtain ⟨s2, rfl, p2, n2⟩ := nwx s0 w1 10 ky1
  refine pu rfl rfl rfl rfl rfl ?_
  refine dn ?_
  have K3 := (kp0.st p2 rfl)
  exact re rfl Try.func69 rfl (r_t rfl r_nil) rfl ⟨_, rfl, rfl, z.ky K3⟩
end Go.Proofs.Ytndhbfkahbbkaaa
