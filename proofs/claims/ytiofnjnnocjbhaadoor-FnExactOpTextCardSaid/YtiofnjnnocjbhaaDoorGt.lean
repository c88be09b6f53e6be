import Derived.Lib.ItoaMem
import Derived.Lib.LaidTab
import Derived.Test.YtiofnjnnocjbhaaDoorProg
import Derived.Test.YtiofnjnnocjbhaaDoorG2
import Derived.KernelRfl

set_option linter.unusedVariables false
set_option linter.unusedSimpArgs false
namespace Go.Proofs.YtiofnjnnocjbhaaDoor
open Go V
structure Item where
  Kind : Int
  N : Int
  F : Nat
  T : (List Int)
  deriving Inhabited, DecidableEq
structure Pair where
  Key : Item
  Value : Item
  deriving Inhabited, DecidableEq
structure Reply where
  Seat : Int
  Kind : Int
  Code : Int
  N : Int
  Value : Item
  Rows : (List Pair)
  Total : Nat
  deriving Inhabited, DecidableEq
structure Op where
  Kind : Int
  Seat : Int
  Level : Int
  N : Int
  Key : Item
  To : Item
  Value : Item
  Keep : (List Bool)
  deriving Inhabited, DecidableEq
def kd25 : Kd Item := Kd.iso (Kd.pair (Kd.int .i64) (Kd.pair (Kd.int .i64) (Kd.pair Kd.flt (Kd.sl 5 (Kd.int .u8))))) fun x => (x.Kind, x.N, x.F, x.T)
def kd28 : Kd Item := Kd.iso (Kd.pair (Kd.int .i64) (Kd.pair (Kd.int .i64) (Kd.pair Kd.flt (Kd.sl 5 (Kd.int .u8))))) fun x => (x.Kind, x.N, x.F, x.T)
theorem po28 {w : World} {cs : List Value} {x : Item} {os : List Nat} (h : kd28.ow w cs x os) : ∃ (v0 : Value) (v1 : Value) (p1 : List Nat), cs = [.int .i64 x.Kind, .int .i64 x.N, v0, v1] ∧ os = p1 ∧ FL v0 x.F ∧ (Kd.sl 5 (Kd.int .u8)).ow w [v1] x.T p1 := by
  obtain ⟨_, _, _, _, rfl, rfl, ⟨rfl, rfl⟩, ⟨_, _, _, _, rfl, rfl, ⟨rfl, rfl⟩, ⟨_, _, _, p1, rfl, rfl, ⟨⟨v0, rfl, h0⟩, rfl⟩, ⟨v1, rfl, h1⟩⟩⟩⟩ := h
  exact ⟨_, _, p1, rfl, by simp, h0, ⟨_, rfl, h1⟩⟩
theorem ap28 {s : St} {x : Item} {z0 z1 v0 v1 : Value} {c : Nat} (h : OwF kd28 s [z0, z1, v0, v1] x c) : FL v0 x.F ∧ OwF (Kd.sl 5 (Kd.int .u8)) s [v1] x.T c := by
  obtain ⟨os, ho, hn, hc⟩ := h
  obtain ⟨u0, u1, p1, e, eo, h0, h1⟩ := po28 ho
  have y0 : v0 = u0 := congrArg (fun l => (List.drop 2 l).headD undef) e
  have y1 : v1 = u1 := congrArg (fun l => (List.drop 3 l).headD undef) e
  subst y0
  subst y1
  subst eo
  exact ⟨h0, sp1 h1 hn hc⟩
def kd49 : Kd Op := Kd.iso (Kd.pair (Kd.int .i64) (Kd.pair (Kd.int .i64) (Kd.pair (Kd.int .i64) (Kd.pair (Kd.int .i64) (Kd.pair kd25 (Kd.pair kd25 (Kd.pair kd25 (Kd.sl 4 Kd.bool)))))))) fun x => (x.Kind, x.Seat, x.Level, x.N, x.Key, x.To, x.Value, x.Keep)
theorem op49 {s : St} {cs : List Value} {x : Op} {C : List Nat} (h : RdF kd49 s cs x C) : ∃ (v0 : Value) (v1 : Value) (v2 : Value) (v3 : Value) (v4 : Value) (v5 : Value) (v6 : Value), cs = [.int .i64 x.Kind, .int .i64 x.Seat, .int .i64 x.Level, .int .i64 x.N, .int .i64 x.Key.Kind, .int .i64 x.Key.N, v0, v1, .int .i64 x.To.Kind, .int .i64 x.To.N, v2, v3, .int .i64 x.Value.Kind, .int .i64 x.Value.N, v4, v5, v6] ∧ FL v0 x.Key.F ∧ RdF (Kd.sl 5 (Kd.int .u8)) s [v1] x.Key.T C ∧ FL v2 x.To.F ∧ RdF (Kd.sl 5 (Kd.int .u8)) s [v3] x.To.T C ∧ FL v4 x.Value.F ∧ RdF (Kd.sl 5 (Kd.int .u8)) s [v5] x.Value.T C ∧ RdF (Kd.sl 4 Kd.bool) s [v6] x.Keep C := by
  obtain ⟨_, _, rfl, rfl, ⟨_, _, rfl, rfl, ⟨_, _, rfl, rfl, ⟨_, _, rfl, rfl, ⟨_, _, rfl, ⟨_, _, rfl, rfl, ⟨_, _, rfl, rfl, ⟨_, _, rfl, ⟨v0, rfl, h0⟩, ⟨v1, rfl, h1⟩⟩⟩⟩, ⟨_, _, rfl, ⟨_, _, rfl, rfl, ⟨_, _, rfl, rfl, ⟨_, _, rfl, ⟨v2, rfl, h2⟩, ⟨v3, rfl, h3⟩⟩⟩⟩, ⟨_, _, rfl, ⟨_, _, rfl, rfl, ⟨_, _, rfl, rfl, ⟨_, _, rfl, ⟨v4, rfl, h4⟩, ⟨v5, rfl, h5⟩⟩⟩⟩, ⟨v6, rfl, h6⟩⟩⟩⟩⟩⟩⟩⟩ := h
  exact ⟨v0, v1, v2, v3, v4, v5, v6, rfl, h0, ⟨_, rfl, h1⟩, h2, ⟨_, rfl, h3⟩, h4, ⟨_, rfl, h5⟩, ⟨_, rfl, h6⟩⟩
def kd53 : Kd Op := Kd.iso (Kd.pair (Kd.int .i64) (Kd.pair (Kd.int .i64) (Kd.pair (Kd.int .i64) (Kd.pair (Kd.int .i64) (Kd.pair kd28 (Kd.pair kd28 (Kd.pair kd28 (Kd.sl 4 Kd.bool)))))))) fun x => (x.Kind, x.Seat, x.Level, x.N, x.Key, x.To, x.Value, x.Keep)
theorem po53 {w : World} {cs : List Value} {x : Op} {os : List Nat} (h : kd53.ow w cs x os) : ∃ (v0 : Value) (v1 : Value) (v2 : Value) (v3 : Value) (v4 : Value) (v5 : Value) (v6 : Value) (p1 : List Nat) (p3 : List Nat) (p5 : List Nat) (p6 : List Nat), cs = [.int .i64 x.Kind, .int .i64 x.Seat, .int .i64 x.Level, .int .i64 x.N, .int .i64 x.Key.Kind, .int .i64 x.Key.N, v0, v1, .int .i64 x.To.Kind, .int .i64 x.To.N, v2, v3, .int .i64 x.Value.Kind, .int .i64 x.Value.N, v4, v5, v6] ∧ os = p1 ++ (p3 ++ (p5 ++ (p6))) ∧ FL v0 x.Key.F ∧ (Kd.sl 5 (Kd.int .u8)).ow w [v1] x.Key.T p1 ∧ FL v2 x.To.F ∧ (Kd.sl 5 (Kd.int .u8)).ow w [v3] x.To.T p3 ∧ FL v4 x.Value.F ∧ (Kd.sl 5 (Kd.int .u8)).ow w [v5] x.Value.T p5 ∧ (Kd.sl 4 Kd.bool).ow w [v6] x.Keep p6 := by
  obtain ⟨_, _, _, _, rfl, rfl, ⟨rfl, rfl⟩, ⟨_, _, _, _, rfl, rfl, ⟨rfl, rfl⟩, ⟨_, _, _, _, rfl, rfl, ⟨rfl, rfl⟩, ⟨_, _, _, _, rfl, rfl, ⟨rfl, rfl⟩, ⟨_, _, _, _, rfl, rfl, ⟨_, _, _, _, rfl, rfl, ⟨rfl, rfl⟩, ⟨_, _, _, _, rfl, rfl, ⟨rfl, rfl⟩, ⟨_, _, _, p1, rfl, rfl, ⟨⟨v0, rfl, h0⟩, rfl⟩, ⟨v1, rfl, h1⟩⟩⟩⟩, ⟨_, _, _, _, rfl, rfl, ⟨_, _, _, _, rfl, rfl, ⟨rfl, rfl⟩, ⟨_, _, _, _, rfl, rfl, ⟨rfl, rfl⟩, ⟨_, _, _, p3, rfl, rfl, ⟨⟨v2, rfl, h2⟩, rfl⟩, ⟨v3, rfl, h3⟩⟩⟩⟩, ⟨_, _, _, p6, rfl, rfl, ⟨_, _, _, _, rfl, rfl, ⟨rfl, rfl⟩, ⟨_, _, _, _, rfl, rfl, ⟨rfl, rfl⟩, ⟨_, _, _, p5, rfl, rfl, ⟨⟨v4, rfl, h4⟩, rfl⟩, ⟨v5, rfl, h5⟩⟩⟩⟩, ⟨v6, rfl, h6⟩⟩⟩⟩⟩⟩⟩⟩ := h
  exact ⟨_, _, _, _, _, _, _, p1, p3, p5, p6, rfl, by simp, h0, ⟨_, rfl, h1⟩, h2, ⟨_, rfl, h3⟩, h4, ⟨_, rfl, h5⟩, ⟨_, rfl, h6⟩⟩
theorem ap53 {s : St} {x : Op} {z0 z1 z2 z3 z4 z5 z8 z9 z12 z13 v0 v1 v2 v3 v4 v5 v6 : Value} {c : Nat} (c1 : Nat) (c2 : Nat) (c3 : Nat) (h : OwF kd53 s [z0, z1, z2, z3, z4, z5, v0, v1, z8, z9, v2, v3, z12, z13, v4, v5, v6] x c) (h40 : Nat.ble 40 c = true) (k1 : Nat.ble 40 c1 = true := by rfl) (k2 : Nat.ble 40 c2 = true := by rfl) (d0_1 : memb [c1] c = false := by rfl) (d0_2 : memb [c2] c = false := by rfl) (d1_2 : memb [c2] c1 = false := by rfl) : ∃ s', s.w = s'.w ∧ Stp (([c] ++ [c1]) ++ [c2]) s s' ∧ FL v0 x.Key.F ∧ OwF (Kd.sl 5 (Kd.int .u8)) s' [v1] x.Key.T c ∧ FL v2 x.To.F ∧ OwF (Kd.sl 5 (Kd.int .u8)) s' [v3] x.To.T c1 ∧ FL v4 x.Value.F ∧ OwF (Kd.sl 5 (Kd.int .u8)) s' [v5] x.Value.T c2 ∧ OwF (Kd.sl 4 Kd.bool) s' [v6] x.Keep c3 := by
  obtain ⟨os, ho, hn, hc⟩ := h
  obtain ⟨u0, u1, u2, u3, u4, u5, u6, p1, p3, p5, p6, e, eo, h0, h1, h2, h3, h4, h5, h6⟩ := po53 ho
  have y0 : v0 = u0 := congrArg (fun l => (List.drop 6 l).headD undef) e
  have y1 : v1 = u1 := congrArg (fun l => (List.drop 7 l).headD undef) e
  have y2 : v2 = u2 := congrArg (fun l => (List.drop 10 l).headD undef) e
  have y3 : v3 = u3 := congrArg (fun l => (List.drop 11 l).headD undef) e
  have y4 : v4 = u4 := congrArg (fun l => (List.drop 14 l).headD undef) e
  have y5 : v5 = u5 := congrArg (fun l => (List.drop 15 l).headD undef) e
  have y6 : v6 = u6 := congrArg (fun l => (List.drop 16 l).headD undef) e
  subst y0
  subst y1
  subst y2
  subst y3
  subst y4
  subst y5
  subst y6
  subst eo
  obtain ⟨s0, w0, p_0, A1, hn0, hc0⟩ := sp2 c1 h1 hn hc h40
  obtain ⟨s1, w1, p_1, A3, hn1, hc1⟩ := sp2 c2 (w0 ▸ h3) hn0 hc0 k1
  obtain ⟨s2, w2, p_2, A5, hn2, hc2⟩ := sp2 c3 (w1 ▸ (w0 ▸ h5)) hn1 hc1 k2
  exact ⟨s2, ((w0.trans w1).trans w2), ((p_0.trans p_1).trans p_2), h0, ((A1.st p_1 d0_1).st p_2 d0_2), h2, (A3.st p_2 d1_2), h4, A5, sp1 (w2 ▸ (w1 ▸ (w0 ▸ h6))) hn2 hc2⟩
def ok_Item (x : Item) : Prop := InK .i64 x.Kind ∧ InK .i64 x.N ∧ okF x.F ∧ (x.T.length ≤ maxLen ∧ ∀ y ∈ x.T, InK .u8 y)
theorem tr25 : Opn Tryd.prog 25 kd25 ok_Item := tr_iso (fun x : Item => (x.Kind, x.N, x.F, x.T)) (fun x => ⟨x.1, x.2.1, x.2.2.1, x.2.2.2⟩) (fun _ => rfl) (tr_st Tryd.underlying25 (by kernel_rfl) (tf_cons rfl (by kernel_rfl) (tr_int Tryd.underlying3) (tf_cons rfl (by kernel_rfl) (tr_int Tryd.underlying3) (tf_cons rfl (by kernel_rfl) (tr_flt Tryd.underlying22) (tf_last rfl (by kernel_rfl) (tr_sl (e' := 5) Tryd.underlying23 (by kernel_rfl) (tr_int Tryd.underlying5)))))))
def ok_Op (x : Op) : Prop := InK .i64 x.Kind ∧ InK .i64 x.Seat ∧ InK .i64 x.Level ∧ InK .i64 x.N ∧ ok_Item x.Key ∧ ok_Item x.To ∧ ok_Item x.Value ∧ (x.Keep.length ≤ maxLen ∧ ∀ y ∈ x.Keep, True)
theorem tr49 : Opn Tryd.prog 49 kd49 ok_Op := tr_iso (fun x : Op => (x.Kind, x.Seat, x.Level, x.N, x.Key, x.To, x.Value, x.Keep)) (fun x => ⟨x.1, x.2.1, x.2.2.1, x.2.2.2.1, x.2.2.2.2.1, x.2.2.2.2.2.1, x.2.2.2.2.2.2.1, x.2.2.2.2.2.2.2⟩) (fun _ => rfl) (tr_st Tryd.underlying49 (by kernel_rfl) (tf_cons rfl (by kernel_rfl) (tr_int Tryd.underlying3) (tf_cons rfl (by kernel_rfl) (tr_int Tryd.underlying3) (tf_cons rfl (by kernel_rfl) (tr_int Tryd.underlying3) (tf_cons rfl (by kernel_rfl) (tr_int Tryd.underlying3) (tf_cons rfl (by kernel_rfl) tr25 (tf_cons rfl (by kernel_rfl) tr25 (tf_cons rfl (by kernel_rfl) tr25 (tf_last rfl (by kernel_rfl) (tr_sl (e' := 4) Tryd.underlying47 (by kernel_rfl) (tr_bool Tryd.underlying4)))))))))))
theorem xn63 : Extern.findNext Tryd.f63 = none := by kernel_rfl
theorem xf63 : Extern.find Tryd.f63 = some Extern.MathFloatBits.float64bits := by kernel_rfl
theorem fa25_0 : ∀ (a : Addr) (w : World), (Instr.fieldAt 25 (.pointer (some a)) 0).run Tryd.prog w = .ok (.pointer (some (a.add 0))) w := fun _ _ => by kernel_rfl
theorem fa25_1 : ∀ (a : Addr) (w : World), (Instr.fieldAt 25 (.pointer (some a)) 1).run Tryd.prog w = .ok (.pointer (some (a.add 1))) w := fun _ _ => by kernel_rfl
theorem fa25_2 : ∀ (a : Addr) (w : World), (Instr.fieldAt 25 (.pointer (some a)) 2).run Tryd.prog w = .ok (.pointer (some (a.add 2))) w := fun _ _ => by kernel_rfl
theorem fa25_3 : ∀ (a : Addr) (w : World), (Instr.fieldAt 25 (.pointer (some a)) 3).run Tryd.prog w = .ok (.pointer (some (a.add 3))) w := fun _ _ => by kernel_rfl
theorem fa28_0 : ∀ (a : Addr) (w : World), (Instr.fieldAt 28 (.pointer (some a)) 0).run Tryd.prog w = .ok (.pointer (some (a.add 0))) w := fun _ _ => by kernel_rfl
theorem fa28_1 : ∀ (a : Addr) (w : World), (Instr.fieldAt 28 (.pointer (some a)) 1).run Tryd.prog w = .ok (.pointer (some (a.add 1))) w := fun _ _ => by kernel_rfl
theorem fa28_2 : ∀ (a : Addr) (w : World), (Instr.fieldAt 28 (.pointer (some a)) 2).run Tryd.prog w = .ok (.pointer (some (a.add 2))) w := fun _ _ => by kernel_rfl
theorem fa28_3 : ∀ (a : Addr) (w : World), (Instr.fieldAt 28 (.pointer (some a)) 3).run Tryd.prog w = .ok (.pointer (some (a.add 3))) w := fun _ _ => by kernel_rfl
theorem fa49_0 : ∀ (a : Addr) (w : World), (Instr.fieldAt 49 (.pointer (some a)) 0).run Tryd.prog w = .ok (.pointer (some (a.add 0))) w := fun _ _ => by kernel_rfl
theorem fa49_1 : ∀ (a : Addr) (w : World), (Instr.fieldAt 49 (.pointer (some a)) 1).run Tryd.prog w = .ok (.pointer (some (a.add 1))) w := fun _ _ => by kernel_rfl
theorem fa49_2 : ∀ (a : Addr) (w : World), (Instr.fieldAt 49 (.pointer (some a)) 2).run Tryd.prog w = .ok (.pointer (some (a.add 2))) w := fun _ _ => by kernel_rfl
theorem fa49_3 : ∀ (a : Addr) (w : World), (Instr.fieldAt 49 (.pointer (some a)) 3).run Tryd.prog w = .ok (.pointer (some (a.add 3))) w := fun _ _ => by kernel_rfl
theorem fa49_4 : ∀ (a : Addr) (w : World), (Instr.fieldAt 49 (.pointer (some a)) 4).run Tryd.prog w = .ok (.pointer (some (a.add 4))) w := fun _ _ => by kernel_rfl
theorem fa49_5 : ∀ (a : Addr) (w : World), (Instr.fieldAt 49 (.pointer (some a)) 5).run Tryd.prog w = .ok (.pointer (some (a.add 8))) w := fun _ _ => by kernel_rfl
theorem fa49_6 : ∀ (a : Addr) (w : World), (Instr.fieldAt 49 (.pointer (some a)) 6).run Tryd.prog w = .ok (.pointer (some (a.add 12))) w := fun _ _ => by kernel_rfl
theorem fa49_7 : ∀ (a : Addr) (w : World), (Instr.fieldAt 49 (.pointer (some a)) 7).run Tryd.prog w = .ok (.pointer (some (a.add 16))) w := fun _ _ => by kernel_rfl
theorem fa53_0 : ∀ (a : Addr) (w : World), (Instr.fieldAt 53 (.pointer (some a)) 0).run Tryd.prog w = .ok (.pointer (some (a.add 0))) w := fun _ _ => by kernel_rfl
theorem fa53_1 : ∀ (a : Addr) (w : World), (Instr.fieldAt 53 (.pointer (some a)) 1).run Tryd.prog w = .ok (.pointer (some (a.add 1))) w := fun _ _ => by kernel_rfl
theorem fa53_2 : ∀ (a : Addr) (w : World), (Instr.fieldAt 53 (.pointer (some a)) 2).run Tryd.prog w = .ok (.pointer (some (a.add 2))) w := fun _ _ => by kernel_rfl
theorem fa53_3 : ∀ (a : Addr) (w : World), (Instr.fieldAt 53 (.pointer (some a)) 3).run Tryd.prog w = .ok (.pointer (some (a.add 3))) w := fun _ _ => by kernel_rfl
theorem fa53_4 : ∀ (a : Addr) (w : World), (Instr.fieldAt 53 (.pointer (some a)) 4).run Tryd.prog w = .ok (.pointer (some (a.add 4))) w := fun _ _ => by kernel_rfl
theorem fa53_5 : ∀ (a : Addr) (w : World), (Instr.fieldAt 53 (.pointer (some a)) 5).run Tryd.prog w = .ok (.pointer (some (a.add 8))) w := fun _ _ => by kernel_rfl
theorem fa53_6 : ∀ (a : Addr) (w : World), (Instr.fieldAt 53 (.pointer (some a)) 6).run Tryd.prog w = .ok (.pointer (some (a.add 12))) w := fun _ _ => by kernel_rfl
theorem fa53_7 : ∀ (a : Addr) (w : World), (Instr.fieldAt 53 (.pointer (some a)) 7).run Tryd.prog w = .ok (.pointer (some (a.add 16))) w := fun _ _ => by kernel_rfl
theorem o28 : (Tryd.prog.info? 28).bind (·.zero) = some (.agg #[.int .i64 0, .int .i64 0, .float .f64 0, .slice none 0 0]) := by kernel_rfl
theorem o4 : (Tryd.prog.info? 4).bind (·.zero) = some (.bool false) := by kernel_rfl
theorem o5 : (Tryd.prog.info? 5).bind (·.zero) = some (.int .u8 0) := by kernel_rfl
theorem o53 : (Tryd.prog.info? 53).bind (·.zero) = some (.agg #[.int .i64 0, .int .i64 0, .int .i64 0, .int .i64 0, .int .i64 0, .int .i64 0, .float .f64 0, .slice none 0 0, .int .i64 0, .int .i64 0, .float .f64 0, .slice none 0 0, .int .i64 0, .int .i64 0, .float .f64 0, .slice none 0 0, .slice none 0 0]) := by kernel_rfl
theorem o9 : (Tryd.prog.info? 9).bind (·.zero) = some (.string ⟨#[]⟩) := by kernel_rfl
theorem pl28 : PlF Tryd.prog 28 #[(0, 1), (1, 1), (2, 1), (3, 1)] := ⟨_, Tryd.underlying28, fun _ => by kernel_rfl⟩
theorem sl23 : SlT Tryd.prog 23 5 1 := SlT.mk (by_ := 1) (z := (.int .u8 0)) Tryd.underlying23 (by kernel_rfl) rfl rfl rfl
theorem sl47 : SlT Tryd.prog 47 4 1 := SlT.mk (by_ := 1) (z := (.bool false)) Tryd.underlying47 (by kernel_rfl) rfl rfl rfl
theorem sl80 : SlT Tryd.prog 80 9 1 := SlT.mk (by_ := 16) (z := (.string ⟨#[]⟩)) Tryd.underlying80 (by kernel_rfl) rfl rfl rfl
theorem z22 : (Tryd.prog.info? 22).map (·.size) = some 1 := by kernel_rfl
theorem z23 : (Tryd.prog.info? 23).map (·.size) = some 1 := by kernel_rfl
theorem z25 : (Tryd.prog.info? 25).map (·.size) = some 4 := by kernel_rfl
theorem z28 : (Tryd.prog.info? 28).map (·.size) = some 4 := by kernel_rfl
theorem z3 : (Tryd.prog.info? 3).map (·.size) = some 1 := by kernel_rfl
theorem z4 : (Tryd.prog.info? 4).map (·.size) = some 1 := by kernel_rfl
theorem z47 : (Tryd.prog.info? 47).map (·.size) = some 1 := by kernel_rfl
theorem z49 : (Tryd.prog.info? 49).map (·.size) = some 17 := by kernel_rfl
theorem z5 : (Tryd.prog.info? 5).map (·.size) = some 1 := by kernel_rfl
theorem z53 : (Tryd.prog.info? 53).map (·.size) = some 17 := by kernel_rfl
theorem z9 : (Tryd.prog.info? 9).map (·.size) = some 1 := by kernel_rfl
noncomputable def gTab : Nat := (Tryd.prog.globalNamed "internal/strconv.uint64pow10").getD 0
theorem hTab : Tryd.prog.globalNamed "internal/strconv.uint64pow10" = some gTab := by kernel_rfl
noncomputable def GT : Kd Unit := Kd.glb [gTab] (fun w => Lib.TabIs Tryd.prog w "internal/strconv.uint64pow10" .u64 Lib.pow10Tab) (fun w w' h h1 => by unfold Lib.TabIs at *; rw [var_fr hTab (h _ (by simp))]; exact h1)

abbrev Xp := Kd.sl 5 (Kd.int .u8)
abbrev u3 := Tryd.underlying3
abbrev u4 := Tryd.underlying4
abbrev u5 := Tryd.underlying5
abbrev u9 := Tryd.underlying9
abbrev u22 := Tryd.underlying22
abbrev u23 := Tryd.underlying23
abbrev u25 := Tryd.underlying25
abbrev u28 := Tryd.underlying28
abbrev u47 := Tryd.underlying47
abbrev u49 := Tryd.underlying49
abbrev u53 := Tryd.underlying53
abbrev u65 := Tryd.underlying65
abbrev u80 := Tryd.underlying80
abbrev u92 := Tryd.underlying92
end Go.Proofs.YtiofnjnnocjbhaaDoor
