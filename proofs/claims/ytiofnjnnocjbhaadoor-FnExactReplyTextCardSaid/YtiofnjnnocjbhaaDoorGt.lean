import Derived.Lib.ItoaMem
import Derived.Lib.LaidTab
import Derived.Test.YtiofnjnnocjbhaaDoorProg
import Derived.Test.YtiofnjnnocjbhaaDoorG2
import Derived.KernelRfl

set_option linter.unusedVariables false
set_option linter.unusedSimpArgs false
namespace Go.Proofs.YtiofnjnnocjbhaaDoor
open Go V
structure Item where
  Kind : Int
  N : Int
  F : Nat
  T : (List Int)
  deriving Inhabited, DecidableEq
structure Pair where
  Key : Item
  Value : Item
  deriving Inhabited, DecidableEq
structure Reply where
  Seat : Int
  Kind : Int
  Code : Int
  N : Int
  Value : Item
  Rows : (List Pair)
  Total : Nat
  deriving Inhabited, DecidableEq
structure Op where
  Kind : Int
  Seat : Int
  Level : Int
  N : Int
  Key : Item
  To : Item
  Value : Item
  Keep : (List Bool)
  deriving Inhabited, DecidableEq
def kd25 : Kd Item := Kd.iso (Kd.pair (Kd.int .i64) (Kd.pair (Kd.int .i64) (Kd.pair Kd.flt (Kd.sl 5 (Kd.int .u8))))) fun x => (x.Kind, x.N, x.F, x.T)
def kd28 : Kd Item := Kd.iso (Kd.pair (Kd.int .i64) (Kd.pair (Kd.int .i64) (Kd.pair Kd.flt (Kd.sl 5 (Kd.int .u8))))) fun x => (x.Kind, x.N, x.F, x.T)
theorem po28 {w : World} {cs : List Value} {x : Item} {os : List Nat} (h : kd28.ow w cs x os) : ∃ (v0 : Value) (v1 : Value) (p1 : List Nat), cs = [.int .i64 x.Kind, .int .i64 x.N, v0, v1] ∧ os = p1 ∧ FL v0 x.F ∧ (Kd.sl 5 (Kd.int .u8)).ow w [v1] x.T p1 := by
  obtain ⟨_, _, _, _, rfl, rfl, ⟨rfl, rfl⟩, ⟨_, _, _, _, rfl, rfl, ⟨rfl, rfl⟩, ⟨_, _, _, p1, rfl, rfl, ⟨⟨v0, rfl, h0⟩, rfl⟩, ⟨v1, rfl, h1⟩⟩⟩⟩ := h
  exact ⟨_, _, p1, rfl, by simp, h0, ⟨_, rfl, h1⟩⟩
theorem ap28 {s : St} {x : Item} {z0 z1 v0 v1 : Value} {c : Nat} (h : OwF kd28 s [z0, z1, v0, v1] x c) : FL v0 x.F ∧ OwF (Kd.sl 5 (Kd.int .u8)) s [v1] x.T c := by
  obtain ⟨os, ho, hn, hc⟩ := h
  obtain ⟨u0, u1, p1, e, eo, h0, h1⟩ := po28 ho
  have y0 : v0 = u0 := congrArg (fun l => (List.drop 2 l).headD undef) e
  have y1 : v1 = u1 := congrArg (fun l => (List.drop 3 l).headD undef) e
  subst y0
  subst y1
  subst eo
  exact ⟨h0, sp1 h1 hn hc⟩
def kd98 : Kd Pair := Kd.iso (Kd.pair kd25 kd25) fun x => (x.Key, x.Value)
theorem op98 {s : St} {cs : List Value} {x : Pair} {C : List Nat} (h : RdF kd98 s cs x C) : ∃ (v0 : Value) (v1 : Value) (v2 : Value) (v3 : Value), cs = [.int .i64 x.Key.Kind, .int .i64 x.Key.N, v0, v1, .int .i64 x.Value.Kind, .int .i64 x.Value.N, v2, v3] ∧ FL v0 x.Key.F ∧ RdF (Kd.sl 5 (Kd.int .u8)) s [v1] x.Key.T C ∧ FL v2 x.Value.F ∧ RdF (Kd.sl 5 (Kd.int .u8)) s [v3] x.Value.T C := by
  obtain ⟨_, _, rfl, ⟨_, _, rfl, rfl, ⟨_, _, rfl, rfl, ⟨_, _, rfl, ⟨v0, rfl, h0⟩, ⟨v1, rfl, h1⟩⟩⟩⟩, ⟨_, _, rfl, rfl, ⟨_, _, rfl, rfl, ⟨_, _, rfl, ⟨v2, rfl, h2⟩, ⟨v3, rfl, h3⟩⟩⟩⟩⟩ := h
  exact ⟨v0, v1, v2, v3, rfl, h0, ⟨_, rfl, h1⟩, h2, ⟨_, rfl, h3⟩⟩
def kd37 : Kd Reply := Kd.iso (Kd.pair (Kd.int .i64) (Kd.pair (Kd.int .i64) (Kd.pair (Kd.int .i64) (Kd.pair (Kd.int .i64) (Kd.pair kd25 (Kd.pair (Kd.sl 98 kd98) Kd.flt)))))) fun x => (x.Seat, x.Kind, x.Code, x.N, x.Value, x.Rows, x.Total)
theorem op37 {s : St} {cs : List Value} {x : Reply} {C : List Nat} (h : RdF kd37 s cs x C) : ∃ (v0 : Value) (v1 : Value) (v2 : Value) (v3 : Value), cs = [.int .i64 x.Seat, .int .i64 x.Kind, .int .i64 x.Code, .int .i64 x.N, .int .i64 x.Value.Kind, .int .i64 x.Value.N, v0, v1, v2, v3] ∧ FL v0 x.Value.F ∧ RdF (Kd.sl 5 (Kd.int .u8)) s [v1] x.Value.T C ∧ RdF (Kd.sl 98 kd98) s [v2] x.Rows C ∧ FL v3 x.Total := by
  obtain ⟨_, _, rfl, rfl, ⟨_, _, rfl, rfl, ⟨_, _, rfl, rfl, ⟨_, _, rfl, rfl, ⟨_, _, rfl, ⟨_, _, rfl, rfl, ⟨_, _, rfl, rfl, ⟨_, _, rfl, ⟨v0, rfl, h0⟩, ⟨v1, rfl, h1⟩⟩⟩⟩, ⟨_, _, rfl, ⟨v2, rfl, h2⟩, ⟨v3, rfl, h3⟩⟩⟩⟩⟩⟩⟩ := h
  exact ⟨v0, v1, v2, v3, rfl, h0, ⟨_, rfl, h1⟩, ⟨_, rfl, h2⟩, h3⟩
def kd73 : Kd Pair := Kd.iso (Kd.pair kd28 kd28) fun x => (x.Key, x.Value)
theorem op73 {s : St} {cs : List Value} {x : Pair} {C : List Nat} (h : RdF kd73 s cs x C) : ∃ (v0 : Value) (v1 : Value) (v2 : Value) (v3 : Value), cs = [.int .i64 x.Key.Kind, .int .i64 x.Key.N, v0, v1, .int .i64 x.Value.Kind, .int .i64 x.Value.N, v2, v3] ∧ FL v0 x.Key.F ∧ RdF (Kd.sl 5 (Kd.int .u8)) s [v1] x.Key.T C ∧ FL v2 x.Value.F ∧ RdF (Kd.sl 5 (Kd.int .u8)) s [v3] x.Value.T C := by
  obtain ⟨_, _, rfl, ⟨_, _, rfl, rfl, ⟨_, _, rfl, rfl, ⟨_, _, rfl, ⟨v0, rfl, h0⟩, ⟨v1, rfl, h1⟩⟩⟩⟩, ⟨_, _, rfl, rfl, ⟨_, _, rfl, rfl, ⟨_, _, rfl, ⟨v2, rfl, h2⟩, ⟨v3, rfl, h3⟩⟩⟩⟩⟩ := h
  exact ⟨v0, v1, v2, v3, rfl, h0, ⟨_, rfl, h1⟩, h2, ⟨_, rfl, h3⟩⟩
theorem po73 {w : World} {cs : List Value} {x : Pair} {os : List Nat} (h : kd73.ow w cs x os) : ∃ (v0 : Value) (v1 : Value) (v2 : Value) (v3 : Value) (p1 : List Nat) (p3 : List Nat), cs = [.int .i64 x.Key.Kind, .int .i64 x.Key.N, v0, v1, .int .i64 x.Value.Kind, .int .i64 x.Value.N, v2, v3] ∧ os = p1 ++ (p3) ∧ FL v0 x.Key.F ∧ (Kd.sl 5 (Kd.int .u8)).ow w [v1] x.Key.T p1 ∧ FL v2 x.Value.F ∧ (Kd.sl 5 (Kd.int .u8)).ow w [v3] x.Value.T p3 := by
  obtain ⟨_, _, _, _, rfl, rfl, ⟨_, _, _, _, rfl, rfl, ⟨rfl, rfl⟩, ⟨_, _, _, _, rfl, rfl, ⟨rfl, rfl⟩, ⟨_, _, _, p1, rfl, rfl, ⟨⟨v0, rfl, h0⟩, rfl⟩, ⟨v1, rfl, h1⟩⟩⟩⟩, ⟨_, _, _, _, rfl, rfl, ⟨rfl, rfl⟩, ⟨_, _, _, _, rfl, rfl, ⟨rfl, rfl⟩, ⟨_, _, _, p3, rfl, rfl, ⟨⟨v2, rfl, h2⟩, rfl⟩, ⟨v3, rfl, h3⟩⟩⟩⟩⟩ := h
  exact ⟨_, _, _, _, p1, p3, rfl, by simp, h0, ⟨_, rfl, h1⟩, h2, ⟨_, rfl, h3⟩⟩
theorem ap73 {s : St} {x : Pair} {z0 z1 z4 z5 v0 v1 v2 v3 : Value} {c : Nat} (c1 : Nat) (h : OwF kd73 s [z0, z1, v0, v1, z4, z5, v2, v3] x c) (h40 : Nat.ble 40 c = true) : ∃ s', s.w = s'.w ∧ Stp [c] s s' ∧ FL v0 x.Key.F ∧ OwF (Kd.sl 5 (Kd.int .u8)) s' [v1] x.Key.T c ∧ FL v2 x.Value.F ∧ OwF (Kd.sl 5 (Kd.int .u8)) s' [v3] x.Value.T c1 := by
  obtain ⟨os, ho, hn, hc⟩ := h
  obtain ⟨u0, u1, u2, u3, p1, p3, e, eo, h0, h1, h2, h3⟩ := po73 ho
  have y0 : v0 = u0 := congrArg (fun l => (List.drop 2 l).headD undef) e
  have y1 : v1 = u1 := congrArg (fun l => (List.drop 3 l).headD undef) e
  have y2 : v2 = u2 := congrArg (fun l => (List.drop 6 l).headD undef) e
  have y3 : v3 = u3 := congrArg (fun l => (List.drop 7 l).headD undef) e
  subst y0
  subst y1
  subst y2
  subst y3
  subst eo
  obtain ⟨s0, w0, p_0, A1, hn0, hc0⟩ := sp2 c1 h1 hn hc h40
  exact ⟨s0, w0, p_0, h0, A1, h2, sp1 (w0 ▸ h3) hn0 hc0⟩
def kd42 : Kd Reply := Kd.iso (Kd.pair (Kd.int .i64) (Kd.pair (Kd.int .i64) (Kd.pair (Kd.int .i64) (Kd.pair (Kd.int .i64) (Kd.pair kd28 (Kd.pair (Kd.sl 73 kd73) Kd.flt)))))) fun x => (x.Seat, x.Kind, x.Code, x.N, x.Value, x.Rows, x.Total)
theorem po42 {w : World} {cs : List Value} {x : Reply} {os : List Nat} (h : kd42.ow w cs x os) : ∃ (v0 : Value) (v1 : Value) (v2 : Value) (v3 : Value) (p1 : List Nat) (p2 : List Nat), cs = [.int .i64 x.Seat, .int .i64 x.Kind, .int .i64 x.Code, .int .i64 x.N, .int .i64 x.Value.Kind, .int .i64 x.Value.N, v0, v1, v2, v3] ∧ os = p1 ++ (p2) ∧ FL v0 x.Value.F ∧ (Kd.sl 5 (Kd.int .u8)).ow w [v1] x.Value.T p1 ∧ (Kd.sl 73 kd73).ow w [v2] x.Rows p2 ∧ FL v3 x.Total := by
  obtain ⟨_, _, _, _, rfl, rfl, ⟨rfl, rfl⟩, ⟨_, _, _, _, rfl, rfl, ⟨rfl, rfl⟩, ⟨_, _, _, _, rfl, rfl, ⟨rfl, rfl⟩, ⟨_, _, _, _, rfl, rfl, ⟨rfl, rfl⟩, ⟨_, _, _, _, rfl, rfl, ⟨_, _, _, _, rfl, rfl, ⟨rfl, rfl⟩, ⟨_, _, _, _, rfl, rfl, ⟨rfl, rfl⟩, ⟨_, _, _, p1, rfl, rfl, ⟨⟨v0, rfl, h0⟩, rfl⟩, ⟨v1, rfl, h1⟩⟩⟩⟩, ⟨_, _, p2, _, rfl, rfl, ⟨v2, rfl, h2⟩, ⟨⟨v3, rfl, h3⟩, rfl⟩⟩⟩⟩⟩⟩⟩ := h
  exact ⟨_, _, _, _, p1, p2, rfl, by simp, h0, ⟨_, rfl, h1⟩, ⟨_, rfl, h2⟩, h3⟩
theorem ap42 {s : St} {x : Reply} {z0 z1 z2 z3 z4 z5 v0 v1 v2 v3 : Value} {c : Nat} (c1 : Nat) (h : OwF kd42 s [z0, z1, z2, z3, z4, z5, v0, v1, v2, v3] x c) (h40 : Nat.ble 40 c = true) : ∃ s', s.w = s'.w ∧ Stp [c] s s' ∧ FL v0 x.Value.F ∧ OwF (Kd.sl 5 (Kd.int .u8)) s' [v1] x.Value.T c ∧ OwF (Kd.sl 73 kd73) s' [v2] x.Rows c1 ∧ FL v3 x.Total := by
  obtain ⟨os, ho, hn, hc⟩ := h
  obtain ⟨u0, u1, u2, u3, p1, p2, e, eo, h0, h1, h2, h3⟩ := po42 ho
  have y0 : v0 = u0 := congrArg (fun l => (List.drop 6 l).headD undef) e
  have y1 : v1 = u1 := congrArg (fun l => (List.drop 7 l).headD undef) e
  have y2 : v2 = u2 := congrArg (fun l => (List.drop 8 l).headD undef) e
  have y3 : v3 = u3 := congrArg (fun l => (List.drop 9 l).headD undef) e
  subst y0
  subst y1
  subst y2
  subst y3
  subst eo
  obtain ⟨s0, w0, p_0, A1, hn0, hc0⟩ := sp2 c1 h1 hn hc h40
  exact ⟨s0, w0, p_0, h0, A1, sp1 (w0 ▸ h2) hn0 hc0, h3⟩
def ok_Item (x : Item) : Prop := InK .i64 x.Kind ∧ InK .i64 x.N ∧ okF x.F ∧ (x.T.length ≤ maxLen ∧ ∀ y ∈ x.T, InK .u8 y)
theorem tr25 : Opn Tryd.prog 25 kd25 ok_Item := tr_iso (fun x : Item => (x.Kind, x.N, x.F, x.T)) (fun x => ⟨x.1, x.2.1, x.2.2.1, x.2.2.2⟩) (fun _ => rfl) (tr_st Tryd.underlying25 (by kernel_rfl) (tf_cons rfl (by kernel_rfl) (tr_int Tryd.underlying3) (tf_cons rfl (by kernel_rfl) (tr_int Tryd.underlying3) (tf_cons rfl (by kernel_rfl) (tr_flt Tryd.underlying22) (tf_last rfl (by kernel_rfl) (tr_sl (e' := 5) Tryd.underlying23 (by kernel_rfl) (tr_int Tryd.underlying5)))))))
def ok_Pair (x : Pair) : Prop := ok_Item x.Key ∧ ok_Item x.Value
theorem tr98 : Opn Tryd.prog 98 kd98 ok_Pair := tr_iso (fun x : Pair => (x.Key, x.Value)) (fun x => ⟨x.1, x.2⟩) (fun _ => rfl) (tr_st Tryd.underlying98 (by kernel_rfl) (tf_cons rfl (by kernel_rfl) tr25 (tf_last rfl (by kernel_rfl) tr25)))
def ok_Reply (x : Reply) : Prop := InK .i64 x.Seat ∧ InK .i64 x.Kind ∧ InK .i64 x.Code ∧ InK .i64 x.N ∧ ok_Item x.Value ∧ (x.Rows.length ≤ maxLen ∧ ∀ y ∈ x.Rows, ok_Pair y) ∧ okF x.Total
theorem tr37 : Opn Tryd.prog 37 kd37 ok_Reply := tr_iso (fun x : Reply => (x.Seat, x.Kind, x.Code, x.N, x.Value, x.Rows, x.Total)) (fun x => ⟨x.1, x.2.1, x.2.2.1, x.2.2.2.1, x.2.2.2.2.1, x.2.2.2.2.2.1, x.2.2.2.2.2.2⟩) (fun _ => rfl) (tr_st Tryd.underlying37 (by kernel_rfl) (tf_cons rfl (by kernel_rfl) (tr_int Tryd.underlying3) (tf_cons rfl (by kernel_rfl) (tr_int Tryd.underlying3) (tf_cons rfl (by kernel_rfl) (tr_int Tryd.underlying3) (tf_cons rfl (by kernel_rfl) (tr_int Tryd.underlying3) (tf_cons rfl (by kernel_rfl) tr25 (tf_cons rfl (by kernel_rfl) (tr_sl (e' := 98) Tryd.underlying35 (by kernel_rfl) tr98) (tf_last rfl (by kernel_rfl) (tr_flt Tryd.underlying22)))))))))
theorem xn63 : Extern.findNext Tryd.f63 = none := by kernel_rfl
theorem xf63 : Extern.find Tryd.f63 = some Extern.MathFloatBits.float64bits := by kernel_rfl
theorem fa25_0 : ∀ (a : Addr) (w : World), (Instr.fieldAt 25 (.pointer (some a)) 0).run Tryd.prog w = .ok (.pointer (some (a.add 0))) w := fun _ _ => by kernel_rfl
theorem fa25_1 : ∀ (a : Addr) (w : World), (Instr.fieldAt 25 (.pointer (some a)) 1).run Tryd.prog w = .ok (.pointer (some (a.add 1))) w := fun _ _ => by kernel_rfl
theorem fa25_2 : ∀ (a : Addr) (w : World), (Instr.fieldAt 25 (.pointer (some a)) 2).run Tryd.prog w = .ok (.pointer (some (a.add 2))) w := fun _ _ => by kernel_rfl
theorem fa25_3 : ∀ (a : Addr) (w : World), (Instr.fieldAt 25 (.pointer (some a)) 3).run Tryd.prog w = .ok (.pointer (some (a.add 3))) w := fun _ _ => by kernel_rfl
theorem fa28_0 : ∀ (a : Addr) (w : World), (Instr.fieldAt 28 (.pointer (some a)) 0).run Tryd.prog w = .ok (.pointer (some (a.add 0))) w := fun _ _ => by kernel_rfl
theorem fa28_1 : ∀ (a : Addr) (w : World), (Instr.fieldAt 28 (.pointer (some a)) 1).run Tryd.prog w = .ok (.pointer (some (a.add 1))) w := fun _ _ => by kernel_rfl
theorem fa28_2 : ∀ (a : Addr) (w : World), (Instr.fieldAt 28 (.pointer (some a)) 2).run Tryd.prog w = .ok (.pointer (some (a.add 2))) w := fun _ _ => by kernel_rfl
theorem fa28_3 : ∀ (a : Addr) (w : World), (Instr.fieldAt 28 (.pointer (some a)) 3).run Tryd.prog w = .ok (.pointer (some (a.add 3))) w := fun _ _ => by kernel_rfl
theorem fa37_0 : ∀ (a : Addr) (w : World), (Instr.fieldAt 37 (.pointer (some a)) 0).run Tryd.prog w = .ok (.pointer (some (a.add 0))) w := fun _ _ => by kernel_rfl
theorem fa37_1 : ∀ (a : Addr) (w : World), (Instr.fieldAt 37 (.pointer (some a)) 1).run Tryd.prog w = .ok (.pointer (some (a.add 1))) w := fun _ _ => by kernel_rfl
theorem fa37_2 : ∀ (a : Addr) (w : World), (Instr.fieldAt 37 (.pointer (some a)) 2).run Tryd.prog w = .ok (.pointer (some (a.add 2))) w := fun _ _ => by kernel_rfl
theorem fa37_3 : ∀ (a : Addr) (w : World), (Instr.fieldAt 37 (.pointer (some a)) 3).run Tryd.prog w = .ok (.pointer (some (a.add 3))) w := fun _ _ => by kernel_rfl
theorem fa37_4 : ∀ (a : Addr) (w : World), (Instr.fieldAt 37 (.pointer (some a)) 4).run Tryd.prog w = .ok (.pointer (some (a.add 4))) w := fun _ _ => by kernel_rfl
theorem fa37_5 : ∀ (a : Addr) (w : World), (Instr.fieldAt 37 (.pointer (some a)) 5).run Tryd.prog w = .ok (.pointer (some (a.add 8))) w := fun _ _ => by kernel_rfl
theorem fa37_6 : ∀ (a : Addr) (w : World), (Instr.fieldAt 37 (.pointer (some a)) 6).run Tryd.prog w = .ok (.pointer (some (a.add 9))) w := fun _ _ => by kernel_rfl
theorem fa42_0 : ∀ (a : Addr) (w : World), (Instr.fieldAt 42 (.pointer (some a)) 0).run Tryd.prog w = .ok (.pointer (some (a.add 0))) w := fun _ _ => by kernel_rfl
theorem fa42_1 : ∀ (a : Addr) (w : World), (Instr.fieldAt 42 (.pointer (some a)) 1).run Tryd.prog w = .ok (.pointer (some (a.add 1))) w := fun _ _ => by kernel_rfl
theorem fa42_2 : ∀ (a : Addr) (w : World), (Instr.fieldAt 42 (.pointer (some a)) 2).run Tryd.prog w = .ok (.pointer (some (a.add 2))) w := fun _ _ => by kernel_rfl
theorem fa42_3 : ∀ (a : Addr) (w : World), (Instr.fieldAt 42 (.pointer (some a)) 3).run Tryd.prog w = .ok (.pointer (some (a.add 3))) w := fun _ _ => by kernel_rfl
theorem fa42_4 : ∀ (a : Addr) (w : World), (Instr.fieldAt 42 (.pointer (some a)) 4).run Tryd.prog w = .ok (.pointer (some (a.add 4))) w := fun _ _ => by kernel_rfl
theorem fa42_5 : ∀ (a : Addr) (w : World), (Instr.fieldAt 42 (.pointer (some a)) 5).run Tryd.prog w = .ok (.pointer (some (a.add 8))) w := fun _ _ => by kernel_rfl
theorem fa42_6 : ∀ (a : Addr) (w : World), (Instr.fieldAt 42 (.pointer (some a)) 6).run Tryd.prog w = .ok (.pointer (some (a.add 9))) w := fun _ _ => by kernel_rfl
theorem fa73_0 : ∀ (a : Addr) (w : World), (Instr.fieldAt 73 (.pointer (some a)) 0).run Tryd.prog w = .ok (.pointer (some (a.add 0))) w := fun _ _ => by kernel_rfl
theorem fa73_1 : ∀ (a : Addr) (w : World), (Instr.fieldAt 73 (.pointer (some a)) 1).run Tryd.prog w = .ok (.pointer (some (a.add 4))) w := fun _ _ => by kernel_rfl
theorem fa98_0 : ∀ (a : Addr) (w : World), (Instr.fieldAt 98 (.pointer (some a)) 0).run Tryd.prog w = .ok (.pointer (some (a.add 0))) w := fun _ _ => by kernel_rfl
theorem fa98_1 : ∀ (a : Addr) (w : World), (Instr.fieldAt 98 (.pointer (some a)) 1).run Tryd.prog w = .ok (.pointer (some (a.add 4))) w := fun _ _ => by kernel_rfl
theorem o28 : (Tryd.prog.info? 28).bind (·.zero) = some (.agg #[.int .i64 0, .int .i64 0, .float .f64 0, .slice none 0 0]) := by kernel_rfl
theorem o42 : (Tryd.prog.info? 42).bind (·.zero) = some (.agg #[.int .i64 0, .int .i64 0, .int .i64 0, .int .i64 0, .int .i64 0, .int .i64 0, .float .f64 0, .slice none 0 0, .slice none 0 0, .float .f64 0]) := by kernel_rfl
theorem o5 : (Tryd.prog.info? 5).bind (·.zero) = some (.int .u8 0) := by kernel_rfl
theorem o73 : (Tryd.prog.info? 73).bind (·.zero) = some (.agg #[.int .i64 0, .int .i64 0, .float .f64 0, .slice none 0 0, .int .i64 0, .int .i64 0, .float .f64 0, .slice none 0 0]) := by kernel_rfl
theorem o9 : (Tryd.prog.info? 9).bind (·.zero) = some (.string ⟨#[]⟩) := by kernel_rfl
theorem sl23 : SlT Tryd.prog 23 5 1 := SlT.mk (by_ := 1) (z := (.int .u8 0)) Tryd.underlying23 (by kernel_rfl) rfl rfl rfl
theorem sl40 : SlT Tryd.prog 40 73 8 := SlT.mk (by_ := 96) (z := (.agg #[.int .i64 0, .int .i64 0, .float .f64 0, .slice none 0 0, .int .i64 0, .int .i64 0, .float .f64 0, .slice none 0 0])) Tryd.underlying40 (by kernel_rfl) rfl rfl rfl
theorem sl80 : SlT Tryd.prog 80 9 1 := SlT.mk (by_ := 16) (z := (.string ⟨#[]⟩)) Tryd.underlying80 (by kernel_rfl) rfl rfl rfl
theorem z22 : (Tryd.prog.info? 22).map (·.size) = some 1 := by kernel_rfl
theorem z23 : (Tryd.prog.info? 23).map (·.size) = some 1 := by kernel_rfl
theorem z25 : (Tryd.prog.info? 25).map (·.size) = some 4 := by kernel_rfl
theorem z28 : (Tryd.prog.info? 28).map (·.size) = some 4 := by kernel_rfl
theorem z3 : (Tryd.prog.info? 3).map (·.size) = some 1 := by kernel_rfl
theorem z37 : (Tryd.prog.info? 37).map (·.size) = some 10 := by kernel_rfl
theorem z4 : (Tryd.prog.info? 4).map (·.size) = some 1 := by kernel_rfl
theorem z40 : (Tryd.prog.info? 40).map (·.size) = some 1 := by kernel_rfl
theorem z42 : (Tryd.prog.info? 42).map (·.size) = some 10 := by kernel_rfl
theorem z5 : (Tryd.prog.info? 5).map (·.size) = some 1 := by kernel_rfl
theorem z73 : (Tryd.prog.info? 73).map (·.size) = some 8 := by kernel_rfl
theorem z9 : (Tryd.prog.info? 9).map (·.size) = some 1 := by kernel_rfl
theorem z98 : (Tryd.prog.info? 98).map (·.size) = some 8 := by kernel_rfl
noncomputable def gTab : Nat := (Tryd.prog.globalNamed "internal/strconv.uint64pow10").getD 0
theorem hTab : Tryd.prog.globalNamed "internal/strconv.uint64pow10" = some gTab := by kernel_rfl
noncomputable def GT : Kd Unit := Kd.glb [gTab] (fun w => Lib.TabIs Tryd.prog w "internal/strconv.uint64pow10" .u64 Lib.pow10Tab) (fun w w' h h1 => by unfold Lib.TabIs at *; rw [var_fr hTab (h _ (by simp))]; exact h1)

abbrev Xj := Kd.sl 5 (Kd.int .u8)
abbrev Xk := Kd.sl 73 kd73
abbrev u3 := Tryd.underlying3
abbrev u4 := Tryd.underlying4
abbrev u5 := Tryd.underlying5
abbrev u9 := Tryd.underlying9
abbrev u22 := Tryd.underlying22
abbrev u23 := Tryd.underlying23
abbrev u25 := Tryd.underlying25
abbrev u28 := Tryd.underlying28
abbrev u35 := Tryd.underlying35
abbrev u37 := Tryd.underlying37
abbrev u40 := Tryd.underlying40
abbrev u42 := Tryd.underlying42
abbrev u65 := Tryd.underlying65
abbrev u73 := Tryd.underlying73
abbrev u80 := Tryd.underlying80
abbrev u92 := Tryd.underlying92
abbrev u98 := Tryd.underlying98
end Go.Proofs.YtiofnjnnocjbhaaDoor
