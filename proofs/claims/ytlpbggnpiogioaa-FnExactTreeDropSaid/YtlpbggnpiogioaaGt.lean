import Derived.Test.YtlpbggnpiogioaaProg
import Derived.Test.YtlpbggnpiogioaaG2
import Derived.KernelRfl

set_option linter.unusedVariables false
set_option linter.unusedSimpArgs false
namespace Go.Proofs.Ytlpbggnpiogioaa
open Go V
structure Item where
  Kind : Int
  N : Int
  F : Nat
  T : (List Int)
  deriving Inhabited, DecidableEq
structure Entry where
  Key : Item
  Id : Int
  deriving Inhabited, DecidableEq
structure Node where
  Leaf : Bool
  Entries : (List Entry)
  Kids : (List Int)
  deriving Inhabited, DecidableEq
structure Tree where
  Nodes : (List Node)
  Root : Int
  deriving Inhabited, DecidableEq
structure l11walk where
  seen : (List Bool)
  deep : Int
  wrong : Bool
  all : (List Entry)
  deriving Inhabited, DecidableEq
structure treeCheck where
  t : Tree
  seen : MD
  deep : Int
  deriving Inhabited, DecidableEq
def kd28 : Kd Item := Kd.iso (Kd.pair (Kd.int .i64) (Kd.pair (Kd.int .i64) (Kd.pair Kd.flt (Kd.sl 5 (Kd.int .u8))))) fun x => (x.Kind, x.N, x.F, x.T)
theorem op28 {s : St} {cs : List Value} {x : Item} {C : List Nat} (h : RdF kd28 s cs x C) : ∃ (v0 : Value) (v1 : Value), cs = [.int .i64 x.Kind, .int .i64 x.N, v0, v1] ∧ FL v0 x.F ∧ RdF (Kd.sl 5 (Kd.int .u8)) s [v1] x.T C := by
  obtain ⟨_, _, rfl, rfl, ⟨_, _, rfl, rfl, ⟨_, _, rfl, ⟨v0, rfl, h0⟩, ⟨v1, rfl, h1⟩⟩⟩⟩ := h
  exact ⟨v0, v1, rfl, h0, ⟨_, rfl, h1⟩⟩
def kd112 : Kd Entry := Kd.iso (Kd.pair kd28 (Kd.int .i64)) fun x => (x.Key, x.Id)
theorem op112 {s : St} {cs : List Value} {x : Entry} {C : List Nat} (h : RdF kd112 s cs x C) : ∃ (v0 : Value) (v1 : Value), cs = [.int .i64 x.Key.Kind, .int .i64 x.Key.N, v0, v1, .int .i64 x.Id] ∧ FL v0 x.Key.F ∧ RdF (Kd.sl 5 (Kd.int .u8)) s [v1] x.Key.T C := by
  obtain ⟨_, _, rfl, ⟨_, _, rfl, rfl, ⟨_, _, rfl, rfl, ⟨_, _, rfl, ⟨v0, rfl, h0⟩, ⟨v1, rfl, h1⟩⟩⟩⟩, rfl⟩ := h
  exact ⟨v0, v1, rfl, h0, ⟨_, rfl, h1⟩⟩
def kd72 : Kd Node := Kd.iso (Kd.pair Kd.bool (Kd.pair (Kd.sl 112 kd112) (Kd.sl 3 (Kd.int .i64)))) fun x => (x.Leaf, x.Entries, x.Kids)
theorem op72 {s : St} {cs : List Value} {x : Node} {C : List Nat} (h : RdF kd72 s cs x C) : ∃ (v0 : Value) (v1 : Value), cs = [.bool x.Leaf, v0, v1] ∧ RdF (Kd.sl 112 kd112) s [v0] x.Entries C ∧ RdF (Kd.sl 3 (Kd.int .i64)) s [v1] x.Kids C := by
  obtain ⟨_, _, rfl, rfl, ⟨_, _, rfl, ⟨v0, rfl, h0⟩, ⟨v1, rfl, h1⟩⟩⟩ := h
  exact ⟨v0, v1, rfl, ⟨_, rfl, h0⟩, ⟨_, rfl, h1⟩⟩
def kd24 : Kd Tree := Kd.iso (Kd.pair (Kd.sl 72 kd72) (Kd.int .i64)) fun x => (x.Nodes, x.Root)
theorem op24 {s : St} {cs : List Value} {x : Tree} {C : List Nat} (h : RdF kd24 s cs x C) : ∃ (v0 : Value), cs = [v0, .int .i64 x.Root] ∧ RdF (Kd.sl 72 kd72) s [v0] x.Nodes C := by
  obtain ⟨_, _, rfl, ⟨v0, rfl, h0⟩, rfl⟩ := h
  exact ⟨v0, rfl, ⟨_, rfl, h0⟩⟩
def kd37 : Kd Item := Kd.iso (Kd.pair (Kd.int .i64) (Kd.pair (Kd.int .i64) (Kd.pair Kd.flt (Kd.sl 5 (Kd.int .u8))))) fun x => (x.Kind, x.N, x.F, x.T)
theorem po37 {w : World} {cs : List Value} {x : Item} {os : List Nat} (h : kd37.ow w cs x os) : ∃ (v0 : Value) (v1 : Value) (p1 : List Nat), cs = [.int .i64 x.Kind, .int .i64 x.N, v0, v1] ∧ os = p1 ∧ FL v0 x.F ∧ (Kd.sl 5 (Kd.int .u8)).ow w [v1] x.T p1 := by
  obtain ⟨_, _, _, _, rfl, rfl, ⟨rfl, rfl⟩, ⟨_, _, _, _, rfl, rfl, ⟨rfl, rfl⟩, ⟨_, _, _, p1, rfl, rfl, ⟨⟨v0, rfl, h0⟩, rfl⟩, ⟨v1, rfl, h1⟩⟩⟩⟩ := h
  exact ⟨_, _, p1, rfl, by simp, h0, ⟨_, rfl, h1⟩⟩
theorem ap37 {s : St} {x : Item} {z0 z1 v0 v1 : Value} {c : Nat} (h : OwF kd37 s [z0, z1, v0, v1] x c) : FL v0 x.F ∧ OwF (Kd.sl 5 (Kd.int .u8)) s [v1] x.T c := by
  obtain ⟨os, ho, hn, hc⟩ := h
  obtain ⟨u0, u1, p1, e, eo, h0, h1⟩ := po37 ho
  have y0 : v0 = u0 := congrArg (fun l => (List.drop 2 l).headD undef) e
  have y1 : v1 = u1 := congrArg (fun l => (List.drop 3 l).headD undef) e
  subst y0
  subst y1
  subst eo
  exact ⟨h0, sp1 h1 hn hc⟩
def kd48 : Kd Entry := Kd.iso (Kd.pair kd37 (Kd.int .i64)) fun x => (x.Key, x.Id)
theorem op48 {s : St} {cs : List Value} {x : Entry} {C : List Nat} (h : RdF kd48 s cs x C) : ∃ (v0 : Value) (v1 : Value), cs = [.int .i64 x.Key.Kind, .int .i64 x.Key.N, v0, v1, .int .i64 x.Id] ∧ FL v0 x.Key.F ∧ RdF (Kd.sl 5 (Kd.int .u8)) s [v1] x.Key.T C := by
  obtain ⟨_, _, rfl, ⟨_, _, rfl, rfl, ⟨_, _, rfl, rfl, ⟨_, _, rfl, ⟨v0, rfl, h0⟩, ⟨v1, rfl, h1⟩⟩⟩⟩, rfl⟩ := h
  exact ⟨v0, v1, rfl, h0, ⟨_, rfl, h1⟩⟩
theorem po48 {w : World} {cs : List Value} {x : Entry} {os : List Nat} (h : kd48.ow w cs x os) : ∃ (v0 : Value) (v1 : Value) (p1 : List Nat), cs = [.int .i64 x.Key.Kind, .int .i64 x.Key.N, v0, v1, .int .i64 x.Id] ∧ os = p1 ∧ FL v0 x.Key.F ∧ (Kd.sl 5 (Kd.int .u8)).ow w [v1] x.Key.T p1 := by
  obtain ⟨_, _, _, _, rfl, rfl, ⟨_, _, _, _, rfl, rfl, ⟨rfl, rfl⟩, ⟨_, _, _, _, rfl, rfl, ⟨rfl, rfl⟩, ⟨_, _, _, p1, rfl, rfl, ⟨⟨v0, rfl, h0⟩, rfl⟩, ⟨v1, rfl, h1⟩⟩⟩⟩, ⟨rfl, rfl⟩⟩ := h
  exact ⟨_, _, p1, rfl, by simp, h0, ⟨_, rfl, h1⟩⟩
theorem ap48 {s : St} {x : Entry} {z0 z1 z4 v0 v1 : Value} {c : Nat} (h : OwF kd48 s [z0, z1, v0, v1, z4] x c) : FL v0 x.Key.F ∧ OwF (Kd.sl 5 (Kd.int .u8)) s [v1] x.Key.T c := by
  obtain ⟨os, ho, hn, hc⟩ := h
  obtain ⟨u0, u1, p1, e, eo, h0, h1⟩ := po48 ho
  have y0 : v0 = u0 := congrArg (fun l => (List.drop 2 l).headD undef) e
  have y1 : v1 = u1 := congrArg (fun l => (List.drop 3 l).headD undef) e
  subst y0
  subst y1
  subst eo
  exact ⟨h0, sp1 h1 hn hc⟩
theorem mk48 {s : St} {x : Entry} {C : List Nat} {v0 : Value} {v1 : Value} (h0 : FL v0 x.Key.F) (h1 : RdF (Kd.sl 5 (Kd.int .u8)) s [v1] x.Key.T C) : RdF kd48 s [.int .i64 x.Key.Kind, .int .i64 x.Key.N, v0, v1, .int .i64 x.Id] x C := ⟨[.int .i64 x.Key.Kind, .int .i64 x.Key.N, v0, v1], [.int .i64 x.Id], rfl, ⟨[.int .i64 x.Key.Kind], [.int .i64 x.Key.N, v0, v1], rfl, rfl, ⟨[.int .i64 x.Key.N], [v0, v1], rfl, rfl, ⟨[v0], [v1], rfl, (fl_rd h0), h1⟩⟩⟩, rfl⟩
def kd57 : Kd Node := Kd.iso (Kd.pair Kd.bool (Kd.pair (Kd.sl 48 kd48) (Kd.sl 3 (Kd.int .i64)))) fun x => (x.Leaf, x.Entries, x.Kids)
theorem op57 {s : St} {cs : List Value} {x : Node} {C : List Nat} (h : RdF kd57 s cs x C) : ∃ (v0 : Value) (v1 : Value), cs = [.bool x.Leaf, v0, v1] ∧ RdF (Kd.sl 48 kd48) s [v0] x.Entries C ∧ RdF (Kd.sl 3 (Kd.int .i64)) s [v1] x.Kids C := by
  obtain ⟨_, _, rfl, rfl, ⟨_, _, rfl, ⟨v0, rfl, h0⟩, ⟨v1, rfl, h1⟩⟩⟩ := h
  exact ⟨v0, v1, rfl, ⟨_, rfl, h0⟩, ⟨_, rfl, h1⟩⟩
theorem po57 {w : World} {cs : List Value} {x : Node} {os : List Nat} (h : kd57.ow w cs x os) : ∃ (v0 : Value) (v1 : Value) (p0 : List Nat) (p1 : List Nat), cs = [.bool x.Leaf, v0, v1] ∧ os = p0 ++ (p1) ∧ (Kd.sl 48 kd48).ow w [v0] x.Entries p0 ∧ (Kd.sl 3 (Kd.int .i64)).ow w [v1] x.Kids p1 := by
  obtain ⟨_, _, _, _, rfl, rfl, ⟨rfl, rfl⟩, ⟨_, _, p0, p1, rfl, rfl, ⟨v0, rfl, h0⟩, ⟨v1, rfl, h1⟩⟩⟩ := h
  exact ⟨_, _, p0, p1, rfl, by simp, ⟨_, rfl, h0⟩, ⟨_, rfl, h1⟩⟩
theorem ap57 {s : St} {x : Node} {z0 v0 v1 : Value} {c : Nat} (c1 : Nat) (h : OwF kd57 s [z0, v0, v1] x c) (h40 : Nat.ble 40 c = true) : ∃ s', s.w = s'.w ∧ Stp [c] s s' ∧ OwF (Kd.sl 48 kd48) s' [v0] x.Entries c ∧ OwF (Kd.sl 3 (Kd.int .i64)) s' [v1] x.Kids c1 := by
  obtain ⟨os, ho, hn, hc⟩ := h
  obtain ⟨u0, u1, p0, p1, e, eo, h0, h1⟩ := po57 ho
  have y0 : v0 = u0 := congrArg (fun l => (List.drop 1 l).headD undef) e
  have y1 : v1 = u1 := congrArg (fun l => (List.drop 2 l).headD undef) e
  subst y0
  subst y1
  subst eo
  obtain ⟨s0, w0, p_0, A0, hn0, hc0⟩ := sp2 c1 h0 hn hc h40
  exact ⟨s0, w0, p_0, A0, sp1 (w0 ▸ h1) hn0 hc0⟩
theorem mk57 {s : St} {x : Node} {C : List Nat} {v0 : Value} {v1 : Value} (h0 : RdF (Kd.sl 48 kd48) s [v0] x.Entries C) (h1 : RdF (Kd.sl 3 (Kd.int .i64)) s [v1] x.Kids C) : RdF kd57 s [.bool x.Leaf, v0, v1] x C := ⟨[.bool x.Leaf], [v0, v1], rfl, rfl, ⟨[v0], [v1], rfl, h0, h1⟩⟩
def kd33 : Kd Tree := Kd.iso (Kd.pair (Kd.sl 57 kd57) (Kd.int .i64)) fun x => (x.Nodes, x.Root)
theorem po33 {w : World} {cs : List Value} {x : Tree} {os : List Nat} (h : kd33.ow w cs x os) : ∃ (v0 : Value) (p0 : List Nat), cs = [v0, .int .i64 x.Root] ∧ os = p0 ∧ (Kd.sl 57 kd57).ow w [v0] x.Nodes p0 := by
  obtain ⟨_, _, p0, _, rfl, rfl, ⟨v0, rfl, h0⟩, ⟨rfl, rfl⟩⟩ := h
  exact ⟨_, p0, rfl, by simp, ⟨_, rfl, h0⟩⟩
theorem ap33 {s : St} {x : Tree} {z1 v0 : Value} {c : Nat} (h : OwF kd33 s [v0, z1] x c) : OwF (Kd.sl 57 kd57) s [v0] x.Nodes c := by
  obtain ⟨os, ho, hn, hc⟩ := h
  obtain ⟨u0, p0, e, eo, h0⟩ := po33 ho
  have y0 : v0 = u0 := congrArg (fun l => (List.drop 0 l).headD undef) e
  subst y0
  subst eo
  exact sp1 h0 hn hc
def ok_Item (x : Item) : Prop := InK .i64 x.Kind ∧ InK .i64 x.N ∧ okF x.F ∧ (x.T.length ≤ maxLen ∧ ∀ y ∈ x.T, InK .u8 y)
theorem tr28 : Opn Try.prog 28 kd28 ok_Item := tr_iso (fun x : Item => (x.Kind, x.N, x.F, x.T)) (fun x => ⟨x.1, x.2.1, x.2.2.1, x.2.2.2⟩) (fun _ => rfl) (tr_st Try.underlying28 (by kernel_rfl) (tf_cons rfl (by kernel_rfl) (tr_int Try.underlying3) (tf_cons rfl (by kernel_rfl) (tr_int Try.underlying3) (tf_cons rfl (by kernel_rfl) (tr_flt Try.underlying25) (tf_last rfl (by kernel_rfl) (tr_sl (e' := 5) Try.underlying26 (by kernel_rfl) (tr_int Try.underlying5)))))))
def ok_Entry (x : Entry) : Prop := ok_Item x.Key ∧ InK .i64 x.Id
theorem tr112 : Opn Try.prog 112 kd112 ok_Entry := tr_iso (fun x : Entry => (x.Key, x.Id)) (fun x => ⟨x.1, x.2⟩) (fun _ => rfl) (tr_st Try.underlying112 (by kernel_rfl) (tf_cons rfl (by kernel_rfl) tr28 (tf_last rfl (by kernel_rfl) (tr_int Try.underlying3))))
def ok_Node (x : Node) : Prop := True ∧ (x.Entries.length ≤ maxLen ∧ ∀ y ∈ x.Entries, ok_Entry y) ∧ (x.Kids.length ≤ maxLen ∧ ∀ y ∈ x.Kids, InK .i64 y)
theorem tr72 : Opn Try.prog 72 kd72 ok_Node := tr_iso (fun x : Node => (x.Leaf, x.Entries, x.Kids)) (fun x => ⟨x.1, x.2.1, x.2.2⟩) (fun _ => rfl) (tr_st Try.underlying72 (by kernel_rfl) (tf_cons rfl (by kernel_rfl) (tr_bool Try.underlying4) (tf_cons rfl (by kernel_rfl) (tr_sl (e' := 112) Try.underlying70 (by kernel_rfl) tr112) (tf_last rfl (by kernel_rfl) (tr_sl (e' := 3) Try.underlying55 (by kernel_rfl) (tr_int Try.underlying3))))))
def ok_Tree (x : Tree) : Prop := (x.Nodes.length ≤ maxLen ∧ ∀ y ∈ x.Nodes, ok_Node y) ∧ InK .i64 x.Root
theorem tr24 : Opn Try.prog 24 kd24 ok_Tree := tr_iso (fun x : Tree => (x.Nodes, x.Root)) (fun x => ⟨x.1, x.2⟩) (fun _ => rfl) (tr_st Try.underlying24 (by kernel_rfl) (tf_cons rfl (by kernel_rfl) (tr_sl (e' := 72) Try.underlying22 (by kernel_rfl) tr72) (tf_last rfl (by kernel_rfl) (tr_int Try.underlying3))))
theorem xn67 : Extern.findNext Try.f67 = none := by kernel_rfl
theorem xf67 : Extern.find Try.f67 = some Extern.MathFloatBits.float64bits := by kernel_rfl
theorem xn88 : Extern.findNext Try.f88 = none := by kernel_rfl
theorem xf88 : Extern.find Try.f88 = some Extern.BytealgCompare.compare := by kernel_rfl
theorem fa112_0 : ∀ (a : Addr) (w : World), (Instr.fieldAt 112 (.pointer (some a)) 0).run Try.prog w = .ok (.pointer (some (a.add 0))) w := fun _ _ => by kernel_rfl
theorem fa112_1 : ∀ (a : Addr) (w : World), (Instr.fieldAt 112 (.pointer (some a)) 1).run Try.prog w = .ok (.pointer (some (a.add 4))) w := fun _ _ => by kernel_rfl
theorem fa24_0 : ∀ (a : Addr) (w : World), (Instr.fieldAt 24 (.pointer (some a)) 0).run Try.prog w = .ok (.pointer (some (a.add 0))) w := fun _ _ => by kernel_rfl
theorem fa24_1 : ∀ (a : Addr) (w : World), (Instr.fieldAt 24 (.pointer (some a)) 1).run Try.prog w = .ok (.pointer (some (a.add 1))) w := fun _ _ => by kernel_rfl
theorem fa28_0 : ∀ (a : Addr) (w : World), (Instr.fieldAt 28 (.pointer (some a)) 0).run Try.prog w = .ok (.pointer (some (a.add 0))) w := fun _ _ => by kernel_rfl
theorem fa28_1 : ∀ (a : Addr) (w : World), (Instr.fieldAt 28 (.pointer (some a)) 1).run Try.prog w = .ok (.pointer (some (a.add 1))) w := fun _ _ => by kernel_rfl
theorem fa28_2 : ∀ (a : Addr) (w : World), (Instr.fieldAt 28 (.pointer (some a)) 2).run Try.prog w = .ok (.pointer (some (a.add 2))) w := fun _ _ => by kernel_rfl
theorem fa28_3 : ∀ (a : Addr) (w : World), (Instr.fieldAt 28 (.pointer (some a)) 3).run Try.prog w = .ok (.pointer (some (a.add 3))) w := fun _ _ => by kernel_rfl
theorem fa33_0 : ∀ (a : Addr) (w : World), (Instr.fieldAt 33 (.pointer (some a)) 0).run Try.prog w = .ok (.pointer (some (a.add 0))) w := fun _ _ => by kernel_rfl
theorem fa33_1 : ∀ (a : Addr) (w : World), (Instr.fieldAt 33 (.pointer (some a)) 1).run Try.prog w = .ok (.pointer (some (a.add 1))) w := fun _ _ => by kernel_rfl
theorem fa37_0 : ∀ (a : Addr) (w : World), (Instr.fieldAt 37 (.pointer (some a)) 0).run Try.prog w = .ok (.pointer (some (a.add 0))) w := fun _ _ => by kernel_rfl
theorem fa37_1 : ∀ (a : Addr) (w : World), (Instr.fieldAt 37 (.pointer (some a)) 1).run Try.prog w = .ok (.pointer (some (a.add 1))) w := fun _ _ => by kernel_rfl
theorem fa37_2 : ∀ (a : Addr) (w : World), (Instr.fieldAt 37 (.pointer (some a)) 2).run Try.prog w = .ok (.pointer (some (a.add 2))) w := fun _ _ => by kernel_rfl
theorem fa37_3 : ∀ (a : Addr) (w : World), (Instr.fieldAt 37 (.pointer (some a)) 3).run Try.prog w = .ok (.pointer (some (a.add 3))) w := fun _ _ => by kernel_rfl
theorem fa48_0 : ∀ (a : Addr) (w : World), (Instr.fieldAt 48 (.pointer (some a)) 0).run Try.prog w = .ok (.pointer (some (a.add 0))) w := fun _ _ => by kernel_rfl
theorem fa48_1 : ∀ (a : Addr) (w : World), (Instr.fieldAt 48 (.pointer (some a)) 1).run Try.prog w = .ok (.pointer (some (a.add 4))) w := fun _ _ => by kernel_rfl
theorem fa57_0 : ∀ (a : Addr) (w : World), (Instr.fieldAt 57 (.pointer (some a)) 0).run Try.prog w = .ok (.pointer (some (a.add 0))) w := fun _ _ => by kernel_rfl
theorem fa57_1 : ∀ (a : Addr) (w : World), (Instr.fieldAt 57 (.pointer (some a)) 1).run Try.prog w = .ok (.pointer (some (a.add 1))) w := fun _ _ => by kernel_rfl
theorem fa57_2 : ∀ (a : Addr) (w : World), (Instr.fieldAt 57 (.pointer (some a)) 2).run Try.prog w = .ok (.pointer (some (a.add 2))) w := fun _ _ => by kernel_rfl
theorem fa72_0 : ∀ (a : Addr) (w : World), (Instr.fieldAt 72 (.pointer (some a)) 0).run Try.prog w = .ok (.pointer (some (a.add 0))) w := fun _ _ => by kernel_rfl
theorem fa72_1 : ∀ (a : Addr) (w : World), (Instr.fieldAt 72 (.pointer (some a)) 1).run Try.prog w = .ok (.pointer (some (a.add 1))) w := fun _ _ => by kernel_rfl
theorem fa72_2 : ∀ (a : Addr) (w : World), (Instr.fieldAt 72 (.pointer (some a)) 2).run Try.prog w = .ok (.pointer (some (a.add 2))) w := fun _ _ => by kernel_rfl
theorem fa81_0 : ∀ (a : Addr) (w : World), (Instr.fieldAt 81 (.pointer (some a)) 0).run Try.prog w = .ok (.pointer (some (a.add 0))) w := fun _ _ => by kernel_rfl
theorem fa81_1 : ∀ (a : Addr) (w : World), (Instr.fieldAt 81 (.pointer (some a)) 1).run Try.prog w = .ok (.pointer (some (a.add 1))) w := fun _ _ => by kernel_rfl
theorem fa81_2 : ∀ (a : Addr) (w : World), (Instr.fieldAt 81 (.pointer (some a)) 2).run Try.prog w = .ok (.pointer (some (a.add 2))) w := fun _ _ => by kernel_rfl
theorem fa81_3 : ∀ (a : Addr) (w : World), (Instr.fieldAt 81 (.pointer (some a)) 3).run Try.prog w = .ok (.pointer (some (a.add 3))) w := fun _ _ => by kernel_rfl
theorem fa87_0 : ∀ (a : Addr) (w : World), (Instr.fieldAt 87 (.pointer (some a)) 0).run Try.prog w = .ok (.pointer (some (a.add 0))) w := fun _ _ => by kernel_rfl
theorem fa87_1 : ∀ (a : Addr) (w : World), (Instr.fieldAt 87 (.pointer (some a)) 1).run Try.prog w = .ok (.pointer (some (a.add 2))) w := fun _ _ => by kernel_rfl
theorem fa87_2 : ∀ (a : Addr) (w : World), (Instr.fieldAt 87 (.pointer (some a)) 2).run Try.prog w = .ok (.pointer (some (a.add 3))) w := fun _ _ => by kernel_rfl
theorem o3 : (Try.prog.info? 3).bind (·.zero) = some (.int .i64 0) := by kernel_rfl
theorem o33 : (Try.prog.info? 33).bind (·.zero) = some (.agg #[.slice none 0 0, .int .i64 0]) := by kernel_rfl
theorem o37 : (Try.prog.info? 37).bind (·.zero) = some (.agg #[.int .i64 0, .int .i64 0, .float .f64 0, .slice none 0 0]) := by kernel_rfl
theorem o4 : (Try.prog.info? 4).bind (·.zero) = some (.bool false) := by kernel_rfl
theorem o48 : (Try.prog.info? 48).bind (·.zero) = some (.agg #[.int .i64 0, .int .i64 0, .float .f64 0, .slice none 0 0, .int .i64 0]) := by kernel_rfl
theorem o5 : (Try.prog.info? 5).bind (·.zero) = some (.int .u8 0) := by kernel_rfl
theorem o57 : (Try.prog.info? 57).bind (·.zero) = some (.agg #[.bool false, .slice none 0 0, .slice none 0 0]) := by kernel_rfl
theorem o81 : (Try.prog.info? 81).bind (·.zero) = some (.agg #[.slice none 0 0, .int .i64 0, .bool false, .slice none 0 0]) := by kernel_rfl
theorem o87 : (Try.prog.info? 87).bind (·.zero) = some (.agg #[.slice none 0 0, .int .i64 0, .map none, .int .i64 0]) := by kernel_rfl
theorem pl33 : PlF Try.prog 33 #[(0, 1), (1, 1)] := ⟨_, Try.underlying33, fun _ => by kernel_rfl⟩
theorem pl48 : PlF Try.prog 48 #[(0, 4), (4, 1)] := ⟨_, Try.underlying48, fun _ => by kernel_rfl⟩
theorem pl57 : PlF Try.prog 57 #[(0, 1), (1, 1), (2, 1)] := ⟨_, Try.underlying57, fun _ => by kernel_rfl⟩
theorem pl81 : PlF Try.prog 81 #[(0, 1), (1, 1), (2, 1), (3, 1)] := ⟨_, Try.underlying81, fun _ => by kernel_rfl⟩
theorem pl87 : PlF Try.prog 87 #[(0, 2), (2, 1), (3, 1)] := ⟨_, Try.underlying87, fun _ => by kernel_rfl⟩
theorem sl26 : SlT Try.prog 26 5 1 := SlT.mk (by_ := 1) (z := (.int .u8 0)) Try.underlying26 (by kernel_rfl) rfl rfl rfl
theorem sl31 : SlT Try.prog 31 57 3 := SlT.mk (by_ := 56) (z := (.agg #[.bool false, .slice none 0 0, .slice none 0 0])) Try.underlying31 (by kernel_rfl) rfl rfl rfl
theorem sl52 : SlT Try.prog 52 48 5 := SlT.mk (by_ := 56) (z := (.agg #[.int .i64 0, .int .i64 0, .float .f64 0, .slice none 0 0, .int .i64 0])) Try.underlying52 (by kernel_rfl) rfl rfl rfl
theorem sl55 : SlT Try.prog 55 3 1 := SlT.mk (by_ := 8) (z := (.int .i64 0)) Try.underlying55 (by kernel_rfl) rfl rfl rfl
theorem sl79 : SlT Try.prog 79 4 1 := SlT.mk (by_ := 1) (z := (.bool false)) Try.underlying79 (by kernel_rfl) rfl rfl rfl
theorem z112 : (Try.prog.info? 112).map (·.size) = some 5 := by kernel_rfl
theorem z24 : (Try.prog.info? 24).map (·.size) = some 2 := by kernel_rfl
theorem z25 : (Try.prog.info? 25).map (·.size) = some 1 := by kernel_rfl
theorem z26 : (Try.prog.info? 26).map (·.size) = some 1 := by kernel_rfl
theorem z28 : (Try.prog.info? 28).map (·.size) = some 4 := by kernel_rfl
theorem z3 : (Try.prog.info? 3).map (·.size) = some 1 := by kernel_rfl
theorem z31 : (Try.prog.info? 31).map (·.size) = some 1 := by kernel_rfl
theorem z33 : (Try.prog.info? 33).map (·.size) = some 2 := by kernel_rfl
theorem z37 : (Try.prog.info? 37).map (·.size) = some 4 := by kernel_rfl
theorem z4 : (Try.prog.info? 4).map (·.size) = some 1 := by kernel_rfl
theorem z48 : (Try.prog.info? 48).map (·.size) = some 5 := by kernel_rfl
theorem z5 : (Try.prog.info? 5).map (·.size) = some 1 := by kernel_rfl
theorem z52 : (Try.prog.info? 52).map (·.size) = some 1 := by kernel_rfl
theorem z55 : (Try.prog.info? 55).map (·.size) = some 1 := by kernel_rfl
theorem z57 : (Try.prog.info? 57).map (·.size) = some 3 := by kernel_rfl
theorem z72 : (Try.prog.info? 72).map (·.size) = some 3 := by kernel_rfl
theorem z79 : (Try.prog.info? 79).map (·.size) = some 1 := by kernel_rfl
abbrev Xy := Kd.sl 5 (Kd.int .u8)
abbrev Xz := Kd.sl 48 kd48
abbrev Ya := Kd.sl 3 (Kd.int .i64)
abbrev Yb := Kd.sl 57 kd57
abbrev u3 := Try.underlying3
abbrev u4 := Try.underlying4
abbrev u5 := Try.underlying5
abbrev u22 := Try.underlying22
abbrev u24 := Try.underlying24
abbrev u25 := Try.underlying25
abbrev u26 := Try.underlying26
abbrev u28 := Try.underlying28
abbrev u31 := Try.underlying31
abbrev u33 := Try.underlying33
abbrev u37 := Try.underlying37
abbrev u48 := Try.underlying48
abbrev u50 := Try.underlying50
abbrev u52 := Try.underlying52
abbrev u55 := Try.underlying55
abbrev u57 := Try.underlying57
abbrev u70 := Try.underlying70
abbrev u72 := Try.underlying72
abbrev u79 := Try.underlying79
abbrev u85 := Try.underlying85
abbrev u98 := Try.underlying98
abbrev u103 := Try.underlying103
abbrev u112 := Try.underlying112
end Go.Proofs.Ytlpbggnpiogioaa
