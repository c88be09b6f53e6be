import Derived.Test.YtlpbggnpiogioaaGreatProg
import Derived.Test.YtlpbggnpiogioaaGreatG2
import Derived.KernelRfl

set_option linter.unusedVariables false
set_option linter.unusedSimpArgs false
namespace Go.Proofs.YtlpbggnpiogioaaGreat
open Go V
structure Item where
  Kind : Int
  N : Int
  F : Nat
  T : (List Int)
  deriving Inhabited, DecidableEq
structure Entry where
  Key : Item
  Id : Int
  deriving Inhabited, DecidableEq
structure Node where
  Leaf : Bool
  Entries : (List Entry)
  Kids : (List Int)
  deriving Inhabited, DecidableEq
structure Tree where
  Nodes : (List Node)
  Root : Int
  deriving Inhabited, DecidableEq
structure l11walk where
  seen : (List Bool)
  deep : Int
  wrong : Bool
  all : (List Entry)
  deriving Inhabited, DecidableEq
structure treeCheck where
  t : Tree
  seen : MD
  deep : Int
  deriving Inhabited, DecidableEq
def kd28 : Kd Item := Kd.iso (Kd.pair (Kd.int .i64) (Kd.pair (Kd.int .i64) (Kd.pair Kd.flt (Kd.sl 5 (Kd.int .u8))))) fun x => (x.Kind, x.N, x.F, x.T)
theorem op28 {s : St} {cs : List Value} {x : Item} {C : List Nat} (h : RdF kd28 s cs x C) : ∃ (v0 : Value) (v1 : Value), cs = [.int .i64 x.Kind, .int .i64 x.N, v0, v1] ∧ FL v0 x.F ∧ RdF (Kd.sl 5 (Kd.int .u8)) s [v1] x.T C := by
  obtain ⟨_, _, rfl, rfl, ⟨_, _, rfl, rfl, ⟨_, _, rfl, ⟨v0, rfl, h0⟩, ⟨v1, rfl, h1⟩⟩⟩⟩ := h
  exact ⟨v0, v1, rfl, h0, ⟨_, rfl, h1⟩⟩
def kd121 : Kd Entry := Kd.iso (Kd.pair kd28 (Kd.int .i64)) fun x => (x.Key, x.Id)
theorem op121 {s : St} {cs : List Value} {x : Entry} {C : List Nat} (h : RdF kd121 s cs x C) : ∃ (v0 : Value) (v1 : Value), cs = [.int .i64 x.Key.Kind, .int .i64 x.Key.N, v0, v1, .int .i64 x.Id] ∧ FL v0 x.Key.F ∧ RdF (Kd.sl 5 (Kd.int .u8)) s [v1] x.Key.T C := by
  obtain ⟨_, _, rfl, ⟨_, _, rfl, rfl, ⟨_, _, rfl, rfl, ⟨_, _, rfl, ⟨v0, rfl, h0⟩, ⟨v1, rfl, h1⟩⟩⟩⟩, rfl⟩ := h
  exact ⟨v0, v1, rfl, h0, ⟨_, rfl, h1⟩⟩
def kd75 : Kd Node := Kd.iso (Kd.pair Kd.bool (Kd.pair (Kd.sl 121 kd121) (Kd.sl 3 (Kd.int .i64)))) fun x => (x.Leaf, x.Entries, x.Kids)
theorem op75 {s : St} {cs : List Value} {x : Node} {C : List Nat} (h : RdF kd75 s cs x C) : ∃ (v0 : Value) (v1 : Value), cs = [.bool x.Leaf, v0, v1] ∧ RdF (Kd.sl 121 kd121) s [v0] x.Entries C ∧ RdF (Kd.sl 3 (Kd.int .i64)) s [v1] x.Kids C := by
  obtain ⟨_, _, rfl, rfl, ⟨_, _, rfl, ⟨v0, rfl, h0⟩, ⟨v1, rfl, h1⟩⟩⟩ := h
  exact ⟨v0, v1, rfl, ⟨_, rfl, h0⟩, ⟨_, rfl, h1⟩⟩
def kd24 : Kd Tree := Kd.iso (Kd.pair (Kd.sl 75 kd75) (Kd.int .i64)) fun x => (x.Nodes, x.Root)
theorem op24 {s : St} {cs : List Value} {x : Tree} {C : List Nat} (h : RdF kd24 s cs x C) : ∃ (v0 : Value), cs = [v0, .int .i64 x.Root] ∧ RdF (Kd.sl 75 kd75) s [v0] x.Nodes C := by
  obtain ⟨_, _, rfl, ⟨v0, rfl, h0⟩, rfl⟩ := h
  exact ⟨v0, rfl, ⟨_, rfl, h0⟩⟩
def kd37 : Kd Item := Kd.iso (Kd.pair (Kd.int .i64) (Kd.pair (Kd.int .i64) (Kd.pair Kd.flt (Kd.sl 5 (Kd.int .u8))))) fun x => (x.Kind, x.N, x.F, x.T)
theorem po37 {w : World} {cs : List Value} {x : Item} {os : List Nat} (h : kd37.ow w cs x os) : ∃ (v0 : Value) (v1 : Value) (p1 : List Nat), cs = [.int .i64 x.Kind, .int .i64 x.N, v0, v1] ∧ os = p1 ∧ FL v0 x.F ∧ (Kd.sl 5 (Kd.int .u8)).ow w [v1] x.T p1 := by
  obtain ⟨_, _, _, _, rfl, rfl, ⟨rfl, rfl⟩, ⟨_, _, _, _, rfl, rfl, ⟨rfl, rfl⟩, ⟨_, _, _, p1, rfl, rfl, ⟨⟨v0, rfl, h0⟩, rfl⟩, ⟨v1, rfl, h1⟩⟩⟩⟩ := h
  exact ⟨_, _, p1, rfl, by simp, h0, ⟨_, rfl, h1⟩⟩
theorem ap37 {s : St} {x : Item} {z0 z1 v0 v1 : Value} {c : Nat} (h : OwF kd37 s [z0, z1, v0, v1] x c) : FL v0 x.F ∧ OwF (Kd.sl 5 (Kd.int .u8)) s [v1] x.T c := by
  obtain ⟨os, ho, hn, hc⟩ := h
  obtain ⟨u0, u1, p1, e, eo, h0, h1⟩ := po37 ho
  have y0 : v0 = u0 := congrArg (fun l => (List.drop 2 l).headD undef) e
  have y1 : v1 = u1 := congrArg (fun l => (List.drop 3 l).headD undef) e
  subst y0
  subst y1
  subst eo
  exact ⟨h0, sp1 h1 hn hc⟩
def kd48 : Kd Entry := Kd.iso (Kd.pair kd37 (Kd.int .i64)) fun x => (x.Key, x.Id)
theorem op48 {s : St} {cs : List Value} {x : Entry} {C : List Nat} (h : RdF kd48 s cs x C) : ∃ (v0 : Value) (v1 : Value), cs = [.int .i64 x.Key.Kind, .int .i64 x.Key.N, v0, v1, .int .i64 x.Id] ∧ FL v0 x.Key.F ∧ RdF (Kd.sl 5 (Kd.int .u8)) s [v1] x.Key.T C := by
  obtain ⟨_, _, rfl, ⟨_, _, rfl, rfl, ⟨_, _, rfl, rfl, ⟨_, _, rfl, ⟨v0, rfl, h0⟩, ⟨v1, rfl, h1⟩⟩⟩⟩, rfl⟩ := h
  exact ⟨v0, v1, rfl, h0, ⟨_, rfl, h1⟩⟩
theorem po48 {w : World} {cs : List Value} {x : Entry} {os : List Nat} (h : kd48.ow w cs x os) : ∃ (v0 : Value) (v1 : Value) (p1 : List Nat), cs = [.int .i64 x.Key.Kind, .int .i64 x.Key.N, v0, v1, .int .i64 x.Id] ∧ os = p1 ∧ FL v0 x.Key.F ∧ (Kd.sl 5 (Kd.int .u8)).ow w [v1] x.Key.T p1 := by
  obtain ⟨_, _, _, _, rfl, rfl, ⟨_, _, _, _, rfl, rfl, ⟨rfl, rfl⟩, ⟨_, _, _, _, rfl, rfl, ⟨rfl, rfl⟩, ⟨_, _, _, p1, rfl, rfl, ⟨⟨v0, rfl, h0⟩, rfl⟩, ⟨v1, rfl, h1⟩⟩⟩⟩, ⟨rfl, rfl⟩⟩ := h
  exact ⟨_, _, p1, rfl, by simp, h0, ⟨_, rfl, h1⟩⟩
theorem ap48 {s : St} {x : Entry} {z0 z1 z4 v0 v1 : Value} {c : Nat} (h : OwF kd48 s [z0, z1, v0, v1, z4] x c) : FL v0 x.Key.F ∧ OwF (Kd.sl 5 (Kd.int .u8)) s [v1] x.Key.T c := by
  obtain ⟨os, ho, hn, hc⟩ := h
  obtain ⟨u0, u1, p1, e, eo, h0, h1⟩ := po48 ho
  have y0 : v0 = u0 := congrArg (fun l => (List.drop 2 l).headD undef) e
  have y1 : v1 = u1 := congrArg (fun l => (List.drop 3 l).headD undef) e
  subst y0
  subst y1
  subst eo
  exact ⟨h0, sp1 h1 hn hc⟩
theorem mk48 {s : St} {x : Entry} {C : List Nat} {v0 : Value} {v1 : Value} (h0 : FL v0 x.Key.F) (h1 : RdF (Kd.sl 5 (Kd.int .u8)) s [v1] x.Key.T C) : RdF kd48 s [.int .i64 x.Key.Kind, .int .i64 x.Key.N, v0, v1, .int .i64 x.Id] x C := ⟨[.int .i64 x.Key.Kind, .int .i64 x.Key.N, v0, v1], [.int .i64 x.Id], rfl, ⟨[.int .i64 x.Key.Kind], [.int .i64 x.Key.N, v0, v1], rfl, rfl, ⟨[.int .i64 x.Key.N], [v0, v1], rfl, rfl, ⟨[v0], [v1], rfl, (fl_rd h0), h1⟩⟩⟩, rfl⟩
def kd61 : Kd Node := Kd.iso (Kd.pair Kd.bool (Kd.pair (Kd.sl 48 kd48) (Kd.sl 3 (Kd.int .i64)))) fun x => (x.Leaf, x.Entries, x.Kids)
theorem op61 {s : St} {cs : List Value} {x : Node} {C : List Nat} (h : RdF kd61 s cs x C) : ∃ (v0 : Value) (v1 : Value), cs = [.bool x.Leaf, v0, v1] ∧ RdF (Kd.sl 48 kd48) s [v0] x.Entries C ∧ RdF (Kd.sl 3 (Kd.int .i64)) s [v1] x.Kids C := by
  obtain ⟨_, _, rfl, rfl, ⟨_, _, rfl, ⟨v0, rfl, h0⟩, ⟨v1, rfl, h1⟩⟩⟩ := h
  exact ⟨v0, v1, rfl, ⟨_, rfl, h0⟩, ⟨_, rfl, h1⟩⟩
theorem po61 {w : World} {cs : List Value} {x : Node} {os : List Nat} (h : kd61.ow w cs x os) : ∃ (v0 : Value) (v1 : Value) (p0 : List Nat) (p1 : List Nat), cs = [.bool x.Leaf, v0, v1] ∧ os = p0 ++ (p1) ∧ (Kd.sl 48 kd48).ow w [v0] x.Entries p0 ∧ (Kd.sl 3 (Kd.int .i64)).ow w [v1] x.Kids p1 := by
  obtain ⟨_, _, _, _, rfl, rfl, ⟨rfl, rfl⟩, ⟨_, _, p0, p1, rfl, rfl, ⟨v0, rfl, h0⟩, ⟨v1, rfl, h1⟩⟩⟩ := h
  exact ⟨_, _, p0, p1, rfl, by simp, ⟨_, rfl, h0⟩, ⟨_, rfl, h1⟩⟩
theorem ap61 {s : St} {x : Node} {z0 v0 v1 : Value} {c : Nat} (c1 : Nat) (h : OwF kd61 s [z0, v0, v1] x c) (h40 : Nat.ble 40 c = true) : ∃ s', s.w = s'.w ∧ Stp [c] s s' ∧ OwF (Kd.sl 48 kd48) s' [v0] x.Entries c ∧ OwF (Kd.sl 3 (Kd.int .i64)) s' [v1] x.Kids c1 := by
  obtain ⟨os, ho, hn, hc⟩ := h
  obtain ⟨u0, u1, p0, p1, e, eo, h0, h1⟩ := po61 ho
  have y0 : v0 = u0 := congrArg (fun l => (List.drop 1 l).headD undef) e
  have y1 : v1 = u1 := congrArg (fun l => (List.drop 2 l).headD undef) e
  subst y0
  subst y1
  subst eo
  obtain ⟨s0, w0, p_0, A0, hn0, hc0⟩ := sp2 c1 h0 hn hc h40
  exact ⟨s0, w0, p_0, A0, sp1 (w0 ▸ h1) hn0 hc0⟩
theorem mk61 {s : St} {x : Node} {C : List Nat} {v0 : Value} {v1 : Value} (h0 : RdF (Kd.sl 48 kd48) s [v0] x.Entries C) (h1 : RdF (Kd.sl 3 (Kd.int .i64)) s [v1] x.Kids C) : RdF kd61 s [.bool x.Leaf, v0, v1] x C := ⟨[.bool x.Leaf], [v0, v1], rfl, rfl, ⟨[v0], [v1], rfl, h0, h1⟩⟩
def kd33 : Kd Tree := Kd.iso (Kd.pair (Kd.sl 61 kd61) (Kd.int .i64)) fun x => (x.Nodes, x.Root)
theorem po33 {w : World} {cs : List Value} {x : Tree} {os : List Nat} (h : kd33.ow w cs x os) : ∃ (v0 : Value) (p0 : List Nat), cs = [v0, .int .i64 x.Root] ∧ os = p0 ∧ (Kd.sl 61 kd61).ow w [v0] x.Nodes p0 := by
  obtain ⟨_, _, p0, _, rfl, rfl, ⟨v0, rfl, h0⟩, ⟨rfl, rfl⟩⟩ := h
  exact ⟨_, p0, rfl, by simp, ⟨_, rfl, h0⟩⟩
theorem ap33 {s : St} {x : Tree} {z1 v0 : Value} {c : Nat} (h : OwF kd33 s [v0, z1] x c) : OwF (Kd.sl 61 kd61) s [v0] x.Nodes c := by
  obtain ⟨os, ho, hn, hc⟩ := h
  obtain ⟨u0, p0, e, eo, h0⟩ := po33 ho
  have y0 : v0 = u0 := congrArg (fun l => (List.drop 0 l).headD undef) e
  subst y0
  subst eo
  exact sp1 h0 hn hc
def ok_Item (x : Item) : Prop := InK .i64 x.Kind ∧ InK .i64 x.N ∧ okF x.F ∧ (x.T.length ≤ maxLen ∧ ∀ y ∈ x.T, InK .u8 y)
theorem tr28 : Opn Tryz.prog 28 kd28 ok_Item := tr_iso (fun x : Item => (x.Kind, x.N, x.F, x.T)) (fun x => ⟨x.1, x.2.1, x.2.2.1, x.2.2.2⟩) (fun _ => rfl) (tr_st Tryz.underlying28 (by kernel_rfl) (tf_cons rfl (by kernel_rfl) (tr_int Tryz.underlying3) (tf_cons rfl (by kernel_rfl) (tr_int Tryz.underlying3) (tf_cons rfl (by kernel_rfl) (tr_flt Tryz.underlying25) (tf_last rfl (by kernel_rfl) (tr_sl (e' := 5) Tryz.underlying26 (by kernel_rfl) (tr_int Tryz.underlying5)))))))
def ok_Entry (x : Entry) : Prop := ok_Item x.Key ∧ InK .i64 x.Id
theorem tr121 : Opn Tryz.prog 121 kd121 ok_Entry := tr_iso (fun x : Entry => (x.Key, x.Id)) (fun x => ⟨x.1, x.2⟩) (fun _ => rfl) (tr_st Tryz.underlying121 (by kernel_rfl) (tf_cons rfl (by kernel_rfl) tr28 (tf_last rfl (by kernel_rfl) (tr_int Tryz.underlying3))))
def ok_Node (x : Node) : Prop := True ∧ (x.Entries.length ≤ maxLen ∧ ∀ y ∈ x.Entries, ok_Entry y) ∧ (x.Kids.length ≤ maxLen ∧ ∀ y ∈ x.Kids, InK .i64 y)
theorem tr75 : Opn Tryz.prog 75 kd75 ok_Node := tr_iso (fun x : Node => (x.Leaf, x.Entries, x.Kids)) (fun x => ⟨x.1, x.2.1, x.2.2⟩) (fun _ => rfl) (tr_st Tryz.underlying75 (by kernel_rfl) (tf_cons rfl (by kernel_rfl) (tr_bool Tryz.underlying4) (tf_cons rfl (by kernel_rfl) (tr_sl (e' := 121) Tryz.underlying73 (by kernel_rfl) tr121) (tf_last rfl (by kernel_rfl) (tr_sl (e' := 3) Tryz.underlying59 (by kernel_rfl) (tr_int Tryz.underlying3))))))
def ok_Tree (x : Tree) : Prop := (x.Nodes.length ≤ maxLen ∧ ∀ y ∈ x.Nodes, ok_Node y) ∧ InK .i64 x.Root
theorem tr24 : Opn Tryz.prog 24 kd24 ok_Tree := tr_iso (fun x : Tree => (x.Nodes, x.Root)) (fun x => ⟨x.1, x.2⟩) (fun _ => rfl) (tr_st Tryz.underlying24 (by kernel_rfl) (tf_cons rfl (by kernel_rfl) (tr_sl (e' := 75) Tryz.underlying22 (by kernel_rfl) tr75) (tf_last rfl (by kernel_rfl) (tr_int Tryz.underlying3))))
theorem xn100 : Extern.findNext Tryz.f100 = none := by kernel_rfl
theorem xf100 : Extern.find Tryz.f100 = some Extern.BytealgCompare.compare := by kernel_rfl
theorem xn72 : Extern.findNext Tryz.f72 = none := by kernel_rfl
theorem xf72 : Extern.find Tryz.f72 = some Extern.MathFloatBits.float64bits := by kernel_rfl
theorem xn77 : Extern.findNext Tryz.f77 = none := by kernel_rfl
theorem xf77 : Extern.find Tryz.f77 = some (Extern.SlicesOverlaps.overlaps #[52, 52] #[4]) := by kernel_rfl
theorem xn79 : Extern.findNext Tryz.f79 = none := by kernel_rfl
theorem xf79 : Extern.find Tryz.f79 = some (Extern.SlicesOverlaps.overlaps #[59, 59] #[4]) := by kernel_rfl
theorem fa121_0 : ∀ (a : Addr) (w : World), (Instr.fieldAt 121 (.pointer (some a)) 0).run Tryz.prog w = .ok (.pointer (some (a.add 0))) w := fun _ _ => by kernel_rfl
theorem fa121_1 : ∀ (a : Addr) (w : World), (Instr.fieldAt 121 (.pointer (some a)) 1).run Tryz.prog w = .ok (.pointer (some (a.add 4))) w := fun _ _ => by kernel_rfl
theorem fa24_0 : ∀ (a : Addr) (w : World), (Instr.fieldAt 24 (.pointer (some a)) 0).run Tryz.prog w = .ok (.pointer (some (a.add 0))) w := fun _ _ => by kernel_rfl
theorem fa24_1 : ∀ (a : Addr) (w : World), (Instr.fieldAt 24 (.pointer (some a)) 1).run Tryz.prog w = .ok (.pointer (some (a.add 1))) w := fun _ _ => by kernel_rfl
theorem fa28_0 : ∀ (a : Addr) (w : World), (Instr.fieldAt 28 (.pointer (some a)) 0).run Tryz.prog w = .ok (.pointer (some (a.add 0))) w := fun _ _ => by kernel_rfl
theorem fa28_1 : ∀ (a : Addr) (w : World), (Instr.fieldAt 28 (.pointer (some a)) 1).run Tryz.prog w = .ok (.pointer (some (a.add 1))) w := fun _ _ => by kernel_rfl
theorem fa28_2 : ∀ (a : Addr) (w : World), (Instr.fieldAt 28 (.pointer (some a)) 2).run Tryz.prog w = .ok (.pointer (some (a.add 2))) w := fun _ _ => by kernel_rfl
theorem fa28_3 : ∀ (a : Addr) (w : World), (Instr.fieldAt 28 (.pointer (some a)) 3).run Tryz.prog w = .ok (.pointer (some (a.add 3))) w := fun _ _ => by kernel_rfl
theorem fa33_0 : ∀ (a : Addr) (w : World), (Instr.fieldAt 33 (.pointer (some a)) 0).run Tryz.prog w = .ok (.pointer (some (a.add 0))) w := fun _ _ => by kernel_rfl
theorem fa33_1 : ∀ (a : Addr) (w : World), (Instr.fieldAt 33 (.pointer (some a)) 1).run Tryz.prog w = .ok (.pointer (some (a.add 1))) w := fun _ _ => by kernel_rfl
theorem fa37_0 : ∀ (a : Addr) (w : World), (Instr.fieldAt 37 (.pointer (some a)) 0).run Tryz.prog w = .ok (.pointer (some (a.add 0))) w := fun _ _ => by kernel_rfl
theorem fa37_1 : ∀ (a : Addr) (w : World), (Instr.fieldAt 37 (.pointer (some a)) 1).run Tryz.prog w = .ok (.pointer (some (a.add 1))) w := fun _ _ => by kernel_rfl
theorem fa37_2 : ∀ (a : Addr) (w : World), (Instr.fieldAt 37 (.pointer (some a)) 2).run Tryz.prog w = .ok (.pointer (some (a.add 2))) w := fun _ _ => by kernel_rfl
theorem fa37_3 : ∀ (a : Addr) (w : World), (Instr.fieldAt 37 (.pointer (some a)) 3).run Tryz.prog w = .ok (.pointer (some (a.add 3))) w := fun _ _ => by kernel_rfl
theorem fa48_0 : ∀ (a : Addr) (w : World), (Instr.fieldAt 48 (.pointer (some a)) 0).run Tryz.prog w = .ok (.pointer (some (a.add 0))) w := fun _ _ => by kernel_rfl
theorem fa48_1 : ∀ (a : Addr) (w : World), (Instr.fieldAt 48 (.pointer (some a)) 1).run Tryz.prog w = .ok (.pointer (some (a.add 4))) w := fun _ _ => by kernel_rfl
theorem fa61_0 : ∀ (a : Addr) (w : World), (Instr.fieldAt 61 (.pointer (some a)) 0).run Tryz.prog w = .ok (.pointer (some (a.add 0))) w := fun _ _ => by kernel_rfl
theorem fa61_1 : ∀ (a : Addr) (w : World), (Instr.fieldAt 61 (.pointer (some a)) 1).run Tryz.prog w = .ok (.pointer (some (a.add 1))) w := fun _ _ => by kernel_rfl
theorem fa61_2 : ∀ (a : Addr) (w : World), (Instr.fieldAt 61 (.pointer (some a)) 2).run Tryz.prog w = .ok (.pointer (some (a.add 2))) w := fun _ _ => by kernel_rfl
theorem fa75_0 : ∀ (a : Addr) (w : World), (Instr.fieldAt 75 (.pointer (some a)) 0).run Tryz.prog w = .ok (.pointer (some (a.add 0))) w := fun _ _ => by kernel_rfl
theorem fa75_1 : ∀ (a : Addr) (w : World), (Instr.fieldAt 75 (.pointer (some a)) 1).run Tryz.prog w = .ok (.pointer (some (a.add 1))) w := fun _ _ => by kernel_rfl
theorem fa75_2 : ∀ (a : Addr) (w : World), (Instr.fieldAt 75 (.pointer (some a)) 2).run Tryz.prog w = .ok (.pointer (some (a.add 2))) w := fun _ _ => by kernel_rfl
theorem fa84_0 : ∀ (a : Addr) (w : World), (Instr.fieldAt 84 (.pointer (some a)) 0).run Tryz.prog w = .ok (.pointer (some (a.add 0))) w := fun _ _ => by kernel_rfl
theorem fa84_1 : ∀ (a : Addr) (w : World), (Instr.fieldAt 84 (.pointer (some a)) 1).run Tryz.prog w = .ok (.pointer (some (a.add 1))) w := fun _ _ => by kernel_rfl
theorem fa84_2 : ∀ (a : Addr) (w : World), (Instr.fieldAt 84 (.pointer (some a)) 2).run Tryz.prog w = .ok (.pointer (some (a.add 2))) w := fun _ _ => by kernel_rfl
theorem fa84_3 : ∀ (a : Addr) (w : World), (Instr.fieldAt 84 (.pointer (some a)) 3).run Tryz.prog w = .ok (.pointer (some (a.add 3))) w := fun _ _ => by kernel_rfl
theorem fa91_0 : ∀ (a : Addr) (w : World), (Instr.fieldAt 91 (.pointer (some a)) 0).run Tryz.prog w = .ok (.pointer (some (a.add 0))) w := fun _ _ => by kernel_rfl
theorem fa91_1 : ∀ (a : Addr) (w : World), (Instr.fieldAt 91 (.pointer (some a)) 1).run Tryz.prog w = .ok (.pointer (some (a.add 2))) w := fun _ _ => by kernel_rfl
theorem fa91_2 : ∀ (a : Addr) (w : World), (Instr.fieldAt 91 (.pointer (some a)) 2).run Tryz.prog w = .ok (.pointer (some (a.add 3))) w := fun _ _ => by kernel_rfl
theorem o3 : (Tryz.prog.info? 3).bind (·.zero) = some (.int .i64 0) := by kernel_rfl
theorem o33 : (Tryz.prog.info? 33).bind (·.zero) = some (.agg #[.slice none 0 0, .int .i64 0]) := by kernel_rfl
theorem o37 : (Tryz.prog.info? 37).bind (·.zero) = some (.agg #[.int .i64 0, .int .i64 0, .float .f64 0, .slice none 0 0]) := by kernel_rfl
theorem o4 : (Tryz.prog.info? 4).bind (·.zero) = some (.bool false) := by kernel_rfl
theorem o48 : (Tryz.prog.info? 48).bind (·.zero) = some (.agg #[.int .i64 0, .int .i64 0, .float .f64 0, .slice none 0 0, .int .i64 0]) := by kernel_rfl
theorem o5 : (Tryz.prog.info? 5).bind (·.zero) = some (.int .u8 0) := by kernel_rfl
theorem o61 : (Tryz.prog.info? 61).bind (·.zero) = some (.agg #[.bool false, .slice none 0 0, .slice none 0 0]) := by kernel_rfl
theorem o84 : (Tryz.prog.info? 84).bind (·.zero) = some (.agg #[.slice none 0 0, .int .i64 0, .bool false, .slice none 0 0]) := by kernel_rfl
theorem o91 : (Tryz.prog.info? 91).bind (·.zero) = some (.agg #[.slice none 0 0, .int .i64 0, .map none, .int .i64 0]) := by kernel_rfl
theorem pl33 : PlF Tryz.prog 33 #[(0, 1), (1, 1)] := ⟨_, Tryz.underlying33, fun _ => by kernel_rfl⟩
theorem pl48 : PlF Tryz.prog 48 #[(0, 4), (4, 1)] := ⟨_, Tryz.underlying48, fun _ => by kernel_rfl⟩
theorem pl61 : PlF Tryz.prog 61 #[(0, 1), (1, 1), (2, 1)] := ⟨_, Tryz.underlying61, fun _ => by kernel_rfl⟩
theorem pl84 : PlF Tryz.prog 84 #[(0, 1), (1, 1), (2, 1), (3, 1)] := ⟨_, Tryz.underlying84, fun _ => by kernel_rfl⟩
theorem pl91 : PlF Tryz.prog 91 #[(0, 2), (2, 1), (3, 1)] := ⟨_, Tryz.underlying91, fun _ => by kernel_rfl⟩
theorem sl26 : SlT Tryz.prog 26 5 1 := SlT.mk (by_ := 1) (z := (.int .u8 0)) Tryz.underlying26 (by kernel_rfl) rfl rfl rfl
theorem sl31 : SlT Tryz.prog 31 61 3 := SlT.mk (by_ := 56) (z := (.agg #[.bool false, .slice none 0 0, .slice none 0 0])) Tryz.underlying31 (by kernel_rfl) rfl rfl rfl
theorem sl52 : SlT Tryz.prog 52 48 5 := SlT.mk (by_ := 56) (z := (.agg #[.int .i64 0, .int .i64 0, .float .f64 0, .slice none 0 0, .int .i64 0])) Tryz.underlying52 (by kernel_rfl) rfl rfl rfl
theorem sl59 : SlT Tryz.prog 59 3 1 := SlT.mk (by_ := 8) (z := (.int .i64 0)) Tryz.underlying59 (by kernel_rfl) rfl rfl rfl
theorem sl82 : SlT Tryz.prog 82 4 1 := SlT.mk (by_ := 1) (z := (.bool false)) Tryz.underlying82 (by kernel_rfl) rfl rfl rfl
theorem z121 : (Tryz.prog.info? 121).map (·.size) = some 5 := by kernel_rfl
theorem z24 : (Tryz.prog.info? 24).map (·.size) = some 2 := by kernel_rfl
theorem z25 : (Tryz.prog.info? 25).map (·.size) = some 1 := by kernel_rfl
theorem z26 : (Tryz.prog.info? 26).map (·.size) = some 1 := by kernel_rfl
theorem z28 : (Tryz.prog.info? 28).map (·.size) = some 4 := by kernel_rfl
theorem z3 : (Tryz.prog.info? 3).map (·.size) = some 1 := by kernel_rfl
theorem z31 : (Tryz.prog.info? 31).map (·.size) = some 1 := by kernel_rfl
theorem z33 : (Tryz.prog.info? 33).map (·.size) = some 2 := by kernel_rfl
theorem z37 : (Tryz.prog.info? 37).map (·.size) = some 4 := by kernel_rfl
theorem z4 : (Tryz.prog.info? 4).map (·.size) = some 1 := by kernel_rfl
theorem z48 : (Tryz.prog.info? 48).map (·.size) = some 5 := by kernel_rfl
theorem z5 : (Tryz.prog.info? 5).map (·.size) = some 1 := by kernel_rfl
theorem z52 : (Tryz.prog.info? 52).map (·.size) = some 1 := by kernel_rfl
theorem z59 : (Tryz.prog.info? 59).map (·.size) = some 1 := by kernel_rfl
theorem z61 : (Tryz.prog.info? 61).map (·.size) = some 3 := by kernel_rfl
theorem z75 : (Tryz.prog.info? 75).map (·.size) = some 3 := by kernel_rfl
theorem z82 : (Tryz.prog.info? 82).map (·.size) = some 1 := by kernel_rfl
abbrev Ym := Kd.sl 5 (Kd.int .u8)
abbrev Yn := Kd.sl 48 kd48
abbrev Yo := Kd.sl 3 (Kd.int .i64)
abbrev Yp := Kd.sl 61 kd61
abbrev u3 := Tryz.underlying3
abbrev u4 := Tryz.underlying4
abbrev u5 := Tryz.underlying5
abbrev u22 := Tryz.underlying22
abbrev u24 := Tryz.underlying24
abbrev u25 := Tryz.underlying25
abbrev u26 := Tryz.underlying26
abbrev u28 := Tryz.underlying28
abbrev u31 := Tryz.underlying31
abbrev u33 := Tryz.underlying33
abbrev u37 := Tryz.underlying37
abbrev u48 := Tryz.underlying48
abbrev u50 := Tryz.underlying50
abbrev u52 := Tryz.underlying52
abbrev u59 := Tryz.underlying59
abbrev u61 := Tryz.underlying61
abbrev u73 := Tryz.underlying73
abbrev u75 := Tryz.underlying75
abbrev u82 := Tryz.underlying82
abbrev u89 := Tryz.underlying89
abbrev u107 := Tryz.underlying107
abbrev u111 := Tryz.underlying111
abbrev u121 := Tryz.underlying121
end Go.Proofs.YtlpbggnpiogioaaGreat
