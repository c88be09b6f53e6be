/- The types of the program as data, and how they read out of memory. -/
import Derived.Test.YtcagjdngannneaaGreatProg
import Derived.Test.YtcagjdngannneaaGreatVt
import Derived.KernelRfl
set_option linter.unusedVariables false
set_option linter.unusedSimpArgs false
namespace Go.Proofs.YtcagjdngannneaaGreat
open Go V
structure Item where
  Kind : Int
  N : Int
  F : Nat
  T : (List Int)
  deriving Inhabited, DecidableEq
structure Page where
  Lsn : Int
  Slots : (List (List Int))
  deriving Inhabited, DecidableEq
structure Heap where
  Pages : (List Page)
  deriving Inhabited, DecidableEq
structure Tuple where
  Xmin : Int
  Xmax : Int
  Key : Item
  Value : Item
  deriving Inhabited, DecidableEq
structure Entry where
  Key : Item
  Id : Int
  deriving Inhabited, DecidableEq
structure Node where
  Leaf : Bool
  Entries : (List Entry)
  Kids : (List Int)
  deriving Inhabited, DecidableEq
structure Tree where
  Nodes : (List Node)
  Root : Int
  deriving Inhabited, DecidableEq
structure Record where
  Kind : Int
  Lsn : Int
  Xid : Int
  Page : Int
  Slot : Int
  Data : (List Int)
  deriving Inhabited, DecidableEq
structure Span where
  From : Item
  To : Item
  deriving Inhabited, DecidableEq
structure Track where
  Xid : Int
  Begun : Int
  Ended : Int
  All : Bool
  Reads : (List Span)
  Writes : (List Item)
  In : Bool
  Out : Bool
  deriving Inhabited, DecidableEq
structure Deed where
  Xid : Int
  Begun : Int
  Ended : Int
  Reads : (List Span)
  Writes : (List Item)
  deriving Inhabited, DecidableEq
structure l11walk where
  seen : (List Bool)
  deep : Int
  wrong : Bool
  all : (List Entry)
  deriving Inhabited, DecidableEq
def kd26 : Kd Item := Kd.iso (Kd.pair (Kd.int .i64) (Kd.pair (Kd.int .i64) (Kd.pair Kd.flt (Kd.sl 5 (Kd.int .u8))))) fun x => (x.Kind, x.N, x.F, x.T)
theorem op26 {s : St} {cs : List Value} {x : Item} {C : List Nat} (h : RdF kd26 s cs x C) : ∃ (v0 : Value) (v1 : Value), cs = [.int .i64 x.Kind, .int .i64 x.N, v0, v1] ∧ FL v0 x.F ∧ RdF (Kd.sl 5 (Kd.int .u8)) s [v1] x.T C := by
  obtain ⟨_, _, rfl, rfl, ⟨_, _, rfl, rfl, ⟨_, _, rfl, ⟨v0, rfl, h0⟩, ⟨v1, rfl, h1⟩⟩⟩⟩ := h
  exact ⟨v0, v1, rfl, h0, ⟨_, rfl, h1⟩⟩
theorem mk26 {s : St} {x : Item} {C : List Nat} {v0 : Value} {v1 : Value} (h0 : FL v0 x.F) (h1 : RdF (Kd.sl 5 (Kd.int .u8)) s [v1] x.T C) : RdF kd26 s [.int .i64 x.Kind, .int .i64 x.N, v0, v1] x C := ⟨[.int .i64 x.Kind], [.int .i64 x.N, v0, v1], rfl, rfl, ⟨[.int .i64 x.N], [v0, v1], rfl, rfl, ⟨[v0], [v1], rfl, (fl_rd h0), h1⟩⟩⟩
def kd33 : Kd Item := Kd.iso (Kd.pair (Kd.int .i64) (Kd.pair (Kd.int .i64) (Kd.pair Kd.flt (Kd.sl 5 (Kd.int .u8))))) fun x => (x.Kind, x.N, x.F, x.T)
theorem op33 {s : St} {cs : List Value} {x : Item} {C : List Nat} (h : RdF kd33 s cs x C) : ∃ (v0 : Value) (v1 : Value), cs = [.int .i64 x.Kind, .int .i64 x.N, v0, v1] ∧ FL v0 x.F ∧ RdF (Kd.sl 5 (Kd.int .u8)) s [v1] x.T C := by
  obtain ⟨_, _, rfl, rfl, ⟨_, _, rfl, rfl, ⟨_, _, rfl, ⟨v0, rfl, h0⟩, ⟨v1, rfl, h1⟩⟩⟩⟩ := h
  exact ⟨v0, v1, rfl, h0, ⟨_, rfl, h1⟩⟩
theorem po33 {w : World} {cs : List Value} {x : Item} {os : List Nat} (h : kd33.ow w cs x os) : ∃ (v0 : Value) (v1 : Value) (p1 : List Nat), cs = [.int .i64 x.Kind, .int .i64 x.N, v0, v1] ∧ os = p1 ∧ FL v0 x.F ∧ (Kd.sl 5 (Kd.int .u8)).ow w [v1] x.T p1 := by
  obtain ⟨_, _, _, _, rfl, rfl, ⟨rfl, rfl⟩, ⟨_, _, _, _, rfl, rfl, ⟨rfl, rfl⟩, ⟨_, _, _, p1, rfl, rfl, ⟨⟨v0, rfl, h0⟩, rfl⟩, ⟨v1, rfl, h1⟩⟩⟩⟩ := h
  exact ⟨_, _, p1, rfl, by simp, h0, ⟨_, rfl, h1⟩⟩
theorem mk33 {s : St} {x : Item} {C : List Nat} {v0 : Value} {v1 : Value} (h0 : FL v0 x.F) (h1 : RdF (Kd.sl 5 (Kd.int .u8)) s [v1] x.T C) : RdF kd33 s [.int .i64 x.Kind, .int .i64 x.N, v0, v1] x C := ⟨[.int .i64 x.Kind], [.int .i64 x.N, v0, v1], rfl, rfl, ⟨[.int .i64 x.N], [v0, v1], rfl, rfl, ⟨[v0], [v1], rfl, (fl_rd h0), h1⟩⟩⟩
def kd222 : Kd Page := Kd.iso (Kd.pair (Kd.int .i64) (Kd.sl 24 (Kd.sl 5 (Kd.int .u8)))) fun x => (x.Lsn, x.Slots)
theorem op222 {s : St} {cs : List Value} {x : Page} {C : List Nat} (h : RdF kd222 s cs x C) : ∃ (v0 : Value), cs = [.int .i64 x.Lsn, v0] ∧ RdF (Kd.sl 24 (Kd.sl 5 (Kd.int .u8))) s [v0] x.Slots C := by
  obtain ⟨_, _, rfl, rfl, ⟨v0, rfl, h0⟩⟩ := h
  exact ⟨v0, rfl, ⟨_, rfl, h0⟩⟩
theorem mk222 {s : St} {x : Page} {C : List Nat} {v0 : Value} (h0 : RdF (Kd.sl 24 (Kd.sl 5 (Kd.int .u8))) s [v0] x.Slots C) : RdF kd222 s [.int .i64 x.Lsn, v0] x C := ⟨[.int .i64 x.Lsn], [v0], rfl, rfl, h0⟩
def kd42 : Kd Heap := Kd.iso (Kd.sl 222 kd222) fun x => (x.Pages)
theorem op42 {s : St} {cs : List Value} {x : Heap} {C : List Nat} (h : RdF kd42 s cs x C) : ∃ (v0 : Value), cs = [v0] ∧ RdF (Kd.sl 222 kd222) s [v0] x.Pages C := by
  obtain ⟨v0, rfl, h0⟩ := h
  exact ⟨v0, rfl, ⟨_, rfl, h0⟩⟩
theorem mk42 {s : St} {x : Heap} {C : List Nat} {v0 : Value} (h0 : RdF (Kd.sl 222 kd222) s [v0] x.Pages C) : RdF kd42 s [v0] x C := h0
def kd142 : Kd Page := Kd.iso (Kd.pair (Kd.int .i64) (Kd.sl 24 (Kd.sl 5 (Kd.int .u8)))) fun x => (x.Lsn, x.Slots)
theorem op142 {s : St} {cs : List Value} {x : Page} {C : List Nat} (h : RdF kd142 s cs x C) : ∃ (v0 : Value), cs = [.int .i64 x.Lsn, v0] ∧ RdF (Kd.sl 24 (Kd.sl 5 (Kd.int .u8))) s [v0] x.Slots C := by
  obtain ⟨_, _, rfl, rfl, ⟨v0, rfl, h0⟩⟩ := h
  exact ⟨v0, rfl, ⟨_, rfl, h0⟩⟩
theorem po142 {w : World} {cs : List Value} {x : Page} {os : List Nat} (h : kd142.ow w cs x os) : ∃ (v0 : Value) (p0 : List Nat), cs = [.int .i64 x.Lsn, v0] ∧ os = p0 ∧ (Kd.sl 24 (Kd.sl 5 (Kd.int .u8))).ow w [v0] x.Slots p0 := by
  obtain ⟨_, _, _, p0, rfl, rfl, ⟨rfl, rfl⟩, ⟨v0, rfl, h0⟩⟩ := h
  exact ⟨_, p0, rfl, by simp, ⟨_, rfl, h0⟩⟩
theorem mk142 {s : St} {x : Page} {C : List Nat} {v0 : Value} (h0 : RdF (Kd.sl 24 (Kd.sl 5 (Kd.int .u8))) s [v0] x.Slots C) : RdF kd142 s [.int .i64 x.Lsn, v0] x C := ⟨[.int .i64 x.Lsn], [v0], rfl, rfl, h0⟩
def kd46 : Kd Heap := Kd.iso (Kd.sl 142 kd142) fun x => (x.Pages)
theorem op46 {s : St} {cs : List Value} {x : Heap} {C : List Nat} (h : RdF kd46 s cs x C) : ∃ (v0 : Value), cs = [v0] ∧ RdF (Kd.sl 142 kd142) s [v0] x.Pages C := by
  obtain ⟨v0, rfl, h0⟩ := h
  exact ⟨v0, rfl, ⟨_, rfl, h0⟩⟩
theorem po46 {w : World} {cs : List Value} {x : Heap} {os : List Nat} (h : kd46.ow w cs x os) : ∃ (v0 : Value) (p0 : List Nat), cs = [v0] ∧ os = p0 ∧ (Kd.sl 142 kd142).ow w [v0] x.Pages p0 := by
  obtain ⟨v0, rfl, h0⟩ := h
  exact ⟨_, _, rfl, rfl, ⟨_, rfl, h0⟩⟩
theorem mk46 {s : St} {x : Heap} {C : List Nat} {v0 : Value} (h0 : RdF (Kd.sl 142 kd142) s [v0] x.Pages C) : RdF kd46 s [v0] x C := h0
def kd54 : Kd Tuple := Kd.iso (Kd.pair (Kd.int .i64) (Kd.pair (Kd.int .i64) (Kd.pair kd26 kd26))) fun x => (x.Xmin, x.Xmax, x.Key, x.Value)
theorem op54 {s : St} {cs : List Value} {x : Tuple} {C : List Nat} (h : RdF kd54 s cs x C) : ∃ (v0 : Value) (v1 : Value) (v2 : Value) (v3 : Value), cs = [.int .i64 x.Xmin, .int .i64 x.Xmax, .int .i64 x.Key.Kind, .int .i64 x.Key.N, v0, v1, .int .i64 x.Value.Kind, .int .i64 x.Value.N, v2, v3] ∧ FL v0 x.Key.F ∧ RdF (Kd.sl 5 (Kd.int .u8)) s [v1] x.Key.T C ∧ FL v2 x.Value.F ∧ RdF (Kd.sl 5 (Kd.int .u8)) s [v3] x.Value.T C := by
  obtain ⟨_, _, rfl, rfl, ⟨_, _, rfl, rfl, ⟨_, _, rfl, ⟨_, _, rfl, rfl, ⟨_, _, rfl, rfl, ⟨_, _, rfl, ⟨v0, rfl, h0⟩, ⟨v1, rfl, h1⟩⟩⟩⟩, ⟨_, _, rfl, rfl, ⟨_, _, rfl, rfl, ⟨_, _, rfl, ⟨v2, rfl, h2⟩, ⟨v3, rfl, h3⟩⟩⟩⟩⟩⟩⟩ := h
  exact ⟨v0, v1, v2, v3, rfl, h0, ⟨_, rfl, h1⟩, h2, ⟨_, rfl, h3⟩⟩
theorem mk54 {s : St} {x : Tuple} {C : List Nat} {v0 : Value} {v1 : Value} {v2 : Value} {v3 : Value} (h0 : FL v0 x.Key.F) (h1 : RdF (Kd.sl 5 (Kd.int .u8)) s [v1] x.Key.T C) (h2 : FL v2 x.Value.F) (h3 : RdF (Kd.sl 5 (Kd.int .u8)) s [v3] x.Value.T C) : RdF kd54 s [.int .i64 x.Xmin, .int .i64 x.Xmax, .int .i64 x.Key.Kind, .int .i64 x.Key.N, v0, v1, .int .i64 x.Value.Kind, .int .i64 x.Value.N, v2, v3] x C := ⟨[.int .i64 x.Xmin], [.int .i64 x.Xmax, .int .i64 x.Key.Kind, .int .i64 x.Key.N, v0, v1, .int .i64 x.Value.Kind, .int .i64 x.Value.N, v2, v3], rfl, rfl, ⟨[.int .i64 x.Xmax], [.int .i64 x.Key.Kind, .int .i64 x.Key.N, v0, v1, .int .i64 x.Value.Kind, .int .i64 x.Value.N, v2, v3], rfl, rfl, ⟨[.int .i64 x.Key.Kind, .int .i64 x.Key.N, v0, v1], [.int .i64 x.Value.Kind, .int .i64 x.Value.N, v2, v3], rfl, ⟨[.int .i64 x.Key.Kind], [.int .i64 x.Key.N, v0, v1], rfl, rfl, ⟨[.int .i64 x.Key.N], [v0, v1], rfl, rfl, ⟨[v0], [v1], rfl, (fl_rd h0), h1⟩⟩⟩, ⟨[.int .i64 x.Value.Kind], [.int .i64 x.Value.N, v2, v3], rfl, rfl, ⟨[.int .i64 x.Value.N], [v2, v3], rfl, rfl, ⟨[v2], [v3], rfl, (fl_rd h2), h3⟩⟩⟩⟩⟩⟩
def kd58 : Kd Tuple := Kd.iso (Kd.pair (Kd.int .i64) (Kd.pair (Kd.int .i64) (Kd.pair kd33 kd33))) fun x => (x.Xmin, x.Xmax, x.Key, x.Value)
theorem op58 {s : St} {cs : List Value} {x : Tuple} {C : List Nat} (h : RdF kd58 s cs x C) : ∃ (v0 : Value) (v1 : Value) (v2 : Value) (v3 : Value), cs = [.int .i64 x.Xmin, .int .i64 x.Xmax, .int .i64 x.Key.Kind, .int .i64 x.Key.N, v0, v1, .int .i64 x.Value.Kind, .int .i64 x.Value.N, v2, v3] ∧ FL v0 x.Key.F ∧ RdF (Kd.sl 5 (Kd.int .u8)) s [v1] x.Key.T C ∧ FL v2 x.Value.F ∧ RdF (Kd.sl 5 (Kd.int .u8)) s [v3] x.Value.T C := by
  obtain ⟨_, _, rfl, rfl, ⟨_, _, rfl, rfl, ⟨_, _, rfl, ⟨_, _, rfl, rfl, ⟨_, _, rfl, rfl, ⟨_, _, rfl, ⟨v0, rfl, h0⟩, ⟨v1, rfl, h1⟩⟩⟩⟩, ⟨_, _, rfl, rfl, ⟨_, _, rfl, rfl, ⟨_, _, rfl, ⟨v2, rfl, h2⟩, ⟨v3, rfl, h3⟩⟩⟩⟩⟩⟩⟩ := h
  exact ⟨v0, v1, v2, v3, rfl, h0, ⟨_, rfl, h1⟩, h2, ⟨_, rfl, h3⟩⟩
theorem po58 {w : World} {cs : List Value} {x : Tuple} {os : List Nat} (h : kd58.ow w cs x os) : ∃ (v0 : Value) (v1 : Value) (v2 : Value) (v3 : Value) (p1 : List Nat) (p3 : List Nat), cs = [.int .i64 x.Xmin, .int .i64 x.Xmax, .int .i64 x.Key.Kind, .int .i64 x.Key.N, v0, v1, .int .i64 x.Value.Kind, .int .i64 x.Value.N, v2, v3] ∧ os = p1 ++ (p3) ∧ FL v0 x.Key.F ∧ (Kd.sl 5 (Kd.int .u8)).ow w [v1] x.Key.T p1 ∧ FL v2 x.Value.F ∧ (Kd.sl 5 (Kd.int .u8)).ow w [v3] x.Value.T p3 := by
  obtain ⟨_, _, _, _, rfl, rfl, ⟨rfl, rfl⟩, ⟨_, _, _, _, rfl, rfl, ⟨rfl, rfl⟩, ⟨_, _, _, _, rfl, rfl, ⟨_, _, _, _, rfl, rfl, ⟨rfl, rfl⟩, ⟨_, _, _, _, rfl, rfl, ⟨rfl, rfl⟩, ⟨_, _, _, p1, rfl, rfl, ⟨⟨v0, rfl, h0⟩, rfl⟩, ⟨v1, rfl, h1⟩⟩⟩⟩, ⟨_, _, _, _, rfl, rfl, ⟨rfl, rfl⟩, ⟨_, _, _, _, rfl, rfl, ⟨rfl, rfl⟩, ⟨_, _, _, p3, rfl, rfl, ⟨⟨v2, rfl, h2⟩, rfl⟩, ⟨v3, rfl, h3⟩⟩⟩⟩⟩⟩⟩ := h
  exact ⟨_, _, _, _, p1, p3, rfl, by simp, h0, ⟨_, rfl, h1⟩, h2, ⟨_, rfl, h3⟩⟩
theorem mk58 {s : St} {x : Tuple} {C : List Nat} {v0 : Value} {v1 : Value} {v2 : Value} {v3 : Value} (h0 : FL v0 x.Key.F) (h1 : RdF (Kd.sl 5 (Kd.int .u8)) s [v1] x.Key.T C) (h2 : FL v2 x.Value.F) (h3 : RdF (Kd.sl 5 (Kd.int .u8)) s [v3] x.Value.T C) : RdF kd58 s [.int .i64 x.Xmin, .int .i64 x.Xmax, .int .i64 x.Key.Kind, .int .i64 x.Key.N, v0, v1, .int .i64 x.Value.Kind, .int .i64 x.Value.N, v2, v3] x C := ⟨[.int .i64 x.Xmin], [.int .i64 x.Xmax, .int .i64 x.Key.Kind, .int .i64 x.Key.N, v0, v1, .int .i64 x.Value.Kind, .int .i64 x.Value.N, v2, v3], rfl, rfl, ⟨[.int .i64 x.Xmax], [.int .i64 x.Key.Kind, .int .i64 x.Key.N, v0, v1, .int .i64 x.Value.Kind, .int .i64 x.Value.N, v2, v3], rfl, rfl, ⟨[.int .i64 x.Key.Kind, .int .i64 x.Key.N, v0, v1], [.int .i64 x.Value.Kind, .int .i64 x.Value.N, v2, v3], rfl, ⟨[.int .i64 x.Key.Kind], [.int .i64 x.Key.N, v0, v1], rfl, rfl, ⟨[.int .i64 x.Key.N], [v0, v1], rfl, rfl, ⟨[v0], [v1], rfl, (fl_rd h0), h1⟩⟩⟩, ⟨[.int .i64 x.Value.Kind], [.int .i64 x.Value.N, v2, v3], rfl, rfl, ⟨[.int .i64 x.Value.N], [v2, v3], rfl, rfl, ⟨[v2], [v3], rfl, (fl_rd h2), h3⟩⟩⟩⟩⟩⟩
def kd155 : Kd Entry := Kd.iso (Kd.pair kd33 (Kd.int .i64)) fun x => (x.Key, x.Id)
theorem op155 {s : St} {cs : List Value} {x : Entry} {C : List Nat} (h : RdF kd155 s cs x C) : ∃ (v0 : Value) (v1 : Value), cs = [.int .i64 x.Key.Kind, .int .i64 x.Key.N, v0, v1, .int .i64 x.Id] ∧ FL v0 x.Key.F ∧ RdF (Kd.sl 5 (Kd.int .u8)) s [v1] x.Key.T C := by
  obtain ⟨_, _, rfl, ⟨_, _, rfl, rfl, ⟨_, _, rfl, rfl, ⟨_, _, rfl, ⟨v0, rfl, h0⟩, ⟨v1, rfl, h1⟩⟩⟩⟩, rfl⟩ := h
  exact ⟨v0, v1, rfl, h0, ⟨_, rfl, h1⟩⟩
theorem po155 {w : World} {cs : List Value} {x : Entry} {os : List Nat} (h : kd155.ow w cs x os) : ∃ (v0 : Value) (v1 : Value) (p1 : List Nat), cs = [.int .i64 x.Key.Kind, .int .i64 x.Key.N, v0, v1, .int .i64 x.Id] ∧ os = p1 ∧ FL v0 x.Key.F ∧ (Kd.sl 5 (Kd.int .u8)).ow w [v1] x.Key.T p1 := by
  obtain ⟨_, _, _, _, rfl, rfl, ⟨_, _, _, _, rfl, rfl, ⟨rfl, rfl⟩, ⟨_, _, _, _, rfl, rfl, ⟨rfl, rfl⟩, ⟨_, _, _, p1, rfl, rfl, ⟨⟨v0, rfl, h0⟩, rfl⟩, ⟨v1, rfl, h1⟩⟩⟩⟩, ⟨rfl, rfl⟩⟩ := h
  exact ⟨_, _, p1, rfl, by simp, h0, ⟨_, rfl, h1⟩⟩
theorem mk155 {s : St} {x : Entry} {C : List Nat} {v0 : Value} {v1 : Value} (h0 : FL v0 x.Key.F) (h1 : RdF (Kd.sl 5 (Kd.int .u8)) s [v1] x.Key.T C) : RdF kd155 s [.int .i64 x.Key.Kind, .int .i64 x.Key.N, v0, v1, .int .i64 x.Id] x C := ⟨[.int .i64 x.Key.Kind, .int .i64 x.Key.N, v0, v1], [.int .i64 x.Id], rfl, ⟨[.int .i64 x.Key.Kind], [.int .i64 x.Key.N, v0, v1], rfl, rfl, ⟨[.int .i64 x.Key.N], [v0, v1], rfl, rfl, ⟨[v0], [v1], rfl, (fl_rd h0), h1⟩⟩⟩, rfl⟩
def kd168 : Kd Node := Kd.iso (Kd.pair Kd.bool (Kd.pair (Kd.sl 155 kd155) (Kd.sl 3 (Kd.int .i64)))) fun x => (x.Leaf, x.Entries, x.Kids)
theorem op168 {s : St} {cs : List Value} {x : Node} {C : List Nat} (h : RdF kd168 s cs x C) : ∃ (v0 : Value) (v1 : Value), cs = [.bool x.Leaf, v0, v1] ∧ RdF (Kd.sl 155 kd155) s [v0] x.Entries C ∧ RdF (Kd.sl 3 (Kd.int .i64)) s [v1] x.Kids C := by
  obtain ⟨_, _, rfl, rfl, ⟨_, _, rfl, ⟨v0, rfl, h0⟩, ⟨v1, rfl, h1⟩⟩⟩ := h
  exact ⟨v0, v1, rfl, ⟨_, rfl, h0⟩, ⟨_, rfl, h1⟩⟩
theorem po168 {w : World} {cs : List Value} {x : Node} {os : List Nat} (h : kd168.ow w cs x os) : ∃ (v0 : Value) (v1 : Value) (p0 : List Nat) (p1 : List Nat), cs = [.bool x.Leaf, v0, v1] ∧ os = p0 ++ (p1) ∧ (Kd.sl 155 kd155).ow w [v0] x.Entries p0 ∧ (Kd.sl 3 (Kd.int .i64)).ow w [v1] x.Kids p1 := by
  obtain ⟨_, _, _, _, rfl, rfl, ⟨rfl, rfl⟩, ⟨_, _, p0, p1, rfl, rfl, ⟨v0, rfl, h0⟩, ⟨v1, rfl, h1⟩⟩⟩ := h
  exact ⟨_, _, p0, p1, rfl, by simp, ⟨_, rfl, h0⟩, ⟨_, rfl, h1⟩⟩
theorem mk168 {s : St} {x : Node} {C : List Nat} {v0 : Value} {v1 : Value} (h0 : RdF (Kd.sl 155 kd155) s [v0] x.Entries C) (h1 : RdF (Kd.sl 3 (Kd.int .i64)) s [v1] x.Kids C) : RdF kd168 s [.bool x.Leaf, v0, v1] x C := ⟨[.bool x.Leaf], [v0, v1], rfl, rfl, ⟨[v0], [v1], rfl, h0, h1⟩⟩
def kd69 : Kd Tree := Kd.iso (Kd.pair (Kd.sl 168 kd168) (Kd.int .i64)) fun x => (x.Nodes, x.Root)
theorem op69 {s : St} {cs : List Value} {x : Tree} {C : List Nat} (h : RdF kd69 s cs x C) : ∃ (v0 : Value), cs = [v0, .int .i64 x.Root] ∧ RdF (Kd.sl 168 kd168) s [v0] x.Nodes C := by
  obtain ⟨_, _, rfl, ⟨v0, rfl, h0⟩, rfl⟩ := h
  exact ⟨v0, rfl, ⟨_, rfl, h0⟩⟩
theorem po69 {w : World} {cs : List Value} {x : Tree} {os : List Nat} (h : kd69.ow w cs x os) : ∃ (v0 : Value) (p0 : List Nat), cs = [v0, .int .i64 x.Root] ∧ os = p0 ∧ (Kd.sl 168 kd168).ow w [v0] x.Nodes p0 := by
  obtain ⟨_, _, p0, _, rfl, rfl, ⟨v0, rfl, h0⟩, ⟨rfl, rfl⟩⟩ := h
  exact ⟨_, p0, rfl, by simp, ⟨_, rfl, h0⟩⟩
theorem mk69 {s : St} {x : Tree} {C : List Nat} {v0 : Value} (h0 : RdF (Kd.sl 168 kd168) s [v0] x.Nodes C) : RdF kd69 s [v0, .int .i64 x.Root] x C := ⟨[v0], [.int .i64 x.Root], rfl, h0, rfl⟩
def kd88 : Kd Record := Kd.iso (Kd.pair (Kd.int .i64) (Kd.pair (Kd.int .i64) (Kd.pair (Kd.int .i64) (Kd.pair (Kd.int .i64) (Kd.pair (Kd.int .i64) (Kd.sl 5 (Kd.int .u8))))))) fun x => (x.Kind, x.Lsn, x.Xid, x.Page, x.Slot, x.Data)
theorem op88 {s : St} {cs : List Value} {x : Record} {C : List Nat} (h : RdF kd88 s cs x C) : ∃ (v0 : Value), cs = [.int .i64 x.Kind, .int .i64 x.Lsn, .int .i64 x.Xid, .int .i64 x.Page, .int .i64 x.Slot, v0] ∧ RdF (Kd.sl 5 (Kd.int .u8)) s [v0] x.Data C := by
  obtain ⟨_, _, rfl, rfl, ⟨_, _, rfl, rfl, ⟨_, _, rfl, rfl, ⟨_, _, rfl, rfl, ⟨_, _, rfl, rfl, ⟨v0, rfl, h0⟩⟩⟩⟩⟩⟩ := h
  exact ⟨v0, rfl, ⟨_, rfl, h0⟩⟩
theorem mk88 {s : St} {x : Record} {C : List Nat} {v0 : Value} (h0 : RdF (Kd.sl 5 (Kd.int .u8)) s [v0] x.Data C) : RdF kd88 s [.int .i64 x.Kind, .int .i64 x.Lsn, .int .i64 x.Xid, .int .i64 x.Page, .int .i64 x.Slot, v0] x C := ⟨[.int .i64 x.Kind], [.int .i64 x.Lsn, .int .i64 x.Xid, .int .i64 x.Page, .int .i64 x.Slot, v0], rfl, rfl, ⟨[.int .i64 x.Lsn], [.int .i64 x.Xid, .int .i64 x.Page, .int .i64 x.Slot, v0], rfl, rfl, ⟨[.int .i64 x.Xid], [.int .i64 x.Page, .int .i64 x.Slot, v0], rfl, rfl, ⟨[.int .i64 x.Page], [.int .i64 x.Slot, v0], rfl, rfl, ⟨[.int .i64 x.Slot], [v0], rfl, rfl, h0⟩⟩⟩⟩⟩
def kd91 : Kd Record := Kd.iso (Kd.pair (Kd.int .i64) (Kd.pair (Kd.int .i64) (Kd.pair (Kd.int .i64) (Kd.pair (Kd.int .i64) (Kd.pair (Kd.int .i64) (Kd.sl 5 (Kd.int .u8))))))) fun x => (x.Kind, x.Lsn, x.Xid, x.Page, x.Slot, x.Data)
theorem op91 {s : St} {cs : List Value} {x : Record} {C : List Nat} (h : RdF kd91 s cs x C) : ∃ (v0 : Value), cs = [.int .i64 x.Kind, .int .i64 x.Lsn, .int .i64 x.Xid, .int .i64 x.Page, .int .i64 x.Slot, v0] ∧ RdF (Kd.sl 5 (Kd.int .u8)) s [v0] x.Data C := by
  obtain ⟨_, _, rfl, rfl, ⟨_, _, rfl, rfl, ⟨_, _, rfl, rfl, ⟨_, _, rfl, rfl, ⟨_, _, rfl, rfl, ⟨v0, rfl, h0⟩⟩⟩⟩⟩⟩ := h
  exact ⟨v0, rfl, ⟨_, rfl, h0⟩⟩
theorem po91 {w : World} {cs : List Value} {x : Record} {os : List Nat} (h : kd91.ow w cs x os) : ∃ (v0 : Value) (p0 : List Nat), cs = [.int .i64 x.Kind, .int .i64 x.Lsn, .int .i64 x.Xid, .int .i64 x.Page, .int .i64 x.Slot, v0] ∧ os = p0 ∧ (Kd.sl 5 (Kd.int .u8)).ow w [v0] x.Data p0 := by
  obtain ⟨_, _, _, _, rfl, rfl, ⟨rfl, rfl⟩, ⟨_, _, _, _, rfl, rfl, ⟨rfl, rfl⟩, ⟨_, _, _, _, rfl, rfl, ⟨rfl, rfl⟩, ⟨_, _, _, _, rfl, rfl, ⟨rfl, rfl⟩, ⟨_, _, _, p0, rfl, rfl, ⟨rfl, rfl⟩, ⟨v0, rfl, h0⟩⟩⟩⟩⟩⟩ := h
  exact ⟨_, p0, rfl, by simp, ⟨_, rfl, h0⟩⟩
theorem mk91 {s : St} {x : Record} {C : List Nat} {v0 : Value} (h0 : RdF (Kd.sl 5 (Kd.int .u8)) s [v0] x.Data C) : RdF kd91 s [.int .i64 x.Kind, .int .i64 x.Lsn, .int .i64 x.Xid, .int .i64 x.Page, .int .i64 x.Slot, v0] x C := ⟨[.int .i64 x.Kind], [.int .i64 x.Lsn, .int .i64 x.Xid, .int .i64 x.Page, .int .i64 x.Slot, v0], rfl, rfl, ⟨[.int .i64 x.Lsn], [.int .i64 x.Xid, .int .i64 x.Page, .int .i64 x.Slot, v0], rfl, rfl, ⟨[.int .i64 x.Xid], [.int .i64 x.Page, .int .i64 x.Slot, v0], rfl, rfl, ⟨[.int .i64 x.Page], [.int .i64 x.Slot, v0], rfl, rfl, ⟨[.int .i64 x.Slot], [v0], rfl, rfl, h0⟩⟩⟩⟩⟩
def kd282 : Kd Span := Kd.iso (Kd.pair kd26 kd26) fun x => (x.From, x.To)
theorem op282 {s : St} {cs : List Value} {x : Span} {C : List Nat} (h : RdF kd282 s cs x C) : ∃ (v0 : Value) (v1 : Value) (v2 : Value) (v3 : Value), cs = [.int .i64 x.From.Kind, .int .i64 x.From.N, v0, v1, .int .i64 x.To.Kind, .int .i64 x.To.N, v2, v3] ∧ FL v0 x.From.F ∧ RdF (Kd.sl 5 (Kd.int .u8)) s [v1] x.From.T C ∧ FL v2 x.To.F ∧ RdF (Kd.sl 5 (Kd.int .u8)) s [v3] x.To.T C := by
  obtain ⟨_, _, rfl, ⟨_, _, rfl, rfl, ⟨_, _, rfl, rfl, ⟨_, _, rfl, ⟨v0, rfl, h0⟩, ⟨v1, rfl, h1⟩⟩⟩⟩, ⟨_, _, rfl, rfl, ⟨_, _, rfl, rfl, ⟨_, _, rfl, ⟨v2, rfl, h2⟩, ⟨v3, rfl, h3⟩⟩⟩⟩⟩ := h
  exact ⟨v0, v1, v2, v3, rfl, h0, ⟨_, rfl, h1⟩, h2, ⟨_, rfl, h3⟩⟩
theorem mk282 {s : St} {x : Span} {C : List Nat} {v0 : Value} {v1 : Value} {v2 : Value} {v3 : Value} (h0 : FL v0 x.From.F) (h1 : RdF (Kd.sl 5 (Kd.int .u8)) s [v1] x.From.T C) (h2 : FL v2 x.To.F) (h3 : RdF (Kd.sl 5 (Kd.int .u8)) s [v3] x.To.T C) : RdF kd282 s [.int .i64 x.From.Kind, .int .i64 x.From.N, v0, v1, .int .i64 x.To.Kind, .int .i64 x.To.N, v2, v3] x C := ⟨[.int .i64 x.From.Kind, .int .i64 x.From.N, v0, v1], [.int .i64 x.To.Kind, .int .i64 x.To.N, v2, v3], rfl, ⟨[.int .i64 x.From.Kind], [.int .i64 x.From.N, v0, v1], rfl, rfl, ⟨[.int .i64 x.From.N], [v0, v1], rfl, rfl, ⟨[v0], [v1], rfl, (fl_rd h0), h1⟩⟩⟩, ⟨[.int .i64 x.To.Kind], [.int .i64 x.To.N, v2, v3], rfl, rfl, ⟨[.int .i64 x.To.N], [v2, v3], rfl, rfl, ⟨[v2], [v3], rfl, (fl_rd h2), h3⟩⟩⟩⟩
def kd109 : Kd Track := Kd.iso (Kd.pair (Kd.int .i64) (Kd.pair (Kd.int .i64) (Kd.pair (Kd.int .i64) (Kd.pair Kd.bool (Kd.pair (Kd.sl 282 kd282) (Kd.pair (Kd.sl 26 kd26) (Kd.pair Kd.bool Kd.bool))))))) fun x => (x.Xid, x.Begun, x.Ended, x.All, x.Reads, x.Writes, x.In, x.Out)
theorem op109 {s : St} {cs : List Value} {x : Track} {C : List Nat} (h : RdF kd109 s cs x C) : ∃ (v0 : Value) (v1 : Value), cs = [.int .i64 x.Xid, .int .i64 x.Begun, .int .i64 x.Ended, .bool x.All, v0, v1, .bool x.In, .bool x.Out] ∧ RdF (Kd.sl 282 kd282) s [v0] x.Reads C ∧ RdF (Kd.sl 26 kd26) s [v1] x.Writes C := by
  obtain ⟨_, _, rfl, rfl, ⟨_, _, rfl, rfl, ⟨_, _, rfl, rfl, ⟨_, _, rfl, rfl, ⟨_, _, rfl, ⟨v0, rfl, h0⟩, ⟨_, _, rfl, ⟨v1, rfl, h1⟩, ⟨_, _, rfl, rfl, rfl⟩⟩⟩⟩⟩⟩⟩ := h
  exact ⟨v0, v1, rfl, ⟨_, rfl, h0⟩, ⟨_, rfl, h1⟩⟩
theorem mk109 {s : St} {x : Track} {C : List Nat} {v0 : Value} {v1 : Value} (h0 : RdF (Kd.sl 282 kd282) s [v0] x.Reads C) (h1 : RdF (Kd.sl 26 kd26) s [v1] x.Writes C) : RdF kd109 s [.int .i64 x.Xid, .int .i64 x.Begun, .int .i64 x.Ended, .bool x.All, v0, v1, .bool x.In, .bool x.Out] x C := ⟨[.int .i64 x.Xid], [.int .i64 x.Begun, .int .i64 x.Ended, .bool x.All, v0, v1, .bool x.In, .bool x.Out], rfl, rfl, ⟨[.int .i64 x.Begun], [.int .i64 x.Ended, .bool x.All, v0, v1, .bool x.In, .bool x.Out], rfl, rfl, ⟨[.int .i64 x.Ended], [.bool x.All, v0, v1, .bool x.In, .bool x.Out], rfl, rfl, ⟨[.bool x.All], [v0, v1, .bool x.In, .bool x.Out], rfl, rfl, ⟨[v0], [v1, .bool x.In, .bool x.Out], rfl, h0, ⟨[v1], [.bool x.In, .bool x.Out], rfl, h1, ⟨[.bool x.In], [.bool x.Out], rfl, rfl, rfl⟩⟩⟩⟩⟩⟩⟩
def kd200 : Kd Span := Kd.iso (Kd.pair kd33 kd33) fun x => (x.From, x.To)
theorem op200 {s : St} {cs : List Value} {x : Span} {C : List Nat} (h : RdF kd200 s cs x C) : ∃ (v0 : Value) (v1 : Value) (v2 : Value) (v3 : Value), cs = [.int .i64 x.From.Kind, .int .i64 x.From.N, v0, v1, .int .i64 x.To.Kind, .int .i64 x.To.N, v2, v3] ∧ FL v0 x.From.F ∧ RdF (Kd.sl 5 (Kd.int .u8)) s [v1] x.From.T C ∧ FL v2 x.To.F ∧ RdF (Kd.sl 5 (Kd.int .u8)) s [v3] x.To.T C := by
  obtain ⟨_, _, rfl, ⟨_, _, rfl, rfl, ⟨_, _, rfl, rfl, ⟨_, _, rfl, ⟨v0, rfl, h0⟩, ⟨v1, rfl, h1⟩⟩⟩⟩, ⟨_, _, rfl, rfl, ⟨_, _, rfl, rfl, ⟨_, _, rfl, ⟨v2, rfl, h2⟩, ⟨v3, rfl, h3⟩⟩⟩⟩⟩ := h
  exact ⟨v0, v1, v2, v3, rfl, h0, ⟨_, rfl, h1⟩, h2, ⟨_, rfl, h3⟩⟩
theorem po200 {w : World} {cs : List Value} {x : Span} {os : List Nat} (h : kd200.ow w cs x os) : ∃ (v0 : Value) (v1 : Value) (v2 : Value) (v3 : Value) (p1 : List Nat) (p3 : List Nat), cs = [.int .i64 x.From.Kind, .int .i64 x.From.N, v0, v1, .int .i64 x.To.Kind, .int .i64 x.To.N, v2, v3] ∧ os = p1 ++ (p3) ∧ FL v0 x.From.F ∧ (Kd.sl 5 (Kd.int .u8)).ow w [v1] x.From.T p1 ∧ FL v2 x.To.F ∧ (Kd.sl 5 (Kd.int .u8)).ow w [v3] x.To.T p3 := by
  obtain ⟨_, _, _, _, rfl, rfl, ⟨_, _, _, _, rfl, rfl, ⟨rfl, rfl⟩, ⟨_, _, _, _, rfl, rfl, ⟨rfl, rfl⟩, ⟨_, _, _, p1, rfl, rfl, ⟨⟨v0, rfl, h0⟩, rfl⟩, ⟨v1, rfl, h1⟩⟩⟩⟩, ⟨_, _, _, _, rfl, rfl, ⟨rfl, rfl⟩, ⟨_, _, _, _, rfl, rfl, ⟨rfl, rfl⟩, ⟨_, _, _, p3, rfl, rfl, ⟨⟨v2, rfl, h2⟩, rfl⟩, ⟨v3, rfl, h3⟩⟩⟩⟩⟩ := h
  exact ⟨_, _, _, _, p1, p3, rfl, by simp, h0, ⟨_, rfl, h1⟩, h2, ⟨_, rfl, h3⟩⟩
theorem mk200 {s : St} {x : Span} {C : List Nat} {v0 : Value} {v1 : Value} {v2 : Value} {v3 : Value} (h0 : FL v0 x.From.F) (h1 : RdF (Kd.sl 5 (Kd.int .u8)) s [v1] x.From.T C) (h2 : FL v2 x.To.F) (h3 : RdF (Kd.sl 5 (Kd.int .u8)) s [v3] x.To.T C) : RdF kd200 s [.int .i64 x.From.Kind, .int .i64 x.From.N, v0, v1, .int .i64 x.To.Kind, .int .i64 x.To.N, v2, v3] x C := ⟨[.int .i64 x.From.Kind, .int .i64 x.From.N, v0, v1], [.int .i64 x.To.Kind, .int .i64 x.To.N, v2, v3], rfl, ⟨[.int .i64 x.From.Kind], [.int .i64 x.From.N, v0, v1], rfl, rfl, ⟨[.int .i64 x.From.N], [v0, v1], rfl, rfl, ⟨[v0], [v1], rfl, (fl_rd h0), h1⟩⟩⟩, ⟨[.int .i64 x.To.Kind], [.int .i64 x.To.N, v2, v3], rfl, rfl, ⟨[.int .i64 x.To.N], [v2, v3], rfl, rfl, ⟨[v2], [v3], rfl, (fl_rd h2), h3⟩⟩⟩⟩
def kd117 : Kd Track := Kd.iso (Kd.pair (Kd.int .i64) (Kd.pair (Kd.int .i64) (Kd.pair (Kd.int .i64) (Kd.pair Kd.bool (Kd.pair (Kd.sl 200 kd200) (Kd.pair (Kd.sl 33 kd33) (Kd.pair Kd.bool Kd.bool))))))) fun x => (x.Xid, x.Begun, x.Ended, x.All, x.Reads, x.Writes, x.In, x.Out)
theorem op117 {s : St} {cs : List Value} {x : Track} {C : List Nat} (h : RdF kd117 s cs x C) : ∃ (v0 : Value) (v1 : Value), cs = [.int .i64 x.Xid, .int .i64 x.Begun, .int .i64 x.Ended, .bool x.All, v0, v1, .bool x.In, .bool x.Out] ∧ RdF (Kd.sl 200 kd200) s [v0] x.Reads C ∧ RdF (Kd.sl 33 kd33) s [v1] x.Writes C := by
  obtain ⟨_, _, rfl, rfl, ⟨_, _, rfl, rfl, ⟨_, _, rfl, rfl, ⟨_, _, rfl, rfl, ⟨_, _, rfl, ⟨v0, rfl, h0⟩, ⟨_, _, rfl, ⟨v1, rfl, h1⟩, ⟨_, _, rfl, rfl, rfl⟩⟩⟩⟩⟩⟩⟩ := h
  exact ⟨v0, v1, rfl, ⟨_, rfl, h0⟩, ⟨_, rfl, h1⟩⟩
theorem po117 {w : World} {cs : List Value} {x : Track} {os : List Nat} (h : kd117.ow w cs x os) : ∃ (v0 : Value) (v1 : Value) (p0 : List Nat) (p1 : List Nat), cs = [.int .i64 x.Xid, .int .i64 x.Begun, .int .i64 x.Ended, .bool x.All, v0, v1, .bool x.In, .bool x.Out] ∧ os = p0 ++ (p1) ∧ (Kd.sl 200 kd200).ow w [v0] x.Reads p0 ∧ (Kd.sl 33 kd33).ow w [v1] x.Writes p1 := by
  obtain ⟨_, _, _, _, rfl, rfl, ⟨rfl, rfl⟩, ⟨_, _, _, _, rfl, rfl, ⟨rfl, rfl⟩, ⟨_, _, _, _, rfl, rfl, ⟨rfl, rfl⟩, ⟨_, _, _, _, rfl, rfl, ⟨rfl, rfl⟩, ⟨_, _, p0, _, rfl, rfl, ⟨v0, rfl, h0⟩, ⟨_, _, p1, _, rfl, rfl, ⟨v1, rfl, h1⟩, ⟨_, _, _, _, rfl, rfl, ⟨rfl, rfl⟩, ⟨rfl, rfl⟩⟩⟩⟩⟩⟩⟩⟩ := h
  exact ⟨_, _, p0, p1, rfl, by simp, ⟨_, rfl, h0⟩, ⟨_, rfl, h1⟩⟩
theorem mk117 {s : St} {x : Track} {C : List Nat} {v0 : Value} {v1 : Value} (h0 : RdF (Kd.sl 200 kd200) s [v0] x.Reads C) (h1 : RdF (Kd.sl 33 kd33) s [v1] x.Writes C) : RdF kd117 s [.int .i64 x.Xid, .int .i64 x.Begun, .int .i64 x.Ended, .bool x.All, v0, v1, .bool x.In, .bool x.Out] x C := ⟨[.int .i64 x.Xid], [.int .i64 x.Begun, .int .i64 x.Ended, .bool x.All, v0, v1, .bool x.In, .bool x.Out], rfl, rfl, ⟨[.int .i64 x.Begun], [.int .i64 x.Ended, .bool x.All, v0, v1, .bool x.In, .bool x.Out], rfl, rfl, ⟨[.int .i64 x.Ended], [.bool x.All, v0, v1, .bool x.In, .bool x.Out], rfl, rfl, ⟨[.bool x.All], [v0, v1, .bool x.In, .bool x.Out], rfl, rfl, ⟨[v0], [v1, .bool x.In, .bool x.Out], rfl, h0, ⟨[v1], [.bool x.In, .bool x.Out], rfl, h1, ⟨[.bool x.In], [.bool x.Out], rfl, rfl, rfl⟩⟩⟩⟩⟩⟩⟩
def kd178 : Kd Deed := Kd.iso (Kd.pair (Kd.int .i64) (Kd.pair (Kd.int .i64) (Kd.pair (Kd.int .i64) (Kd.pair (Kd.sl 282 kd282) (Kd.sl 26 kd26))))) fun x => (x.Xid, x.Begun, x.Ended, x.Reads, x.Writes)
theorem op178 {s : St} {cs : List Value} {x : Deed} {C : List Nat} (h : RdF kd178 s cs x C) : ∃ (v0 : Value) (v1 : Value), cs = [.int .i64 x.Xid, .int .i64 x.Begun, .int .i64 x.Ended, v0, v1] ∧ RdF (Kd.sl 282 kd282) s [v0] x.Reads C ∧ RdF (Kd.sl 26 kd26) s [v1] x.Writes C := by
  obtain ⟨_, _, rfl, rfl, ⟨_, _, rfl, rfl, ⟨_, _, rfl, rfl, ⟨_, _, rfl, ⟨v0, rfl, h0⟩, ⟨v1, rfl, h1⟩⟩⟩⟩⟩ := h
  exact ⟨v0, v1, rfl, ⟨_, rfl, h0⟩, ⟨_, rfl, h1⟩⟩
theorem mk178 {s : St} {x : Deed} {C : List Nat} {v0 : Value} {v1 : Value} (h0 : RdF (Kd.sl 282 kd282) s [v0] x.Reads C) (h1 : RdF (Kd.sl 26 kd26) s [v1] x.Writes C) : RdF kd178 s [.int .i64 x.Xid, .int .i64 x.Begun, .int .i64 x.Ended, v0, v1] x C := ⟨[.int .i64 x.Xid], [.int .i64 x.Begun, .int .i64 x.Ended, v0, v1], rfl, rfl, ⟨[.int .i64 x.Begun], [.int .i64 x.Ended, v0, v1], rfl, rfl, ⟨[.int .i64 x.Ended], [v0, v1], rfl, rfl, ⟨[v0], [v1], rfl, h0, h1⟩⟩⟩⟩
def kd182 : Kd Deed := Kd.iso (Kd.pair (Kd.int .i64) (Kd.pair (Kd.int .i64) (Kd.pair (Kd.int .i64) (Kd.pair (Kd.sl 200 kd200) (Kd.sl 33 kd33))))) fun x => (x.Xid, x.Begun, x.Ended, x.Reads, x.Writes)
theorem op182 {s : St} {cs : List Value} {x : Deed} {C : List Nat} (h : RdF kd182 s cs x C) : ∃ (v0 : Value) (v1 : Value), cs = [.int .i64 x.Xid, .int .i64 x.Begun, .int .i64 x.Ended, v0, v1] ∧ RdF (Kd.sl 200 kd200) s [v0] x.Reads C ∧ RdF (Kd.sl 33 kd33) s [v1] x.Writes C := by
  obtain ⟨_, _, rfl, rfl, ⟨_, _, rfl, rfl, ⟨_, _, rfl, rfl, ⟨_, _, rfl, ⟨v0, rfl, h0⟩, ⟨v1, rfl, h1⟩⟩⟩⟩⟩ := h
  exact ⟨v0, v1, rfl, ⟨_, rfl, h0⟩, ⟨_, rfl, h1⟩⟩
theorem po182 {w : World} {cs : List Value} {x : Deed} {os : List Nat} (h : kd182.ow w cs x os) : ∃ (v0 : Value) (v1 : Value) (p0 : List Nat) (p1 : List Nat), cs = [.int .i64 x.Xid, .int .i64 x.Begun, .int .i64 x.Ended, v0, v1] ∧ os = p0 ++ (p1) ∧ (Kd.sl 200 kd200).ow w [v0] x.Reads p0 ∧ (Kd.sl 33 kd33).ow w [v1] x.Writes p1 := by
  obtain ⟨_, _, _, _, rfl, rfl, ⟨rfl, rfl⟩, ⟨_, _, _, _, rfl, rfl, ⟨rfl, rfl⟩, ⟨_, _, _, _, rfl, rfl, ⟨rfl, rfl⟩, ⟨_, _, p0, p1, rfl, rfl, ⟨v0, rfl, h0⟩, ⟨v1, rfl, h1⟩⟩⟩⟩⟩ := h
  exact ⟨_, _, p0, p1, rfl, by simp, ⟨_, rfl, h0⟩, ⟨_, rfl, h1⟩⟩
theorem mk182 {s : St} {x : Deed} {C : List Nat} {v0 : Value} {v1 : Value} (h0 : RdF (Kd.sl 200 kd200) s [v0] x.Reads C) (h1 : RdF (Kd.sl 33 kd33) s [v1] x.Writes C) : RdF kd182 s [.int .i64 x.Xid, .int .i64 x.Begun, .int .i64 x.Ended, v0, v1] x C := ⟨[.int .i64 x.Xid], [.int .i64 x.Begun, .int .i64 x.Ended, v0, v1], rfl, rfl, ⟨[.int .i64 x.Begun], [.int .i64 x.Ended, v0, v1], rfl, rfl, ⟨[.int .i64 x.Ended], [v0, v1], rfl, rfl, ⟨[v0], [v1], rfl, h0, h1⟩⟩⟩⟩
def kd327 : Kd Entry := Kd.iso (Kd.pair kd26 (Kd.int .i64)) fun x => (x.Key, x.Id)
theorem op327 {s : St} {cs : List Value} {x : Entry} {C : List Nat} (h : RdF kd327 s cs x C) : ∃ (v0 : Value) (v1 : Value), cs = [.int .i64 x.Key.Kind, .int .i64 x.Key.N, v0, v1, .int .i64 x.Id] ∧ FL v0 x.Key.F ∧ RdF (Kd.sl 5 (Kd.int .u8)) s [v1] x.Key.T C := by
  obtain ⟨_, _, rfl, ⟨_, _, rfl, rfl, ⟨_, _, rfl, rfl, ⟨_, _, rfl, ⟨v0, rfl, h0⟩, ⟨v1, rfl, h1⟩⟩⟩⟩, rfl⟩ := h
  exact ⟨v0, v1, rfl, h0, ⟨_, rfl, h1⟩⟩
theorem mk327 {s : St} {x : Entry} {C : List Nat} {v0 : Value} {v1 : Value} (h0 : FL v0 x.Key.F) (h1 : RdF (Kd.sl 5 (Kd.int .u8)) s [v1] x.Key.T C) : RdF kd327 s [.int .i64 x.Key.Kind, .int .i64 x.Key.N, v0, v1, .int .i64 x.Id] x C := ⟨[.int .i64 x.Key.Kind, .int .i64 x.Key.N, v0, v1], [.int .i64 x.Id], rfl, ⟨[.int .i64 x.Key.Kind], [.int .i64 x.Key.N, v0, v1], rfl, rfl, ⟨[.int .i64 x.Key.N], [v0, v1], rfl, rfl, ⟨[v0], [v1], rfl, (fl_rd h0), h1⟩⟩⟩, rfl⟩
def kd241 : Kd Node := Kd.iso (Kd.pair Kd.bool (Kd.pair (Kd.sl 327 kd327) (Kd.sl 3 (Kd.int .i64)))) fun x => (x.Leaf, x.Entries, x.Kids)
theorem op241 {s : St} {cs : List Value} {x : Node} {C : List Nat} (h : RdF kd241 s cs x C) : ∃ (v0 : Value) (v1 : Value), cs = [.bool x.Leaf, v0, v1] ∧ RdF (Kd.sl 327 kd327) s [v0] x.Entries C ∧ RdF (Kd.sl 3 (Kd.int .i64)) s [v1] x.Kids C := by
  obtain ⟨_, _, rfl, rfl, ⟨_, _, rfl, ⟨v0, rfl, h0⟩, ⟨v1, rfl, h1⟩⟩⟩ := h
  exact ⟨v0, v1, rfl, ⟨_, rfl, h0⟩, ⟨_, rfl, h1⟩⟩
theorem mk241 {s : St} {x : Node} {C : List Nat} {v0 : Value} {v1 : Value} (h0 : RdF (Kd.sl 327 kd327) s [v0] x.Entries C) (h1 : RdF (Kd.sl 3 (Kd.int .i64)) s [v1] x.Kids C) : RdF kd241 s [.bool x.Leaf, v0, v1] x C := ⟨[.bool x.Leaf], [v0, v1], rfl, rfl, ⟨[v0], [v1], rfl, h0, h1⟩⟩
def ok_Item (x : Item) : Prop := InK .i64 x.Kind ∧ InK .i64 x.N ∧ okF x.F ∧ (x.T.length ≤ maxLen ∧ ∀ y ∈ x.T, InK .u8 y)
theorem tr26 : Opn Tryz.prog 26 kd26 ok_Item := tr_iso (fun x : Item => (x.Kind, x.N, x.F, x.T)) (fun x => ⟨x.1, x.2.1, x.2.2.1, x.2.2.2⟩) (fun _ => rfl) (tr_st Tryz.underlying26 (by kernel_rfl) (tf_cons rfl (by kernel_rfl) (tr_int Tryz.underlying3) (tf_cons rfl (by kernel_rfl) (tr_int Tryz.underlying3) (tf_cons rfl (by kernel_rfl) (tr_flt Tryz.underlying23) (tf_last rfl (by kernel_rfl) (tr_sl (e' := 5) Tryz.underlying24 (by kernel_rfl) (tr_int Tryz.underlying5)))))))
theorem tr33 : Opn Tryz.prog 33 kd33 ok_Item := tr_iso (fun x : Item => (x.Kind, x.N, x.F, x.T)) (fun x => ⟨x.1, x.2.1, x.2.2.1, x.2.2.2⟩) (fun _ => rfl) (tr_st Tryz.underlying33 (by kernel_rfl) (tf_cons rfl (by kernel_rfl) (tr_int Tryz.underlying3) (tf_cons rfl (by kernel_rfl) (tr_int Tryz.underlying3) (tf_cons rfl (by kernel_rfl) (tr_flt Tryz.underlying23) (tf_last rfl (by kernel_rfl) (tr_sl (e' := 5) Tryz.underlying24 (by kernel_rfl) (tr_int Tryz.underlying5)))))))
def ok_Page (x : Page) : Prop := InK .i64 x.Lsn ∧ (x.Slots.length ≤ maxLen ∧ ∀ y ∈ x.Slots, (y.length ≤ maxLen ∧ ∀ y1 ∈ y, InK .u8 y1))
theorem tr222 : Opn Tryz.prog 222 kd222 ok_Page := tr_iso (fun x : Page => (x.Lsn, x.Slots)) (fun x => ⟨x.1, x.2⟩) (fun _ => rfl) (tr_st Tryz.underlying222 (by kernel_rfl) (tf_cons rfl (by kernel_rfl) (tr_int Tryz.underlying3) (tf_last rfl (by kernel_rfl) (tr_sl (e' := 24) Tryz.underlying140 (by kernel_rfl) (tr_sl (e' := 5) Tryz.underlying24 (by kernel_rfl) (tr_int Tryz.underlying5))))))
def ok_Heap (x : Heap) : Prop := (x.Pages.length ≤ maxLen ∧ ∀ y ∈ x.Pages, ok_Page y)
theorem tr42 : Opn Tryz.prog 42 kd42 ok_Heap := tr_iso (fun x : Heap => (x.Pages)) (fun x => ⟨x⟩) (fun _ => rfl) (tr_st Tryz.underlying42 (by kernel_rfl) (tf_last rfl (by kernel_rfl) (tr_sl (e' := 222) Tryz.underlying40 (by kernel_rfl) tr222)))
theorem tr142 : Opn Tryz.prog 142 kd142 ok_Page := tr_iso (fun x : Page => (x.Lsn, x.Slots)) (fun x => ⟨x.1, x.2⟩) (fun _ => rfl) (tr_st Tryz.underlying142 (by kernel_rfl) (tf_cons rfl (by kernel_rfl) (tr_int Tryz.underlying3) (tf_last rfl (by kernel_rfl) (tr_sl (e' := 24) Tryz.underlying140 (by kernel_rfl) (tr_sl (e' := 5) Tryz.underlying24 (by kernel_rfl) (tr_int Tryz.underlying5))))))
theorem tr46 : Opn Tryz.prog 46 kd46 ok_Heap := tr_iso (fun x : Heap => (x.Pages)) (fun x => ⟨x⟩) (fun _ => rfl) (tr_st Tryz.underlying46 (by kernel_rfl) (tf_last rfl (by kernel_rfl) (tr_sl (e' := 142) Tryz.underlying44 (by kernel_rfl) tr142)))
def ok_Tuple (x : Tuple) : Prop := InK .i64 x.Xmin ∧ InK .i64 x.Xmax ∧ ok_Item x.Key ∧ ok_Item x.Value
theorem tr54 : Opn Tryz.prog 54 kd54 ok_Tuple := tr_iso (fun x : Tuple => (x.Xmin, x.Xmax, x.Key, x.Value)) (fun x => ⟨x.1, x.2.1, x.2.2.1, x.2.2.2⟩) (fun _ => rfl) (tr_st Tryz.underlying54 (by kernel_rfl) (tf_cons rfl (by kernel_rfl) (tr_int Tryz.underlying3) (tf_cons rfl (by kernel_rfl) (tr_int Tryz.underlying3) (tf_cons rfl (by kernel_rfl) tr26 (tf_last rfl (by kernel_rfl) tr26)))))
theorem tr58 : Opn Tryz.prog 58 kd58 ok_Tuple := tr_iso (fun x : Tuple => (x.Xmin, x.Xmax, x.Key, x.Value)) (fun x => ⟨x.1, x.2.1, x.2.2.1, x.2.2.2⟩) (fun _ => rfl) (tr_st Tryz.underlying58 (by kernel_rfl) (tf_cons rfl (by kernel_rfl) (tr_int Tryz.underlying3) (tf_cons rfl (by kernel_rfl) (tr_int Tryz.underlying3) (tf_cons rfl (by kernel_rfl) tr33 (tf_last rfl (by kernel_rfl) tr33)))))
def ok_Entry (x : Entry) : Prop := ok_Item x.Key ∧ InK .i64 x.Id
theorem tr155 : Opn Tryz.prog 155 kd155 ok_Entry := tr_iso (fun x : Entry => (x.Key, x.Id)) (fun x => ⟨x.1, x.2⟩) (fun _ => rfl) (tr_st Tryz.underlying155 (by kernel_rfl) (tf_cons rfl (by kernel_rfl) tr33 (tf_last rfl (by kernel_rfl) (tr_int Tryz.underlying3))))
def ok_Node (x : Node) : Prop := True ∧ (x.Entries.length ≤ maxLen ∧ ∀ y ∈ x.Entries, ok_Entry y) ∧ (x.Kids.length ≤ maxLen ∧ ∀ y ∈ x.Kids, InK .i64 y)
theorem tr168 : Opn Tryz.prog 168 kd168 ok_Node := tr_iso (fun x : Node => (x.Leaf, x.Entries, x.Kids)) (fun x => ⟨x.1, x.2.1, x.2.2⟩) (fun _ => rfl) (tr_st Tryz.underlying168 (by kernel_rfl) (tf_cons rfl (by kernel_rfl) (tr_bool Tryz.underlying4) (tf_cons rfl (by kernel_rfl) (tr_sl (e' := 155) Tryz.underlying159 (by kernel_rfl) tr155) (tf_last rfl (by kernel_rfl) (tr_sl (e' := 3) Tryz.underlying166 (by kernel_rfl) (tr_int Tryz.underlying3))))))
def ok_Tree (x : Tree) : Prop := (x.Nodes.length ≤ maxLen ∧ ∀ y ∈ x.Nodes, ok_Node y) ∧ InK .i64 x.Root
theorem tr69 : Opn Tryz.prog 69 kd69 ok_Tree := tr_iso (fun x : Tree => (x.Nodes, x.Root)) (fun x => ⟨x.1, x.2⟩) (fun _ => rfl) (tr_st Tryz.underlying69 (by kernel_rfl) (tf_cons rfl (by kernel_rfl) (tr_sl (e' := 168) Tryz.underlying67 (by kernel_rfl) tr168) (tf_last rfl (by kernel_rfl) (tr_int Tryz.underlying3))))
def ok_Record (x : Record) : Prop := InK .i64 x.Kind ∧ InK .i64 x.Lsn ∧ InK .i64 x.Xid ∧ InK .i64 x.Page ∧ InK .i64 x.Slot ∧ (x.Data.length ≤ maxLen ∧ ∀ y ∈ x.Data, InK .u8 y)
theorem tr88 : Opn Tryz.prog 88 kd88 ok_Record := tr_iso (fun x : Record => (x.Kind, x.Lsn, x.Xid, x.Page, x.Slot, x.Data)) (fun x => ⟨x.1, x.2.1, x.2.2.1, x.2.2.2.1, x.2.2.2.2.1, x.2.2.2.2.2⟩) (fun _ => rfl) (tr_st Tryz.underlying88 (by kernel_rfl) (tf_cons rfl (by kernel_rfl) (tr_int Tryz.underlying3) (tf_cons rfl (by kernel_rfl) (tr_int Tryz.underlying3) (tf_cons rfl (by kernel_rfl) (tr_int Tryz.underlying3) (tf_cons rfl (by kernel_rfl) (tr_int Tryz.underlying3) (tf_cons rfl (by kernel_rfl) (tr_int Tryz.underlying3) (tf_last rfl (by kernel_rfl) (tr_sl (e' := 5) Tryz.underlying24 (by kernel_rfl) (tr_int Tryz.underlying5)))))))))
theorem tr91 : Opn Tryz.prog 91 kd91 ok_Record := tr_iso (fun x : Record => (x.Kind, x.Lsn, x.Xid, x.Page, x.Slot, x.Data)) (fun x => ⟨x.1, x.2.1, x.2.2.1, x.2.2.2.1, x.2.2.2.2.1, x.2.2.2.2.2⟩) (fun _ => rfl) (tr_st Tryz.underlying91 (by kernel_rfl) (tf_cons rfl (by kernel_rfl) (tr_int Tryz.underlying3) (tf_cons rfl (by kernel_rfl) (tr_int Tryz.underlying3) (tf_cons rfl (by kernel_rfl) (tr_int Tryz.underlying3) (tf_cons rfl (by kernel_rfl) (tr_int Tryz.underlying3) (tf_cons rfl (by kernel_rfl) (tr_int Tryz.underlying3) (tf_last rfl (by kernel_rfl) (tr_sl (e' := 5) Tryz.underlying24 (by kernel_rfl) (tr_int Tryz.underlying5)))))))))
def ok_Span (x : Span) : Prop := ok_Item x.From ∧ ok_Item x.To
theorem tr282 : Opn Tryz.prog 282 kd282 ok_Span := tr_iso (fun x : Span => (x.From, x.To)) (fun x => ⟨x.1, x.2⟩) (fun _ => rfl) (tr_st Tryz.underlying282 (by kernel_rfl) (tf_cons rfl (by kernel_rfl) tr26 (tf_last rfl (by kernel_rfl) tr26)))
def ok_Track (x : Track) : Prop := InK .i64 x.Xid ∧ InK .i64 x.Begun ∧ InK .i64 x.Ended ∧ True ∧ (x.Reads.length ≤ maxLen ∧ ∀ y ∈ x.Reads, ok_Span y) ∧ (x.Writes.length ≤ maxLen ∧ ∀ y ∈ x.Writes, ok_Item y) ∧ True ∧ True
theorem tr109 : Opn Tryz.prog 109 kd109 ok_Track := tr_iso (fun x : Track => (x.Xid, x.Begun, x.Ended, x.All, x.Reads, x.Writes, x.In, x.Out)) (fun x => ⟨x.1, x.2.1, x.2.2.1, x.2.2.2.1, x.2.2.2.2.1, x.2.2.2.2.2.1, x.2.2.2.2.2.2.1, x.2.2.2.2.2.2.2⟩) (fun _ => rfl) (tr_st Tryz.underlying109 (by kernel_rfl) (tf_cons rfl (by kernel_rfl) (tr_int Tryz.underlying3) (tf_cons rfl (by kernel_rfl) (tr_int Tryz.underlying3) (tf_cons rfl (by kernel_rfl) (tr_int Tryz.underlying3) (tf_cons rfl (by kernel_rfl) (tr_bool Tryz.underlying4) (tf_cons rfl (by kernel_rfl) (tr_sl (e' := 282) Tryz.underlying106 (by kernel_rfl) tr282) (tf_cons rfl (by kernel_rfl) (tr_sl (e' := 26) Tryz.underlying107 (by kernel_rfl) tr26) (tf_cons rfl (by kernel_rfl) (tr_bool Tryz.underlying4) (tf_last rfl (by kernel_rfl) (tr_bool Tryz.underlying4))))))))))
theorem tr200 : Opn Tryz.prog 200 kd200 ok_Span := tr_iso (fun x : Span => (x.From, x.To)) (fun x => ⟨x.1, x.2⟩) (fun _ => rfl) (tr_st Tryz.underlying200 (by kernel_rfl) (tf_cons rfl (by kernel_rfl) tr33 (tf_last rfl (by kernel_rfl) tr33)))
theorem tr117 : Opn Tryz.prog 117 kd117 ok_Track := tr_iso (fun x : Track => (x.Xid, x.Begun, x.Ended, x.All, x.Reads, x.Writes, x.In, x.Out)) (fun x => ⟨x.1, x.2.1, x.2.2.1, x.2.2.2.1, x.2.2.2.2.1, x.2.2.2.2.2.1, x.2.2.2.2.2.2.1, x.2.2.2.2.2.2.2⟩) (fun _ => rfl) (tr_st Tryz.underlying117 (by kernel_rfl) (tf_cons rfl (by kernel_rfl) (tr_int Tryz.underlying3) (tf_cons rfl (by kernel_rfl) (tr_int Tryz.underlying3) (tf_cons rfl (by kernel_rfl) (tr_int Tryz.underlying3) (tf_cons rfl (by kernel_rfl) (tr_bool Tryz.underlying4) (tf_cons rfl (by kernel_rfl) (tr_sl (e' := 200) Tryz.underlying114 (by kernel_rfl) tr200) (tf_cons rfl (by kernel_rfl) (tr_sl (e' := 33) Tryz.underlying115 (by kernel_rfl) tr33) (tf_cons rfl (by kernel_rfl) (tr_bool Tryz.underlying4) (tf_last rfl (by kernel_rfl) (tr_bool Tryz.underlying4))))))))))
def ok_Deed (x : Deed) : Prop := InK .i64 x.Xid ∧ InK .i64 x.Begun ∧ InK .i64 x.Ended ∧ (x.Reads.length ≤ maxLen ∧ ∀ y ∈ x.Reads, ok_Span y) ∧ (x.Writes.length ≤ maxLen ∧ ∀ y ∈ x.Writes, ok_Item y)
theorem tr178 : Opn Tryz.prog 178 kd178 ok_Deed := tr_iso (fun x : Deed => (x.Xid, x.Begun, x.Ended, x.Reads, x.Writes)) (fun x => ⟨x.1, x.2.1, x.2.2.1, x.2.2.2.1, x.2.2.2.2⟩) (fun _ => rfl) (tr_st Tryz.underlying178 (by kernel_rfl) (tf_cons rfl (by kernel_rfl) (tr_int Tryz.underlying3) (tf_cons rfl (by kernel_rfl) (tr_int Tryz.underlying3) (tf_cons rfl (by kernel_rfl) (tr_int Tryz.underlying3) (tf_cons rfl (by kernel_rfl) (tr_sl (e' := 282) Tryz.underlying106 (by kernel_rfl) tr282) (tf_last rfl (by kernel_rfl) (tr_sl (e' := 26) Tryz.underlying107 (by kernel_rfl) tr26)))))))
theorem tr182 : Opn Tryz.prog 182 kd182 ok_Deed := tr_iso (fun x : Deed => (x.Xid, x.Begun, x.Ended, x.Reads, x.Writes)) (fun x => ⟨x.1, x.2.1, x.2.2.1, x.2.2.2.1, x.2.2.2.2⟩) (fun _ => rfl) (tr_st Tryz.underlying182 (by kernel_rfl) (tf_cons rfl (by kernel_rfl) (tr_int Tryz.underlying3) (tf_cons rfl (by kernel_rfl) (tr_int Tryz.underlying3) (tf_cons rfl (by kernel_rfl) (tr_int Tryz.underlying3) (tf_cons rfl (by kernel_rfl) (tr_sl (e' := 200) Tryz.underlying114 (by kernel_rfl) tr200) (tf_last rfl (by kernel_rfl) (tr_sl (e' := 33) Tryz.underlying115 (by kernel_rfl) tr33)))))))
theorem tr327 : Opn Tryz.prog 327 kd327 ok_Entry := tr_iso (fun x : Entry => (x.Key, x.Id)) (fun x => ⟨x.1, x.2⟩) (fun _ => rfl) (tr_st Tryz.underlying327 (by kernel_rfl) (tf_cons rfl (by kernel_rfl) tr26 (tf_last rfl (by kernel_rfl) (tr_int Tryz.underlying3))))
theorem tr241 : Opn Tryz.prog 241 kd241 ok_Node := tr_iso (fun x : Node => (x.Leaf, x.Entries, x.Kids)) (fun x => ⟨x.1, x.2.1, x.2.2⟩) (fun _ => rfl) (tr_st Tryz.underlying241 (by kernel_rfl) (tf_cons rfl (by kernel_rfl) (tr_bool Tryz.underlying4) (tf_cons rfl (by kernel_rfl) (tr_sl (e' := 327) Tryz.underlying239 (by kernel_rfl) tr327) (tf_last rfl (by kernel_rfl) (tr_sl (e' := 3) Tryz.underlying166 (by kernel_rfl) (tr_int Tryz.underlying3))))))
theorem xn166 : Extern.findNext Tryz.f166 = none := by kernel_rfl
theorem xf166 : Extern.find Tryz.f166 = some Extern.MathFloatBits.float64bits := by kernel_rfl
theorem xn335 : Extern.findNext Tryz.f335 = none := by kernel_rfl
theorem xf335 : Extern.find Tryz.f335 = some Extern.MathFloatBits.float64frombits := by kernel_rfl
theorem fa109_0 : ∀ (a : Addr) (w : World), (Instr.fieldAt 109 (.pointer (some a)) 0).run Tryz.prog w = .ok (.pointer (some (a.add 0))) w := fun _ _ => by kernel_rfl
theorem fa109_1 : ∀ (a : Addr) (w : World), (Instr.fieldAt 109 (.pointer (some a)) 1).run Tryz.prog w = .ok (.pointer (some (a.add 1))) w := fun _ _ => by kernel_rfl
theorem fa109_2 : ∀ (a : Addr) (w : World), (Instr.fieldAt 109 (.pointer (some a)) 2).run Tryz.prog w = .ok (.pointer (some (a.add 2))) w := fun _ _ => by kernel_rfl
theorem fa109_3 : ∀ (a : Addr) (w : World), (Instr.fieldAt 109 (.pointer (some a)) 3).run Tryz.prog w = .ok (.pointer (some (a.add 3))) w := fun _ _ => by kernel_rfl
theorem fa109_4 : ∀ (a : Addr) (w : World), (Instr.fieldAt 109 (.pointer (some a)) 4).run Tryz.prog w = .ok (.pointer (some (a.add 4))) w := fun _ _ => by kernel_rfl
theorem fa109_5 : ∀ (a : Addr) (w : World), (Instr.fieldAt 109 (.pointer (some a)) 5).run Tryz.prog w = .ok (.pointer (some (a.add 5))) w := fun _ _ => by kernel_rfl
theorem fa109_6 : ∀ (a : Addr) (w : World), (Instr.fieldAt 109 (.pointer (some a)) 6).run Tryz.prog w = .ok (.pointer (some (a.add 6))) w := fun _ _ => by kernel_rfl
theorem fa109_7 : ∀ (a : Addr) (w : World), (Instr.fieldAt 109 (.pointer (some a)) 7).run Tryz.prog w = .ok (.pointer (some (a.add 7))) w := fun _ _ => by kernel_rfl
theorem fa117_0 : ∀ (a : Addr) (w : World), (Instr.fieldAt 117 (.pointer (some a)) 0).run Tryz.prog w = .ok (.pointer (some (a.add 0))) w := fun _ _ => by kernel_rfl
theorem fa117_1 : ∀ (a : Addr) (w : World), (Instr.fieldAt 117 (.pointer (some a)) 1).run Tryz.prog w = .ok (.pointer (some (a.add 1))) w := fun _ _ => by kernel_rfl
theorem fa117_2 : ∀ (a : Addr) (w : World), (Instr.fieldAt 117 (.pointer (some a)) 2).run Tryz.prog w = .ok (.pointer (some (a.add 2))) w := fun _ _ => by kernel_rfl
theorem fa117_3 : ∀ (a : Addr) (w : World), (Instr.fieldAt 117 (.pointer (some a)) 3).run Tryz.prog w = .ok (.pointer (some (a.add 3))) w := fun _ _ => by kernel_rfl
theorem fa117_4 : ∀ (a : Addr) (w : World), (Instr.fieldAt 117 (.pointer (some a)) 4).run Tryz.prog w = .ok (.pointer (some (a.add 4))) w := fun _ _ => by kernel_rfl
theorem fa117_5 : ∀ (a : Addr) (w : World), (Instr.fieldAt 117 (.pointer (some a)) 5).run Tryz.prog w = .ok (.pointer (some (a.add 5))) w := fun _ _ => by kernel_rfl
theorem fa117_6 : ∀ (a : Addr) (w : World), (Instr.fieldAt 117 (.pointer (some a)) 6).run Tryz.prog w = .ok (.pointer (some (a.add 6))) w := fun _ _ => by kernel_rfl
theorem fa117_7 : ∀ (a : Addr) (w : World), (Instr.fieldAt 117 (.pointer (some a)) 7).run Tryz.prog w = .ok (.pointer (some (a.add 7))) w := fun _ _ => by kernel_rfl
theorem fa142_0 : ∀ (a : Addr) (w : World), (Instr.fieldAt 142 (.pointer (some a)) 0).run Tryz.prog w = .ok (.pointer (some (a.add 0))) w := fun _ _ => by kernel_rfl
theorem fa142_1 : ∀ (a : Addr) (w : World), (Instr.fieldAt 142 (.pointer (some a)) 1).run Tryz.prog w = .ok (.pointer (some (a.add 1))) w := fun _ _ => by kernel_rfl
theorem fa155_0 : ∀ (a : Addr) (w : World), (Instr.fieldAt 155 (.pointer (some a)) 0).run Tryz.prog w = .ok (.pointer (some (a.add 0))) w := fun _ _ => by kernel_rfl
theorem fa155_1 : ∀ (a : Addr) (w : World), (Instr.fieldAt 155 (.pointer (some a)) 1).run Tryz.prog w = .ok (.pointer (some (a.add 4))) w := fun _ _ => by kernel_rfl
theorem fa168_0 : ∀ (a : Addr) (w : World), (Instr.fieldAt 168 (.pointer (some a)) 0).run Tryz.prog w = .ok (.pointer (some (a.add 0))) w := fun _ _ => by kernel_rfl
theorem fa168_1 : ∀ (a : Addr) (w : World), (Instr.fieldAt 168 (.pointer (some a)) 1).run Tryz.prog w = .ok (.pointer (some (a.add 1))) w := fun _ _ => by kernel_rfl
theorem fa168_2 : ∀ (a : Addr) (w : World), (Instr.fieldAt 168 (.pointer (some a)) 2).run Tryz.prog w = .ok (.pointer (some (a.add 2))) w := fun _ _ => by kernel_rfl
theorem fa178_0 : ∀ (a : Addr) (w : World), (Instr.fieldAt 178 (.pointer (some a)) 0).run Tryz.prog w = .ok (.pointer (some (a.add 0))) w := fun _ _ => by kernel_rfl
theorem fa178_1 : ∀ (a : Addr) (w : World), (Instr.fieldAt 178 (.pointer (some a)) 1).run Tryz.prog w = .ok (.pointer (some (a.add 1))) w := fun _ _ => by kernel_rfl
theorem fa178_2 : ∀ (a : Addr) (w : World), (Instr.fieldAt 178 (.pointer (some a)) 2).run Tryz.prog w = .ok (.pointer (some (a.add 2))) w := fun _ _ => by kernel_rfl
theorem fa178_3 : ∀ (a : Addr) (w : World), (Instr.fieldAt 178 (.pointer (some a)) 3).run Tryz.prog w = .ok (.pointer (some (a.add 3))) w := fun _ _ => by kernel_rfl
theorem fa178_4 : ∀ (a : Addr) (w : World), (Instr.fieldAt 178 (.pointer (some a)) 4).run Tryz.prog w = .ok (.pointer (some (a.add 4))) w := fun _ _ => by kernel_rfl
theorem fa182_0 : ∀ (a : Addr) (w : World), (Instr.fieldAt 182 (.pointer (some a)) 0).run Tryz.prog w = .ok (.pointer (some (a.add 0))) w := fun _ _ => by kernel_rfl
theorem fa182_1 : ∀ (a : Addr) (w : World), (Instr.fieldAt 182 (.pointer (some a)) 1).run Tryz.prog w = .ok (.pointer (some (a.add 1))) w := fun _ _ => by kernel_rfl
theorem fa182_2 : ∀ (a : Addr) (w : World), (Instr.fieldAt 182 (.pointer (some a)) 2).run Tryz.prog w = .ok (.pointer (some (a.add 2))) w := fun _ _ => by kernel_rfl
theorem fa182_3 : ∀ (a : Addr) (w : World), (Instr.fieldAt 182 (.pointer (some a)) 3).run Tryz.prog w = .ok (.pointer (some (a.add 3))) w := fun _ _ => by kernel_rfl
theorem fa182_4 : ∀ (a : Addr) (w : World), (Instr.fieldAt 182 (.pointer (some a)) 4).run Tryz.prog w = .ok (.pointer (some (a.add 4))) w := fun _ _ => by kernel_rfl
theorem fa200_0 : ∀ (a : Addr) (w : World), (Instr.fieldAt 200 (.pointer (some a)) 0).run Tryz.prog w = .ok (.pointer (some (a.add 0))) w := fun _ _ => by kernel_rfl
theorem fa200_1 : ∀ (a : Addr) (w : World), (Instr.fieldAt 200 (.pointer (some a)) 1).run Tryz.prog w = .ok (.pointer (some (a.add 4))) w := fun _ _ => by kernel_rfl
theorem fa222_0 : ∀ (a : Addr) (w : World), (Instr.fieldAt 222 (.pointer (some a)) 0).run Tryz.prog w = .ok (.pointer (some (a.add 0))) w := fun _ _ => by kernel_rfl
theorem fa222_1 : ∀ (a : Addr) (w : World), (Instr.fieldAt 222 (.pointer (some a)) 1).run Tryz.prog w = .ok (.pointer (some (a.add 1))) w := fun _ _ => by kernel_rfl
theorem fa241_0 : ∀ (a : Addr) (w : World), (Instr.fieldAt 241 (.pointer (some a)) 0).run Tryz.prog w = .ok (.pointer (some (a.add 0))) w := fun _ _ => by kernel_rfl
theorem fa241_1 : ∀ (a : Addr) (w : World), (Instr.fieldAt 241 (.pointer (some a)) 1).run Tryz.prog w = .ok (.pointer (some (a.add 1))) w := fun _ _ => by kernel_rfl
theorem fa241_2 : ∀ (a : Addr) (w : World), (Instr.fieldAt 241 (.pointer (some a)) 2).run Tryz.prog w = .ok (.pointer (some (a.add 2))) w := fun _ _ => by kernel_rfl
theorem fa248_0 : ∀ (a : Addr) (w : World), (Instr.fieldAt 248 (.pointer (some a)) 0).run Tryz.prog w = .ok (.pointer (some (a.add 0))) w := fun _ _ => by kernel_rfl
theorem fa248_2 : ∀ (a : Addr) (w : World), (Instr.fieldAt 248 (.pointer (some a)) 2).run Tryz.prog w = .ok (.pointer (some (a.add 2))) w := fun _ _ => by kernel_rfl
theorem fa26_0 : ∀ (a : Addr) (w : World), (Instr.fieldAt 26 (.pointer (some a)) 0).run Tryz.prog w = .ok (.pointer (some (a.add 0))) w := fun _ _ => by kernel_rfl
theorem fa26_1 : ∀ (a : Addr) (w : World), (Instr.fieldAt 26 (.pointer (some a)) 1).run Tryz.prog w = .ok (.pointer (some (a.add 1))) w := fun _ _ => by kernel_rfl
theorem fa26_2 : ∀ (a : Addr) (w : World), (Instr.fieldAt 26 (.pointer (some a)) 2).run Tryz.prog w = .ok (.pointer (some (a.add 2))) w := fun _ _ => by kernel_rfl
theorem fa26_3 : ∀ (a : Addr) (w : World), (Instr.fieldAt 26 (.pointer (some a)) 3).run Tryz.prog w = .ok (.pointer (some (a.add 3))) w := fun _ _ => by kernel_rfl
theorem fa282_0 : ∀ (a : Addr) (w : World), (Instr.fieldAt 282 (.pointer (some a)) 0).run Tryz.prog w = .ok (.pointer (some (a.add 0))) w := fun _ _ => by kernel_rfl
theorem fa282_1 : ∀ (a : Addr) (w : World), (Instr.fieldAt 282 (.pointer (some a)) 1).run Tryz.prog w = .ok (.pointer (some (a.add 4))) w := fun _ _ => by kernel_rfl
theorem fa327_0 : ∀ (a : Addr) (w : World), (Instr.fieldAt 327 (.pointer (some a)) 0).run Tryz.prog w = .ok (.pointer (some (a.add 0))) w := fun _ _ => by kernel_rfl
theorem fa327_1 : ∀ (a : Addr) (w : World), (Instr.fieldAt 327 (.pointer (some a)) 1).run Tryz.prog w = .ok (.pointer (some (a.add 4))) w := fun _ _ => by kernel_rfl
theorem fa33_0 : ∀ (a : Addr) (w : World), (Instr.fieldAt 33 (.pointer (some a)) 0).run Tryz.prog w = .ok (.pointer (some (a.add 0))) w := fun _ _ => by kernel_rfl
theorem fa33_1 : ∀ (a : Addr) (w : World), (Instr.fieldAt 33 (.pointer (some a)) 1).run Tryz.prog w = .ok (.pointer (some (a.add 1))) w := fun _ _ => by kernel_rfl
theorem fa33_2 : ∀ (a : Addr) (w : World), (Instr.fieldAt 33 (.pointer (some a)) 2).run Tryz.prog w = .ok (.pointer (some (a.add 2))) w := fun _ _ => by kernel_rfl
theorem fa33_3 : ∀ (a : Addr) (w : World), (Instr.fieldAt 33 (.pointer (some a)) 3).run Tryz.prog w = .ok (.pointer (some (a.add 3))) w := fun _ _ => by kernel_rfl
theorem fa42_0 : ∀ (a : Addr) (w : World), (Instr.fieldAt 42 (.pointer (some a)) 0).run Tryz.prog w = .ok (.pointer (some (a.add 0))) w := fun _ _ => by kernel_rfl
theorem fa46_0 : ∀ (a : Addr) (w : World), (Instr.fieldAt 46 (.pointer (some a)) 0).run Tryz.prog w = .ok (.pointer (some (a.add 0))) w := fun _ _ => by kernel_rfl
theorem fa54_0 : ∀ (a : Addr) (w : World), (Instr.fieldAt 54 (.pointer (some a)) 0).run Tryz.prog w = .ok (.pointer (some (a.add 0))) w := fun _ _ => by kernel_rfl
theorem fa54_1 : ∀ (a : Addr) (w : World), (Instr.fieldAt 54 (.pointer (some a)) 1).run Tryz.prog w = .ok (.pointer (some (a.add 1))) w := fun _ _ => by kernel_rfl
theorem fa54_2 : ∀ (a : Addr) (w : World), (Instr.fieldAt 54 (.pointer (some a)) 2).run Tryz.prog w = .ok (.pointer (some (a.add 2))) w := fun _ _ => by kernel_rfl
theorem fa54_3 : ∀ (a : Addr) (w : World), (Instr.fieldAt 54 (.pointer (some a)) 3).run Tryz.prog w = .ok (.pointer (some (a.add 6))) w := fun _ _ => by kernel_rfl
theorem fa58_0 : ∀ (a : Addr) (w : World), (Instr.fieldAt 58 (.pointer (some a)) 0).run Tryz.prog w = .ok (.pointer (some (a.add 0))) w := fun _ _ => by kernel_rfl
theorem fa58_1 : ∀ (a : Addr) (w : World), (Instr.fieldAt 58 (.pointer (some a)) 1).run Tryz.prog w = .ok (.pointer (some (a.add 1))) w := fun _ _ => by kernel_rfl
theorem fa58_2 : ∀ (a : Addr) (w : World), (Instr.fieldAt 58 (.pointer (some a)) 2).run Tryz.prog w = .ok (.pointer (some (a.add 2))) w := fun _ _ => by kernel_rfl
theorem fa58_3 : ∀ (a : Addr) (w : World), (Instr.fieldAt 58 (.pointer (some a)) 3).run Tryz.prog w = .ok (.pointer (some (a.add 6))) w := fun _ _ => by kernel_rfl
theorem fa65_0 : ∀ (a : Addr) (w : World), (Instr.fieldAt 65 (.pointer (some a)) 0).run Tryz.prog w = .ok (.pointer (some (a.add 0))) w := fun _ _ => by kernel_rfl
theorem fa65_1 : ∀ (a : Addr) (w : World), (Instr.fieldAt 65 (.pointer (some a)) 1).run Tryz.prog w = .ok (.pointer (some (a.add 1))) w := fun _ _ => by kernel_rfl
theorem fa69_0 : ∀ (a : Addr) (w : World), (Instr.fieldAt 69 (.pointer (some a)) 0).run Tryz.prog w = .ok (.pointer (some (a.add 0))) w := fun _ _ => by kernel_rfl
theorem fa69_1 : ∀ (a : Addr) (w : World), (Instr.fieldAt 69 (.pointer (some a)) 1).run Tryz.prog w = .ok (.pointer (some (a.add 1))) w := fun _ _ => by kernel_rfl
theorem fa88_0 : ∀ (a : Addr) (w : World), (Instr.fieldAt 88 (.pointer (some a)) 0).run Tryz.prog w = .ok (.pointer (some (a.add 0))) w := fun _ _ => by kernel_rfl
theorem fa88_1 : ∀ (a : Addr) (w : World), (Instr.fieldAt 88 (.pointer (some a)) 1).run Tryz.prog w = .ok (.pointer (some (a.add 1))) w := fun _ _ => by kernel_rfl
theorem fa88_2 : ∀ (a : Addr) (w : World), (Instr.fieldAt 88 (.pointer (some a)) 2).run Tryz.prog w = .ok (.pointer (some (a.add 2))) w := fun _ _ => by kernel_rfl
theorem fa88_3 : ∀ (a : Addr) (w : World), (Instr.fieldAt 88 (.pointer (some a)) 3).run Tryz.prog w = .ok (.pointer (some (a.add 3))) w := fun _ _ => by kernel_rfl
theorem fa88_4 : ∀ (a : Addr) (w : World), (Instr.fieldAt 88 (.pointer (some a)) 4).run Tryz.prog w = .ok (.pointer (some (a.add 4))) w := fun _ _ => by kernel_rfl
theorem fa88_5 : ∀ (a : Addr) (w : World), (Instr.fieldAt 88 (.pointer (some a)) 5).run Tryz.prog w = .ok (.pointer (some (a.add 5))) w := fun _ _ => by kernel_rfl
theorem fa91_0 : ∀ (a : Addr) (w : World), (Instr.fieldAt 91 (.pointer (some a)) 0).run Tryz.prog w = .ok (.pointer (some (a.add 0))) w := fun _ _ => by kernel_rfl
theorem fa91_1 : ∀ (a : Addr) (w : World), (Instr.fieldAt 91 (.pointer (some a)) 1).run Tryz.prog w = .ok (.pointer (some (a.add 1))) w := fun _ _ => by kernel_rfl
theorem fa91_2 : ∀ (a : Addr) (w : World), (Instr.fieldAt 91 (.pointer (some a)) 2).run Tryz.prog w = .ok (.pointer (some (a.add 2))) w := fun _ _ => by kernel_rfl
theorem fa91_3 : ∀ (a : Addr) (w : World), (Instr.fieldAt 91 (.pointer (some a)) 3).run Tryz.prog w = .ok (.pointer (some (a.add 3))) w := fun _ _ => by kernel_rfl
theorem fa91_4 : ∀ (a : Addr) (w : World), (Instr.fieldAt 91 (.pointer (some a)) 4).run Tryz.prog w = .ok (.pointer (some (a.add 4))) w := fun _ _ => by kernel_rfl
theorem fa91_5 : ∀ (a : Addr) (w : World), (Instr.fieldAt 91 (.pointer (some a)) 5).run Tryz.prog w = .ok (.pointer (some (a.add 5))) w := fun _ _ => by kernel_rfl
theorem o117 : (Tryz.prog.info? 117).bind (·.zero) = some (.agg #[.int .i64 0, .int .i64 0, .int .i64 0, .bool false, .slice none 0 0, .slice none 0 0, .bool false, .bool false]) := by kernel_rfl
theorem o142 : (Tryz.prog.info? 142).bind (·.zero) = some (.agg #[.int .i64 0, .slice none 0 0]) := by kernel_rfl
theorem o155 : (Tryz.prog.info? 155).bind (·.zero) = some (.agg #[.int .i64 0, .int .i64 0, .float .f64 0, .slice none 0 0, .int .i64 0]) := by kernel_rfl
theorem o166 : (Tryz.prog.info? 166).bind (·.zero) = some (.slice none 0 0) := by kernel_rfl
theorem o168 : (Tryz.prog.info? 168).bind (·.zero) = some (.agg #[.bool false, .slice none 0 0, .slice none 0 0]) := by kernel_rfl
theorem o182 : (Tryz.prog.info? 182).bind (·.zero) = some (.agg #[.int .i64 0, .int .i64 0, .int .i64 0, .slice none 0 0, .slice none 0 0]) := by kernel_rfl
theorem o200 : (Tryz.prog.info? 200).bind (·.zero) = some (.agg #[.int .i64 0, .int .i64 0, .float .f64 0, .slice none 0 0, .int .i64 0, .int .i64 0, .float .f64 0, .slice none 0 0]) := by kernel_rfl
theorem o24 : (Tryz.prog.info? 24).bind (·.zero) = some (.slice none 0 0) := by kernel_rfl
theorem o248 : (Tryz.prog.info? 248).bind (·.zero) = some (.agg #[.slice none 0 0, .int .i64 0, .bool false, .slice none 0 0]) := by kernel_rfl
theorem o3 : (Tryz.prog.info? 3).bind (·.zero) = some (.int .i64 0) := by kernel_rfl
theorem o33 : (Tryz.prog.info? 33).bind (·.zero) = some (.agg #[.int .i64 0, .int .i64 0, .float .f64 0, .slice none 0 0]) := by kernel_rfl
theorem o331 : (Tryz.prog.info? 331).bind (·.zero) = some (.int .u64 0) := by kernel_rfl
theorem o4 : (Tryz.prog.info? 4).bind (·.zero) = some (.bool false) := by kernel_rfl
theorem o46 : (Tryz.prog.info? 46).bind (·.zero) = some (.agg #[.slice none 0 0]) := by kernel_rfl
theorem o5 : (Tryz.prog.info? 5).bind (·.zero) = some (.int .u8 0) := by kernel_rfl
theorem o58 : (Tryz.prog.info? 58).bind (·.zero) = some (.agg #[.int .i64 0, .int .i64 0, .int .i64 0, .int .i64 0, .float .f64 0, .slice none 0 0, .int .i64 0, .int .i64 0, .float .f64 0, .slice none 0 0]) := by kernel_rfl
theorem o69 : (Tryz.prog.info? 69).bind (·.zero) = some (.agg #[.slice none 0 0, .int .i64 0]) := by kernel_rfl
theorem o91 : (Tryz.prog.info? 91).bind (·.zero) = some (.agg #[.int .i64 0, .int .i64 0, .int .i64 0, .int .i64 0, .int .i64 0, .slice none 0 0]) := by kernel_rfl
theorem pl142 : PlF Tryz.prog 142 #[(0, 1), (1, 1)] := ⟨_, Tryz.underlying142, fun _ => by kernel_rfl⟩
theorem pl155 : PlF Tryz.prog 155 #[(0, 4), (4, 1)] := ⟨_, Tryz.underlying155, fun _ => by kernel_rfl⟩
theorem pl168 : PlF Tryz.prog 168 #[(0, 1), (1, 1), (2, 1)] := ⟨_, Tryz.underlying168, fun _ => by kernel_rfl⟩
theorem pl200 : PlF Tryz.prog 200 #[(0, 4), (4, 4)] := ⟨_, Tryz.underlying200, fun _ => by kernel_rfl⟩
theorem pl248 : PlF Tryz.prog 248 #[(0, 1), (1, 1), (2, 1), (3, 1)] := ⟨_, Tryz.underlying248, fun _ => by kernel_rfl⟩
theorem pl33 : PlF Tryz.prog 33 #[(0, 1), (1, 1), (2, 1), (3, 1)] := ⟨_, Tryz.underlying33, fun _ => by kernel_rfl⟩
theorem pl46 : PlF Tryz.prog 46 #[(0, 1)] := ⟨_, Tryz.underlying46, fun _ => by kernel_rfl⟩
theorem pl58 : PlF Tryz.prog 58 #[(0, 1), (1, 1), (2, 4), (6, 4)] := ⟨_, Tryz.underlying58, fun _ => by kernel_rfl⟩
theorem pl69 : PlF Tryz.prog 69 #[(0, 1), (1, 1)] := ⟨_, Tryz.underlying69, fun _ => by kernel_rfl⟩
theorem sl100 : SlT Tryz.prog 100 91 6 := SlT.mk (by_ := 64) (z := (.agg #[.int .i64 0, .int .i64 0, .int .i64 0, .int .i64 0, .int .i64 0, .slice none 0 0])) Tryz.underlying100 (by kernel_rfl) rfl rfl rfl
theorem sl114 : SlT Tryz.prog 114 200 8 := SlT.mk (by_ := 96) (z := (.agg #[.int .i64 0, .int .i64 0, .float .f64 0, .slice none 0 0, .int .i64 0, .int .i64 0, .float .f64 0, .slice none 0 0])) Tryz.underlying114 (by kernel_rfl) rfl rfl rfl
theorem sl115 : SlT Tryz.prog 115 33 4 := SlT.mk (by_ := 48) (z := (.agg #[.int .i64 0, .int .i64 0, .float .f64 0, .slice none 0 0])) Tryz.underlying115 (by kernel_rfl) rfl rfl rfl
theorem sl140 : SlT Tryz.prog 140 24 1 := SlT.mk (by_ := 24) (z := (.slice none 0 0)) Tryz.underlying140 (by kernel_rfl) rfl rfl rfl
theorem sl159 : SlT Tryz.prog 159 155 5 := SlT.mk (by_ := 56) (z := (.agg #[.int .i64 0, .int .i64 0, .float .f64 0, .slice none 0 0, .int .i64 0])) Tryz.underlying159 (by kernel_rfl) rfl rfl rfl
theorem sl166 : SlT Tryz.prog 166 3 1 := SlT.mk (by_ := 8) (z := (.int .i64 0)) Tryz.underlying166 (by kernel_rfl) rfl rfl rfl
theorem sl185 : SlT Tryz.prog 185 166 1 := SlT.mk (by_ := 24) (z := (.slice none 0 0)) Tryz.underlying185 (by kernel_rfl) rfl rfl rfl
theorem sl24 : SlT Tryz.prog 24 5 1 := SlT.mk (by_ := 1) (z := (.int .u8 0)) Tryz.underlying24 (by kernel_rfl) rfl rfl rfl
theorem sl246 : SlT Tryz.prog 246 4 1 := SlT.mk (by_ := 1) (z := (.bool false)) Tryz.underlying246 (by kernel_rfl) rfl rfl rfl
theorem sl29 : SlT Tryz.prog 29 117 8 := SlT.mk (by_ := 88) (z := (.agg #[.int .i64 0, .int .i64 0, .int .i64 0, .bool false, .slice none 0 0, .slice none 0 0, .bool false, .bool false])) Tryz.underlying29 (by kernel_rfl) rfl rfl rfl
theorem sl44 : SlT Tryz.prog 44 142 2 := SlT.mk (by_ := 32) (z := (.agg #[.int .i64 0, .slice none 0 0])) Tryz.underlying44 (by kernel_rfl) rfl rfl rfl
theorem sl67 : SlT Tryz.prog 67 168 3 := SlT.mk (by_ := 56) (z := (.agg #[.bool false, .slice none 0 0, .slice none 0 0])) Tryz.underlying67 (by kernel_rfl) rfl rfl rfl
theorem sl80 : SlT Tryz.prog 80 182 5 := SlT.mk (by_ := 72) (z := (.agg #[.int .i64 0, .int .i64 0, .int .i64 0, .slice none 0 0, .slice none 0 0])) Tryz.underlying80 (by kernel_rfl) rfl rfl rfl
theorem z109 : (Tryz.prog.info? 109).map (·.size) = some 8 := by kernel_rfl
theorem z114 : (Tryz.prog.info? 114).map (·.size) = some 1 := by kernel_rfl
theorem z115 : (Tryz.prog.info? 115).map (·.size) = some 1 := by kernel_rfl
theorem z117 : (Tryz.prog.info? 117).map (·.size) = some 8 := by kernel_rfl
theorem z140 : (Tryz.prog.info? 140).map (·.size) = some 1 := by kernel_rfl
theorem z142 : (Tryz.prog.info? 142).map (·.size) = some 2 := by kernel_rfl
theorem z155 : (Tryz.prog.info? 155).map (·.size) = some 5 := by kernel_rfl
theorem z159 : (Tryz.prog.info? 159).map (·.size) = some 1 := by kernel_rfl
theorem z166 : (Tryz.prog.info? 166).map (·.size) = some 1 := by kernel_rfl
theorem z168 : (Tryz.prog.info? 168).map (·.size) = some 3 := by kernel_rfl
theorem z178 : (Tryz.prog.info? 178).map (·.size) = some 5 := by kernel_rfl
theorem z182 : (Tryz.prog.info? 182).map (·.size) = some 5 := by kernel_rfl
theorem z183 : (Tryz.prog.info? 183).map (·.size) = some 2 := by kernel_rfl
theorem z200 : (Tryz.prog.info? 200).map (·.size) = some 8 := by kernel_rfl
theorem z222 : (Tryz.prog.info? 222).map (·.size) = some 2 := by kernel_rfl
theorem z23 : (Tryz.prog.info? 23).map (·.size) = some 1 := by kernel_rfl
theorem z24 : (Tryz.prog.info? 24).map (·.size) = some 1 := by kernel_rfl
theorem z241 : (Tryz.prog.info? 241).map (·.size) = some 3 := by kernel_rfl
theorem z246 : (Tryz.prog.info? 246).map (·.size) = some 1 := by kernel_rfl
theorem z26 : (Tryz.prog.info? 26).map (·.size) = some 4 := by kernel_rfl
theorem z282 : (Tryz.prog.info? 282).map (·.size) = some 8 := by kernel_rfl
theorem z3 : (Tryz.prog.info? 3).map (·.size) = some 1 := by kernel_rfl
theorem z327 : (Tryz.prog.info? 327).map (·.size) = some 5 := by kernel_rfl
theorem z33 : (Tryz.prog.info? 33).map (·.size) = some 4 := by kernel_rfl
theorem z331 : (Tryz.prog.info? 331).map (·.size) = some 1 := by kernel_rfl
theorem z4 : (Tryz.prog.info? 4).map (·.size) = some 1 := by kernel_rfl
theorem z42 : (Tryz.prog.info? 42).map (·.size) = some 1 := by kernel_rfl
theorem z44 : (Tryz.prog.info? 44).map (·.size) = some 1 := by kernel_rfl
theorem z46 : (Tryz.prog.info? 46).map (·.size) = some 1 := by kernel_rfl
theorem z5 : (Tryz.prog.info? 5).map (·.size) = some 1 := by kernel_rfl
theorem z54 : (Tryz.prog.info? 54).map (·.size) = some 10 := by kernel_rfl
theorem z58 : (Tryz.prog.info? 58).map (·.size) = some 10 := by kernel_rfl
theorem z65 : (Tryz.prog.info? 65).map (·.size) = some 2 := by kernel_rfl
theorem z67 : (Tryz.prog.info? 67).map (·.size) = some 1 := by kernel_rfl
theorem z69 : (Tryz.prog.info? 69).map (·.size) = some 2 := by kernel_rfl
theorem z88 : (Tryz.prog.info? 88).map (·.size) = some 6 := by kernel_rfl
theorem z91 : (Tryz.prog.info? 91).map (·.size) = some 6 := by kernel_rfl
end Go.Proofs.YtcagjdngannneaaGreat
