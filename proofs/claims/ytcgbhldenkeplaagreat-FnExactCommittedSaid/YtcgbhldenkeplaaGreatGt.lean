import Derived.Test.YtcgbhldenkeplaaGreatProg
import Derived.Test.YtcgbhldenkeplaaGreatG3
import Derived.KernelRfl

set_option linter.unusedVariables false
set_option linter.unusedSimpArgs false
namespace Go.Proofs.YtcgbhldenkeplaaGreat
open Go V
structure Page where
  Lsn : Int
  Slots : (List (List Int))
  deriving Inhabited, DecidableEq
structure Heap where
  Pages : (List Page)
  deriving Inhabited, DecidableEq
structure Item where
  Kind : Int
  N : Int
  F : Nat
  T : (List Int)
  deriving Inhabited, DecidableEq
structure Tuple where
  Xmin : Int
  Xmax : Int
  Key : Item
  Value : Item
  deriving Inhabited, DecidableEq
structure Row where
  Page : Int
  Slot : Int
  Tuple : Tuple
  deriving Inhabited, DecidableEq
structure Pair where
  Key : Item
  Value : Item
  deriving Inhabited, DecidableEq
def kd68 : Kd Page := Kd.iso (Kd.pair (Kd.int .i64) (Kd.sl 45 (Kd.sl 5 (Kd.int .u8)))) fun x => (x.Lsn, x.Slots)
theorem op68 {s : St} {cs : List Value} {x : Page} {C : List Nat} (h : RdF kd68 s cs x C) : ∃ (v0 : Value), cs = [.int .i64 x.Lsn, v0] ∧ RdF (Kd.sl 45 (Kd.sl 5 (Kd.int .u8))) s [v0] x.Slots C := by
  obtain ⟨_, _, rfl, rfl, ⟨v0, rfl, h0⟩⟩ := h
  exact ⟨v0, rfl, ⟨_, rfl, h0⟩⟩
def kd24 : Kd Heap := Kd.iso (Kd.sl 68 kd68) fun x => (x.Pages)
theorem op24 {s : St} {cs : List Value} {x : Heap} {C : List Nat} (h : RdF kd24 s cs x C) : ∃ (v0 : Value), cs = [v0] ∧ RdF (Kd.sl 68 kd68) s [v0] x.Pages C := by
  obtain ⟨v0, rfl, h0⟩ := h
  exact ⟨v0, rfl, ⟨_, rfl, h0⟩⟩
def kd70 : Kd Page := Kd.iso (Kd.pair (Kd.int .i64) (Kd.sl 45 (Kd.sl 5 (Kd.int .u8)))) fun x => (x.Lsn, x.Slots)
theorem op70 {s : St} {cs : List Value} {x : Page} {C : List Nat} (h : RdF kd70 s cs x C) : ∃ (v0 : Value), cs = [.int .i64 x.Lsn, v0] ∧ RdF (Kd.sl 45 (Kd.sl 5 (Kd.int .u8))) s [v0] x.Slots C := by
  obtain ⟨_, _, rfl, rfl, ⟨v0, rfl, h0⟩⟩ := h
  exact ⟨v0, rfl, ⟨_, rfl, h0⟩⟩
theorem po70 {w : World} {cs : List Value} {x : Page} {os : List Nat} (h : kd70.ow w cs x os) : ∃ (v0 : Value) (p0 : List Nat), cs = [.int .i64 x.Lsn, v0] ∧ os = p0 ∧ (Kd.sl 45 (Kd.sl 5 (Kd.int .u8))).ow w [v0] x.Slots p0 := by
  obtain ⟨_, _, _, p0, rfl, rfl, ⟨rfl, rfl⟩, ⟨v0, rfl, h0⟩⟩ := h
  exact ⟨_, p0, rfl, by simp, ⟨_, rfl, h0⟩⟩
theorem ap70 {s : St} {x : Page} {z0 v0 : Value} {c : Nat} (h : OwF kd70 s [z0, v0] x c) : OwF (Kd.sl 45 (Kd.sl 5 (Kd.int .u8))) s [v0] x.Slots c := by
  obtain ⟨os, ho, hn, hc⟩ := h
  obtain ⟨u0, p0, e, eo, h0⟩ := po70 ho
  have y0 : v0 = u0 := congrArg (fun l => (List.drop 1 l).headD undef) e
  subst y0
  subst eo
  exact sp1 h0 hn hc
def kd31 : Kd Heap := Kd.iso (Kd.sl 70 kd70) fun x => (x.Pages)
theorem po31 {w : World} {cs : List Value} {x : Heap} {os : List Nat} (h : kd31.ow w cs x os) : ∃ (v0 : Value) (p0 : List Nat), cs = [v0] ∧ os = p0 ∧ (Kd.sl 70 kd70).ow w [v0] x.Pages p0 := by
  obtain ⟨v0, rfl, h0⟩ := h
  exact ⟨_, _, rfl, rfl, ⟨_, rfl, h0⟩⟩
theorem ap31 {s : St} {x : Heap} {v0 : Value} {c : Nat} (h : OwF kd31 s [v0] x c) : OwF (Kd.sl 70 kd70) s [v0] x.Pages c := by
  obtain ⟨os, ho, hn, hc⟩ := h
  obtain ⟨u0, p0, e, eo, h0⟩ := po31 ho
  have y0 : v0 = u0 := congrArg (fun l => (List.drop 0 l).headD undef) e
  subst y0
  subst eo
  exact sp1 h0 hn hc
def kd47 : Kd Item := Kd.iso (Kd.pair (Kd.int .i64) (Kd.pair (Kd.int .i64) (Kd.pair Kd.flt (Kd.sl 5 (Kd.int .u8))))) fun x => (x.Kind, x.N, x.F, x.T)
theorem po47 {w : World} {cs : List Value} {x : Item} {os : List Nat} (h : kd47.ow w cs x os) : ∃ (v0 : Value) (v1 : Value) (p1 : List Nat), cs = [.int .i64 x.Kind, .int .i64 x.N, v0, v1] ∧ os = p1 ∧ FL v0 x.F ∧ (Kd.sl 5 (Kd.int .u8)).ow w [v1] x.T p1 := by
  obtain ⟨_, _, _, _, rfl, rfl, ⟨rfl, rfl⟩, ⟨_, _, _, _, rfl, rfl, ⟨rfl, rfl⟩, ⟨_, _, _, p1, rfl, rfl, ⟨⟨v0, rfl, h0⟩, rfl⟩, ⟨v1, rfl, h1⟩⟩⟩⟩ := h
  exact ⟨_, _, p1, rfl, by simp, h0, ⟨_, rfl, h1⟩⟩
theorem ap47 {s : St} {x : Item} {z0 z1 v0 v1 : Value} {c : Nat} (h : OwF kd47 s [z0, z1, v0, v1] x c) : FL v0 x.F ∧ OwF (Kd.sl 5 (Kd.int .u8)) s [v1] x.T c := by
  obtain ⟨os, ho, hn, hc⟩ := h
  obtain ⟨u0, u1, p1, e, eo, h0, h1⟩ := po47 ho
  have y0 : v0 = u0 := congrArg (fun l => (List.drop 2 l).headD undef) e
  have y1 : v1 = u1 := congrArg (fun l => (List.drop 3 l).headD undef) e
  subst y0
  subst y1
  subst eo
  exact ⟨h0, sp1 h1 hn hc⟩
def kd49 : Kd Tuple := Kd.iso (Kd.pair (Kd.int .i64) (Kd.pair (Kd.int .i64) (Kd.pair kd47 kd47))) fun x => (x.Xmin, x.Xmax, x.Key, x.Value)
theorem po49 {w : World} {cs : List Value} {x : Tuple} {os : List Nat} (h : kd49.ow w cs x os) : ∃ (v0 : Value) (v1 : Value) (v2 : Value) (v3 : Value) (p1 : List Nat) (p3 : List Nat), cs = [.int .i64 x.Xmin, .int .i64 x.Xmax, .int .i64 x.Key.Kind, .int .i64 x.Key.N, v0, v1, .int .i64 x.Value.Kind, .int .i64 x.Value.N, v2, v3] ∧ os = p1 ++ (p3) ∧ FL v0 x.Key.F ∧ (Kd.sl 5 (Kd.int .u8)).ow w [v1] x.Key.T p1 ∧ FL v2 x.Value.F ∧ (Kd.sl 5 (Kd.int .u8)).ow w [v3] x.Value.T p3 := by
  obtain ⟨_, _, _, _, rfl, rfl, ⟨rfl, rfl⟩, ⟨_, _, _, _, rfl, rfl, ⟨rfl, rfl⟩, ⟨_, _, _, _, rfl, rfl, ⟨_, _, _, _, rfl, rfl, ⟨rfl, rfl⟩, ⟨_, _, _, _, rfl, rfl, ⟨rfl, rfl⟩, ⟨_, _, _, p1, rfl, rfl, ⟨⟨v0, rfl, h0⟩, rfl⟩, ⟨v1, rfl, h1⟩⟩⟩⟩, ⟨_, _, _, _, rfl, rfl, ⟨rfl, rfl⟩, ⟨_, _, _, _, rfl, rfl, ⟨rfl, rfl⟩, ⟨_, _, _, p3, rfl, rfl, ⟨⟨v2, rfl, h2⟩, rfl⟩, ⟨v3, rfl, h3⟩⟩⟩⟩⟩⟩⟩ := h
  exact ⟨_, _, _, _, p1, p3, rfl, by simp, h0, ⟨_, rfl, h1⟩, h2, ⟨_, rfl, h3⟩⟩
theorem ap49 {s : St} {x : Tuple} {z0 z1 z2 z3 z6 z7 v0 v1 v2 v3 : Value} {c : Nat} (c1 : Nat) (h : OwF kd49 s [z0, z1, z2, z3, v0, v1, z6, z7, v2, v3] x c) (h40 : Nat.ble 40 c = true) : ∃ s', s.w = s'.w ∧ Stp [c] s s' ∧ FL v0 x.Key.F ∧ OwF (Kd.sl 5 (Kd.int .u8)) s' [v1] x.Key.T c ∧ FL v2 x.Value.F ∧ OwF (Kd.sl 5 (Kd.int .u8)) s' [v3] x.Value.T c1 := by
  obtain ⟨os, ho, hn, hc⟩ := h
  obtain ⟨u0, u1, u2, u3, p1, p3, e, eo, h0, h1, h2, h3⟩ := po49 ho
  have y0 : v0 = u0 := congrArg (fun l => (List.drop 4 l).headD undef) e
  have y1 : v1 = u1 := congrArg (fun l => (List.drop 5 l).headD undef) e
  have y2 : v2 = u2 := congrArg (fun l => (List.drop 8 l).headD undef) e
  have y3 : v3 = u3 := congrArg (fun l => (List.drop 9 l).headD undef) e
  subst y0
  subst y1
  subst y2
  subst y3
  subst eo
  obtain ⟨s0, w0, p_0, A1, hn0, hc0⟩ := sp2 c1 h1 hn hc h40
  exact ⟨s0, w0, p_0, h0, A1, h2, sp1 (w0 ▸ h3) hn0 hc0⟩
def kd51 : Kd Row := Kd.iso (Kd.pair (Kd.int .i64) (Kd.pair (Kd.int .i64) kd49)) fun x => (x.Page, x.Slot, x.Tuple)
theorem op51 {s : St} {cs : List Value} {x : Row} {C : List Nat} (h : RdF kd51 s cs x C) : ∃ (v0 : Value) (v1 : Value) (v2 : Value) (v3 : Value), cs = [.int .i64 x.Page, .int .i64 x.Slot, .int .i64 x.Tuple.Xmin, .int .i64 x.Tuple.Xmax, .int .i64 x.Tuple.Key.Kind, .int .i64 x.Tuple.Key.N, v0, v1, .int .i64 x.Tuple.Value.Kind, .int .i64 x.Tuple.Value.N, v2, v3] ∧ FL v0 x.Tuple.Key.F ∧ RdF (Kd.sl 5 (Kd.int .u8)) s [v1] x.Tuple.Key.T C ∧ FL v2 x.Tuple.Value.F ∧ RdF (Kd.sl 5 (Kd.int .u8)) s [v3] x.Tuple.Value.T C := by
  obtain ⟨_, _, rfl, rfl, ⟨_, _, rfl, rfl, ⟨_, _, rfl, rfl, ⟨_, _, rfl, rfl, ⟨_, _, rfl, ⟨_, _, rfl, rfl, ⟨_, _, rfl, rfl, ⟨_, _, rfl, ⟨v0, rfl, h0⟩, ⟨v1, rfl, h1⟩⟩⟩⟩, ⟨_, _, rfl, rfl, ⟨_, _, rfl, rfl, ⟨_, _, rfl, ⟨v2, rfl, h2⟩, ⟨v3, rfl, h3⟩⟩⟩⟩⟩⟩⟩⟩⟩ := h
  exact ⟨v0, v1, v2, v3, rfl, h0, ⟨_, rfl, h1⟩, h2, ⟨_, rfl, h3⟩⟩
theorem po51 {w : World} {cs : List Value} {x : Row} {os : List Nat} (h : kd51.ow w cs x os) : ∃ (v0 : Value) (v1 : Value) (v2 : Value) (v3 : Value) (p1 : List Nat) (p3 : List Nat), cs = [.int .i64 x.Page, .int .i64 x.Slot, .int .i64 x.Tuple.Xmin, .int .i64 x.Tuple.Xmax, .int .i64 x.Tuple.Key.Kind, .int .i64 x.Tuple.Key.N, v0, v1, .int .i64 x.Tuple.Value.Kind, .int .i64 x.Tuple.Value.N, v2, v3] ∧ os = p1 ++ (p3) ∧ FL v0 x.Tuple.Key.F ∧ (Kd.sl 5 (Kd.int .u8)).ow w [v1] x.Tuple.Key.T p1 ∧ FL v2 x.Tuple.Value.F ∧ (Kd.sl 5 (Kd.int .u8)).ow w [v3] x.Tuple.Value.T p3 := by
  obtain ⟨_, _, _, _, rfl, rfl, ⟨rfl, rfl⟩, ⟨_, _, _, _, rfl, rfl, ⟨rfl, rfl⟩, ⟨_, _, _, _, rfl, rfl, ⟨rfl, rfl⟩, ⟨_, _, _, _, rfl, rfl, ⟨rfl, rfl⟩, ⟨_, _, _, _, rfl, rfl, ⟨_, _, _, _, rfl, rfl, ⟨rfl, rfl⟩, ⟨_, _, _, _, rfl, rfl, ⟨rfl, rfl⟩, ⟨_, _, _, p1, rfl, rfl, ⟨⟨v0, rfl, h0⟩, rfl⟩, ⟨v1, rfl, h1⟩⟩⟩⟩, ⟨_, _, _, _, rfl, rfl, ⟨rfl, rfl⟩, ⟨_, _, _, _, rfl, rfl, ⟨rfl, rfl⟩, ⟨_, _, _, p3, rfl, rfl, ⟨⟨v2, rfl, h2⟩, rfl⟩, ⟨v3, rfl, h3⟩⟩⟩⟩⟩⟩⟩⟩⟩ := h
  exact ⟨_, _, _, _, p1, p3, rfl, by simp, h0, ⟨_, rfl, h1⟩, h2, ⟨_, rfl, h3⟩⟩
theorem ap51 {s : St} {x : Row} {z0 z1 z2 z3 z4 z5 z8 z9 v0 v1 v2 v3 : Value} {c : Nat} (c1 : Nat) (h : OwF kd51 s [z0, z1, z2, z3, z4, z5, v0, v1, z8, z9, v2, v3] x c) (h40 : Nat.ble 40 c = true) : ∃ s', s.w = s'.w ∧ Stp [c] s s' ∧ FL v0 x.Tuple.Key.F ∧ OwF (Kd.sl 5 (Kd.int .u8)) s' [v1] x.Tuple.Key.T c ∧ FL v2 x.Tuple.Value.F ∧ OwF (Kd.sl 5 (Kd.int .u8)) s' [v3] x.Tuple.Value.T c1 := by
  obtain ⟨os, ho, hn, hc⟩ := h
  obtain ⟨u0, u1, u2, u3, p1, p3, e, eo, h0, h1, h2, h3⟩ := po51 ho
  have y0 : v0 = u0 := congrArg (fun l => (List.drop 6 l).headD undef) e
  have y1 : v1 = u1 := congrArg (fun l => (List.drop 7 l).headD undef) e
  have y2 : v2 = u2 := congrArg (fun l => (List.drop 10 l).headD undef) e
  have y3 : v3 = u3 := congrArg (fun l => (List.drop 11 l).headD undef) e
  subst y0
  subst y1
  subst y2
  subst y3
  subst eo
  obtain ⟨s0, w0, p_0, A1, hn0, hc0⟩ := sp2 c1 h1 hn hc h40
  exact ⟨s0, w0, p_0, h0, A1, h2, sp1 (w0 ▸ h3) hn0 hc0⟩
theorem mk51 {s : St} {x : Row} {C : List Nat} {v0 : Value} {v1 : Value} {v2 : Value} {v3 : Value} (h0 : FL v0 x.Tuple.Key.F) (h1 : RdF (Kd.sl 5 (Kd.int .u8)) s [v1] x.Tuple.Key.T C) (h2 : FL v2 x.Tuple.Value.F) (h3 : RdF (Kd.sl 5 (Kd.int .u8)) s [v3] x.Tuple.Value.T C) : RdF kd51 s [.int .i64 x.Page, .int .i64 x.Slot, .int .i64 x.Tuple.Xmin, .int .i64 x.Tuple.Xmax, .int .i64 x.Tuple.Key.Kind, .int .i64 x.Tuple.Key.N, v0, v1, .int .i64 x.Tuple.Value.Kind, .int .i64 x.Tuple.Value.N, v2, v3] x C := ⟨[.int .i64 x.Page], [.int .i64 x.Slot, .int .i64 x.Tuple.Xmin, .int .i64 x.Tuple.Xmax, .int .i64 x.Tuple.Key.Kind, .int .i64 x.Tuple.Key.N, v0, v1, .int .i64 x.Tuple.Value.Kind, .int .i64 x.Tuple.Value.N, v2, v3], rfl, rfl, ⟨[.int .i64 x.Slot], [.int .i64 x.Tuple.Xmin, .int .i64 x.Tuple.Xmax, .int .i64 x.Tuple.Key.Kind, .int .i64 x.Tuple.Key.N, v0, v1, .int .i64 x.Tuple.Value.Kind, .int .i64 x.Tuple.Value.N, v2, v3], rfl, rfl, ⟨[.int .i64 x.Tuple.Xmin], [.int .i64 x.Tuple.Xmax, .int .i64 x.Tuple.Key.Kind, .int .i64 x.Tuple.Key.N, v0, v1, .int .i64 x.Tuple.Value.Kind, .int .i64 x.Tuple.Value.N, v2, v3], rfl, rfl, ⟨[.int .i64 x.Tuple.Xmax], [.int .i64 x.Tuple.Key.Kind, .int .i64 x.Tuple.Key.N, v0, v1, .int .i64 x.Tuple.Value.Kind, .int .i64 x.Tuple.Value.N, v2, v3], rfl, rfl, ⟨[.int .i64 x.Tuple.Key.Kind, .int .i64 x.Tuple.Key.N, v0, v1], [.int .i64 x.Tuple.Value.Kind, .int .i64 x.Tuple.Value.N, v2, v3], rfl, ⟨[.int .i64 x.Tuple.Key.Kind], [.int .i64 x.Tuple.Key.N, v0, v1], rfl, rfl, ⟨[.int .i64 x.Tuple.Key.N], [v0, v1], rfl, rfl, ⟨[v0], [v1], rfl, (fl_rd h0), h1⟩⟩⟩, ⟨[.int .i64 x.Tuple.Value.Kind], [.int .i64 x.Tuple.Value.N, v2, v3], rfl, rfl, ⟨[.int .i64 x.Tuple.Value.N], [v2, v3], rfl, rfl, ⟨[v2], [v3], rfl, (fl_rd h2), h3⟩⟩⟩⟩⟩⟩⟩⟩
def kd54 : Kd Pair := Kd.iso (Kd.pair kd47 kd47) fun x => (x.Key, x.Value)
theorem op54 {s : St} {cs : List Value} {x : Pair} {C : List Nat} (h : RdF kd54 s cs x C) : ∃ (v0 : Value) (v1 : Value) (v2 : Value) (v3 : Value), cs = [.int .i64 x.Key.Kind, .int .i64 x.Key.N, v0, v1, .int .i64 x.Value.Kind, .int .i64 x.Value.N, v2, v3] ∧ FL v0 x.Key.F ∧ RdF (Kd.sl 5 (Kd.int .u8)) s [v1] x.Key.T C ∧ FL v2 x.Value.F ∧ RdF (Kd.sl 5 (Kd.int .u8)) s [v3] x.Value.T C := by
  obtain ⟨_, _, rfl, ⟨_, _, rfl, rfl, ⟨_, _, rfl, rfl, ⟨_, _, rfl, ⟨v0, rfl, h0⟩, ⟨v1, rfl, h1⟩⟩⟩⟩, ⟨_, _, rfl, rfl, ⟨_, _, rfl, rfl, ⟨_, _, rfl, ⟨v2, rfl, h2⟩, ⟨v3, rfl, h3⟩⟩⟩⟩⟩ := h
  exact ⟨v0, v1, v2, v3, rfl, h0, ⟨_, rfl, h1⟩, h2, ⟨_, rfl, h3⟩⟩
theorem mk54 {s : St} {x : Pair} {C : List Nat} {v0 : Value} {v1 : Value} {v2 : Value} {v3 : Value} (h0 : FL v0 x.Key.F) (h1 : RdF (Kd.sl 5 (Kd.int .u8)) s [v1] x.Key.T C) (h2 : FL v2 x.Value.F) (h3 : RdF (Kd.sl 5 (Kd.int .u8)) s [v3] x.Value.T C) : RdF kd54 s [.int .i64 x.Key.Kind, .int .i64 x.Key.N, v0, v1, .int .i64 x.Value.Kind, .int .i64 x.Value.N, v2, v3] x C := ⟨[.int .i64 x.Key.Kind, .int .i64 x.Key.N, v0, v1], [.int .i64 x.Value.Kind, .int .i64 x.Value.N, v2, v3], rfl, ⟨[.int .i64 x.Key.Kind], [.int .i64 x.Key.N, v0, v1], rfl, rfl, ⟨[.int .i64 x.Key.N], [v0, v1], rfl, rfl, ⟨[v0], [v1], rfl, (fl_rd h0), h1⟩⟩⟩, ⟨[.int .i64 x.Value.Kind], [.int .i64 x.Value.N, v2, v3], rfl, rfl, ⟨[.int .i64 x.Value.N], [v2, v3], rfl, rfl, ⟨[v2], [v3], rfl, (fl_rd h2), h3⟩⟩⟩⟩
def ok_Page (x : Page) : Prop := InK .i64 x.Lsn ∧ (x.Slots.length ≤ maxLen ∧ ∀ y ∈ x.Slots, (y.length ≤ maxLen ∧ ∀ y1 ∈ y, InK .u8 y1))
theorem tr68 : Opn Tryz.prog 68 kd68 ok_Page := tr_iso (fun x : Page => (x.Lsn, x.Slots)) (fun x => ⟨x.1, x.2⟩) (fun _ => rfl) (tr_st Tryz.underlying68 (by kernel_rfl) (tf_cons rfl (by kernel_rfl) (tr_int Tryz.underlying3) (tf_last rfl (by kernel_rfl) (tr_sl (e' := 45) Tryz.underlying66 (by kernel_rfl) (tr_sl (e' := 5) Tryz.underlying45 (by kernel_rfl) (tr_int Tryz.underlying5))))))
def ok_Heap (x : Heap) : Prop := (x.Pages.length ≤ maxLen ∧ ∀ y ∈ x.Pages, ok_Page y)
theorem tr24 : Opn Tryz.prog 24 kd24 ok_Heap := tr_iso (fun x : Heap => (x.Pages)) (fun x => ⟨x⟩) (fun _ => rfl) (tr_st Tryz.underlying24 (by kernel_rfl) (tf_last rfl (by kernel_rfl) (tr_sl (e' := 68) Tryz.underlying22 (by kernel_rfl) tr68)))
def ok_Item (x : Item) : Prop := InK .i64 x.Kind ∧ InK .i64 x.N ∧ okF x.F ∧ (x.T.length ≤ maxLen ∧ ∀ y ∈ x.T, InK .u8 y)
def ok_Tuple (x : Tuple) : Prop := InK .i64 x.Xmin ∧ InK .i64 x.Xmax ∧ ok_Item x.Key ∧ ok_Item x.Value
theorem xn101 : Extern.findNext Tryz.f101 = none := by kernel_rfl
theorem xf101 : Extern.find Tryz.f101 = some Extern.MathFloatBits.float64bits := by kernel_rfl
theorem xn121 : Extern.findNext Tryz.f121 = none := by kernel_rfl
theorem xf121 : Extern.find Tryz.f121 = some Extern.MathFloatBits.float64frombits := by kernel_rfl
theorem xn74 : Extern.findNext Tryz.f74 = none := by kernel_rfl
theorem xf74 : Extern.find Tryz.f74 = some Extern.BytealgCompare.compare := by kernel_rfl
theorem fa24_0 : ∀ (a : Addr) (w : World), (Instr.fieldAt 24 (.pointer (some a)) 0).run Tryz.prog w = .ok (.pointer (some (a.add 0))) w := fun _ _ => by kernel_rfl
theorem fa31_0 : ∀ (a : Addr) (w : World), (Instr.fieldAt 31 (.pointer (some a)) 0).run Tryz.prog w = .ok (.pointer (some (a.add 0))) w := fun _ _ => by kernel_rfl
theorem fa47_0 : ∀ (a : Addr) (w : World), (Instr.fieldAt 47 (.pointer (some a)) 0).run Tryz.prog w = .ok (.pointer (some (a.add 0))) w := fun _ _ => by kernel_rfl
theorem fa47_1 : ∀ (a : Addr) (w : World), (Instr.fieldAt 47 (.pointer (some a)) 1).run Tryz.prog w = .ok (.pointer (some (a.add 1))) w := fun _ _ => by kernel_rfl
theorem fa47_2 : ∀ (a : Addr) (w : World), (Instr.fieldAt 47 (.pointer (some a)) 2).run Tryz.prog w = .ok (.pointer (some (a.add 2))) w := fun _ _ => by kernel_rfl
theorem fa47_3 : ∀ (a : Addr) (w : World), (Instr.fieldAt 47 (.pointer (some a)) 3).run Tryz.prog w = .ok (.pointer (some (a.add 3))) w := fun _ _ => by kernel_rfl
theorem fa49_0 : ∀ (a : Addr) (w : World), (Instr.fieldAt 49 (.pointer (some a)) 0).run Tryz.prog w = .ok (.pointer (some (a.add 0))) w := fun _ _ => by kernel_rfl
theorem fa49_1 : ∀ (a : Addr) (w : World), (Instr.fieldAt 49 (.pointer (some a)) 1).run Tryz.prog w = .ok (.pointer (some (a.add 1))) w := fun _ _ => by kernel_rfl
theorem fa49_2 : ∀ (a : Addr) (w : World), (Instr.fieldAt 49 (.pointer (some a)) 2).run Tryz.prog w = .ok (.pointer (some (a.add 2))) w := fun _ _ => by kernel_rfl
theorem fa49_3 : ∀ (a : Addr) (w : World), (Instr.fieldAt 49 (.pointer (some a)) 3).run Tryz.prog w = .ok (.pointer (some (a.add 6))) w := fun _ _ => by kernel_rfl
theorem fa51_2 : ∀ (a : Addr) (w : World), (Instr.fieldAt 51 (.pointer (some a)) 2).run Tryz.prog w = .ok (.pointer (some (a.add 2))) w := fun _ _ => by kernel_rfl
theorem fa54_0 : ∀ (a : Addr) (w : World), (Instr.fieldAt 54 (.pointer (some a)) 0).run Tryz.prog w = .ok (.pointer (some (a.add 0))) w := fun _ _ => by kernel_rfl
theorem fa54_1 : ∀ (a : Addr) (w : World), (Instr.fieldAt 54 (.pointer (some a)) 1).run Tryz.prog w = .ok (.pointer (some (a.add 4))) w := fun _ _ => by kernel_rfl
theorem fa68_0 : ∀ (a : Addr) (w : World), (Instr.fieldAt 68 (.pointer (some a)) 0).run Tryz.prog w = .ok (.pointer (some (a.add 0))) w := fun _ _ => by kernel_rfl
theorem fa68_1 : ∀ (a : Addr) (w : World), (Instr.fieldAt 68 (.pointer (some a)) 1).run Tryz.prog w = .ok (.pointer (some (a.add 1))) w := fun _ _ => by kernel_rfl
theorem fa70_0 : ∀ (a : Addr) (w : World), (Instr.fieldAt 70 (.pointer (some a)) 0).run Tryz.prog w = .ok (.pointer (some (a.add 0))) w := fun _ _ => by kernel_rfl
theorem fa70_1 : ∀ (a : Addr) (w : World), (Instr.fieldAt 70 (.pointer (some a)) 1).run Tryz.prog w = .ok (.pointer (some (a.add 1))) w := fun _ _ => by kernel_rfl
theorem o3 : (Tryz.prog.info? 3).bind (·.zero) = some (.int .i64 0) := by kernel_rfl
theorem o31 : (Tryz.prog.info? 31).bind (·.zero) = some (.agg #[.slice none 0 0]) := by kernel_rfl
theorem o45 : (Tryz.prog.info? 45).bind (·.zero) = some (.slice none 0 0) := by kernel_rfl
theorem o47 : (Tryz.prog.info? 47).bind (·.zero) = some (.agg #[.int .i64 0, .int .i64 0, .float .f64 0, .slice none 0 0]) := by kernel_rfl
theorem o49 : (Tryz.prog.info? 49).bind (·.zero) = some (.agg #[.int .i64 0, .int .i64 0, .int .i64 0, .int .i64 0, .float .f64 0, .slice none 0 0, .int .i64 0, .int .i64 0, .float .f64 0, .slice none 0 0]) := by kernel_rfl
theorem o5 : (Tryz.prog.info? 5).bind (·.zero) = some (.int .u8 0) := by kernel_rfl
theorem o51 : (Tryz.prog.info? 51).bind (·.zero) = some (.agg #[.int .i64 0, .int .i64 0, .int .i64 0, .int .i64 0, .int .i64 0, .int .i64 0, .float .f64 0, .slice none 0 0, .int .i64 0, .int .i64 0, .float .f64 0, .slice none 0 0]) := by kernel_rfl
theorem o54 : (Tryz.prog.info? 54).bind (·.zero) = some (.agg #[.int .i64 0, .int .i64 0, .float .f64 0, .slice none 0 0, .int .i64 0, .int .i64 0, .float .f64 0, .slice none 0 0]) := by kernel_rfl
theorem o70 : (Tryz.prog.info? 70).bind (·.zero) = some (.agg #[.int .i64 0, .slice none 0 0]) := by kernel_rfl
theorem pl47 : PlF Tryz.prog 47 #[(0, 1), (1, 1), (2, 1), (3, 1)] := ⟨_, Tryz.underlying47, fun _ => by kernel_rfl⟩
theorem pl49 : PlF Tryz.prog 49 #[(0, 1), (1, 1), (2, 4), (6, 4)] := ⟨_, Tryz.underlying49, fun _ => by kernel_rfl⟩
theorem pl51 : PlF Tryz.prog 51 #[(0, 1), (1, 1), (2, 10)] := ⟨_, Tryz.underlying51, fun _ => by kernel_rfl⟩
theorem pl54 : PlF Tryz.prog 54 #[(0, 4), (4, 4)] := ⟨_, Tryz.underlying54, fun _ => by kernel_rfl⟩
theorem sl25 : SlT Tryz.prog 25 3 1 := SlT.mk (by_ := 8) (z := (.int .i64 0)) Tryz.underlying25 (by kernel_rfl) rfl rfl rfl
theorem sl27 : SlT Tryz.prog 27 54 8 := SlT.mk (by_ := 96) (z := (.agg #[.int .i64 0, .int .i64 0, .float .f64 0, .slice none 0 0, .int .i64 0, .int .i64 0, .float .f64 0, .slice none 0 0])) Tryz.underlying27 (by kernel_rfl) rfl rfl rfl
theorem sl29 : SlT Tryz.prog 29 70 2 := SlT.mk (by_ := 32) (z := (.agg #[.int .i64 0, .slice none 0 0])) Tryz.underlying29 (by kernel_rfl) rfl rfl rfl
theorem sl42 : SlT Tryz.prog 42 51 12 := SlT.mk (by_ := 128) (z := (.agg #[.int .i64 0, .int .i64 0, .int .i64 0, .int .i64 0, .int .i64 0, .int .i64 0, .float .f64 0, .slice none 0 0, .int .i64 0, .int .i64 0, .float .f64 0, .slice none 0 0])) Tryz.underlying42 (by kernel_rfl) rfl rfl rfl
theorem sl45 : SlT Tryz.prog 45 5 1 := SlT.mk (by_ := 1) (z := (.int .u8 0)) Tryz.underlying45 (by kernel_rfl) rfl rfl rfl
theorem sl66 : SlT Tryz.prog 66 45 1 := SlT.mk (by_ := 24) (z := (.slice none 0 0)) Tryz.underlying66 (by kernel_rfl) rfl rfl rfl
theorem z24 : (Tryz.prog.info? 24).map (·.size) = some 1 := by kernel_rfl
theorem z29 : (Tryz.prog.info? 29).map (·.size) = some 1 := by kernel_rfl
theorem z3 : (Tryz.prog.info? 3).map (·.size) = some 1 := by kernel_rfl
theorem z31 : (Tryz.prog.info? 31).map (·.size) = some 1 := by kernel_rfl
theorem z44 : (Tryz.prog.info? 44).map (·.size) = some 1 := by kernel_rfl
theorem z45 : (Tryz.prog.info? 45).map (·.size) = some 1 := by kernel_rfl
theorem z47 : (Tryz.prog.info? 47).map (·.size) = some 4 := by kernel_rfl
theorem z49 : (Tryz.prog.info? 49).map (·.size) = some 10 := by kernel_rfl
theorem z5 : (Tryz.prog.info? 5).map (·.size) = some 1 := by kernel_rfl
theorem z51 : (Tryz.prog.info? 51).map (·.size) = some 12 := by kernel_rfl
theorem z54 : (Tryz.prog.info? 54).map (·.size) = some 8 := by kernel_rfl
theorem z66 : (Tryz.prog.info? 66).map (·.size) = some 1 := by kernel_rfl
theorem z68 : (Tryz.prog.info? 68).map (·.size) = some 2 := by kernel_rfl
theorem z70 : (Tryz.prog.info? 70).map (·.size) = some 2 := by kernel_rfl
abbrev Ye := Kd.sl 5 (Kd.int .u8)
abbrev Yg := Kd.sl 70 kd70
abbrev Yh := Kd.sl 51 kd51
abbrev Yi := Kd.sl 54 kd54
abbrev Yj := Kd.sl 3 (Kd.int .i64)
abbrev u3 := Tryz.underlying3
abbrev u4 := Tryz.underlying4
abbrev u5 := Tryz.underlying5
abbrev u9 := Tryz.underlying9
abbrev u22 := Tryz.underlying22
abbrev u24 := Tryz.underlying24
abbrev u25 := Tryz.underlying25
abbrev u27 := Tryz.underlying27
abbrev u29 := Tryz.underlying29
abbrev u31 := Tryz.underlying31
abbrev u42 := Tryz.underlying42
abbrev u44 := Tryz.underlying44
abbrev u45 := Tryz.underlying45
abbrev u47 := Tryz.underlying47
abbrev u49 := Tryz.underlying49
abbrev u51 := Tryz.underlying51
abbrev u54 := Tryz.underlying54
abbrev u57 := Tryz.underlying57
abbrev u66 := Tryz.underlying66
abbrev u68 := Tryz.underlying68
abbrev u70 := Tryz.underlying70
abbrev u97 := Tryz.underlying97
abbrev u98 := Tryz.underlying98
abbrev u103 := Tryz.underlying103
abbrev u115 := Tryz.underlying115
end Go.Proofs.YtcgbhldenkeplaaGreat
