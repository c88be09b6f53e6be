
import Derived.Test.YtcagjdngannneaaGreatProg
import Derived.Test.YtcagjdngannneaaGreatVB
import Derived.KernelRfl
set_option linter.unusedVariables false
set_option linter.unusedSimpArgs false
namespace Go.Proofs.YtcagjdngannneaaGreat
open Go V
structure Item where
  Kind : Int
  N : Int
  F : Nat
  T : (List Int)
  deriving Inhabited, DecidableEq
structure Page where
  Lsn : Int
  Slots : (List (List Int))
  deriving Inhabited, DecidableEq
structure Heap where
  Pages : (List Page)
  deriving Inhabited, DecidableEq
structure Tuple where
  Xmin : Int
  Xmax : Int
  Key : Item
  Value : Item
  deriving Inhabited, DecidableEq
structure Entry where
  Key : Item
  Id : Int
  deriving Inhabited, DecidableEq
structure Node where
  Leaf : Bool
  Entries : (List Entry)
  Kids : (List Int)
  deriving Inhabited, DecidableEq
structure Tree where
  Nodes : (List Node)
  Root : Int
  deriving Inhabited, DecidableEq
structure Record where
  Kind : Int
  Lsn : Int
  Xid : Int
  Page : Int
  Slot : Int
  Data : (List Int)
  deriving Inhabited, DecidableEq
structure Span where
  From : Item
  To : Item
  deriving Inhabited, DecidableEq
structure Track where
  Xid : Int
  Begun : Int
  Ended : Int
  All : Bool
  Reads : (List Span)
  Writes : (List Item)
  In : Bool
  Out : Bool
  deriving Inhabited, DecidableEq
structure Deed where
  Xid : Int
  Begun : Int
  Ended : Int
  Reads : (List Span)
  Writes : (List Item)
  deriving Inhabited, DecidableEq
structure A2Int where
  e0 : Int
  e1 : Int
  deriving Inhabited, DecidableEq
structure l11walk where
  seen : (List Bool)
  deep : Int
  wrong : Bool
  all : (List Entry)
  deriving Inhabited, DecidableEq
def kd26 : Kd Item := Kd.iso (Kd.pair (Kd.int .i64) (Kd.pair (Kd.int .i64) (Kd.pair Kd.flt (Kd.sl 5 (Kd.int .u8))))) fun x => (x.Kind, x.N, x.F, x.T)
theorem op26 {s : St} {cs : List Value} {x : Item} {C : List Nat} (h : RdF kd26 s cs x C) : ∃ (v0 : Value) (v1 : Value), cs = [.int .i64 x.Kind, .int .i64 x.N, v0, v1] ∧ FL v0 x.F ∧ RdF (Kd.sl 5 (Kd.int .u8)) s [v1] x.T C := by
  obtain ⟨_, _, rfl, rfl, ⟨_, _, rfl, rfl, ⟨_, _, rfl, ⟨v0, rfl, h0⟩, ⟨v1, rfl, h1⟩⟩⟩⟩ := h
  exact ⟨v0, v1, rfl, h0, ⟨_, rfl, h1⟩⟩
def kd33 : Kd Item := Kd.iso (Kd.pair (Kd.int .i64) (Kd.pair (Kd.int .i64) (Kd.pair Kd.flt (Kd.sl 5 (Kd.int .u8))))) fun x => (x.Kind, x.N, x.F, x.T)
theorem op33 {s : St} {cs : List Value} {x : Item} {C : List Nat} (h : RdF kd33 s cs x C) : ∃ (v0 : Value) (v1 : Value), cs = [.int .i64 x.Kind, .int .i64 x.N, v0, v1] ∧ FL v0 x.F ∧ RdF (Kd.sl 5 (Kd.int .u8)) s [v1] x.T C := by
  obtain ⟨_, _, rfl, rfl, ⟨_, _, rfl, rfl, ⟨_, _, rfl, ⟨v0, rfl, h0⟩, ⟨v1, rfl, h1⟩⟩⟩⟩ := h
  exact ⟨v0, v1, rfl, h0, ⟨_, rfl, h1⟩⟩
theorem po33 {w : World} {cs : List Value} {x : Item} {os : List Nat} (h : kd33.ow w cs x os) : ∃ (v0 : Value) (v1 : Value) (p1 : List Nat), cs = [.int .i64 x.Kind, .int .i64 x.N, v0, v1] ∧ os = p1 ∧ FL v0 x.F ∧ (Kd.sl 5 (Kd.int .u8)).ow w [v1] x.T p1 := by
  obtain ⟨_, _, _, _, rfl, rfl, ⟨rfl, rfl⟩, ⟨_, _, _, _, rfl, rfl, ⟨rfl, rfl⟩, ⟨_, _, _, p1, rfl, rfl, ⟨⟨v0, rfl, h0⟩, rfl⟩, ⟨v1, rfl, h1⟩⟩⟩⟩ := h
  exact ⟨_, _, p1, rfl, by simp, h0, ⟨_, rfl, h1⟩⟩
def kd282 : Kd Span := Kd.iso (Kd.pair kd26 kd26) fun x => (x.From, x.To)
theorem op282 {s : St} {cs : List Value} {x : Span} {C : List Nat} (h : RdF kd282 s cs x C) : ∃ (v0 : Value) (v1 : Value) (v2 : Value) (v3 : Value), cs = [.int .i64 x.From.Kind, .int .i64 x.From.N, v0, v1, .int .i64 x.To.Kind, .int .i64 x.To.N, v2, v3] ∧ FL v0 x.From.F ∧ RdF (Kd.sl 5 (Kd.int .u8)) s [v1] x.From.T C ∧ FL v2 x.To.F ∧ RdF (Kd.sl 5 (Kd.int .u8)) s [v3] x.To.T C := by
  obtain ⟨_, _, rfl, ⟨_, _, rfl, rfl, ⟨_, _, rfl, rfl, ⟨_, _, rfl, ⟨v0, rfl, h0⟩, ⟨v1, rfl, h1⟩⟩⟩⟩, ⟨_, _, rfl, rfl, ⟨_, _, rfl, rfl, ⟨_, _, rfl, ⟨v2, rfl, h2⟩, ⟨v3, rfl, h3⟩⟩⟩⟩⟩ := h
  exact ⟨v0, v1, v2, v3, rfl, h0, ⟨_, rfl, h1⟩, h2, ⟨_, rfl, h3⟩⟩
def kd109 : Kd Track := Kd.iso (Kd.pair (Kd.int .i64) (Kd.pair (Kd.int .i64) (Kd.pair (Kd.int .i64) (Kd.pair Kd.bool (Kd.pair (Kd.sl 282 kd282) (Kd.pair (Kd.sl 26 kd26) (Kd.pair Kd.bool Kd.bool))))))) fun x => (x.Xid, x.Begun, x.Ended, x.All, x.Reads, x.Writes, x.In, x.Out)
theorem op109 {s : St} {cs : List Value} {x : Track} {C : List Nat} (h : RdF kd109 s cs x C) : ∃ (v0 : Value) (v1 : Value), cs = [.int .i64 x.Xid, .int .i64 x.Begun, .int .i64 x.Ended, .bool x.All, v0, v1, .bool x.In, .bool x.Out] ∧ RdF (Kd.sl 282 kd282) s [v0] x.Reads C ∧ RdF (Kd.sl 26 kd26) s [v1] x.Writes C := by
  obtain ⟨_, _, rfl, rfl, ⟨_, _, rfl, rfl, ⟨_, _, rfl, rfl, ⟨_, _, rfl, rfl, ⟨_, _, rfl, ⟨v0, rfl, h0⟩, ⟨_, _, rfl, ⟨v1, rfl, h1⟩, ⟨_, _, rfl, rfl, rfl⟩⟩⟩⟩⟩⟩⟩ := h
  exact ⟨v0, v1, rfl, ⟨_, rfl, h0⟩, ⟨_, rfl, h1⟩⟩
def kd200 : Kd Span := Kd.iso (Kd.pair kd33 kd33) fun x => (x.From, x.To)
theorem op200 {s : St} {cs : List Value} {x : Span} {C : List Nat} (h : RdF kd200 s cs x C) : ∃ (v0 : Value) (v1 : Value) (v2 : Value) (v3 : Value), cs = [.int .i64 x.From.Kind, .int .i64 x.From.N, v0, v1, .int .i64 x.To.Kind, .int .i64 x.To.N, v2, v3] ∧ FL v0 x.From.F ∧ RdF (Kd.sl 5 (Kd.int .u8)) s [v1] x.From.T C ∧ FL v2 x.To.F ∧ RdF (Kd.sl 5 (Kd.int .u8)) s [v3] x.To.T C := by
  obtain ⟨_, _, rfl, ⟨_, _, rfl, rfl, ⟨_, _, rfl, rfl, ⟨_, _, rfl, ⟨v0, rfl, h0⟩, ⟨v1, rfl, h1⟩⟩⟩⟩, ⟨_, _, rfl, rfl, ⟨_, _, rfl, rfl, ⟨_, _, rfl, ⟨v2, rfl, h2⟩, ⟨v3, rfl, h3⟩⟩⟩⟩⟩ := h
  exact ⟨v0, v1, v2, v3, rfl, h0, ⟨_, rfl, h1⟩, h2, ⟨_, rfl, h3⟩⟩
theorem po200 {w : World} {cs : List Value} {x : Span} {os : List Nat} (h : kd200.ow w cs x os) : ∃ (v0 : Value) (v1 : Value) (v2 : Value) (v3 : Value) (p1 : List Nat) (p3 : List Nat), cs = [.int .i64 x.From.Kind, .int .i64 x.From.N, v0, v1, .int .i64 x.To.Kind, .int .i64 x.To.N, v2, v3] ∧ os = p1 ++ (p3) ∧ FL v0 x.From.F ∧ (Kd.sl 5 (Kd.int .u8)).ow w [v1] x.From.T p1 ∧ FL v2 x.To.F ∧ (Kd.sl 5 (Kd.int .u8)).ow w [v3] x.To.T p3 := by
  obtain ⟨_, _, _, _, rfl, rfl, ⟨_, _, _, _, rfl, rfl, ⟨rfl, rfl⟩, ⟨_, _, _, _, rfl, rfl, ⟨rfl, rfl⟩, ⟨_, _, _, p1, rfl, rfl, ⟨⟨v0, rfl, h0⟩, rfl⟩, ⟨v1, rfl, h1⟩⟩⟩⟩, ⟨_, _, _, _, rfl, rfl, ⟨rfl, rfl⟩, ⟨_, _, _, _, rfl, rfl, ⟨rfl, rfl⟩, ⟨_, _, _, p3, rfl, rfl, ⟨⟨v2, rfl, h2⟩, rfl⟩, ⟨v3, rfl, h3⟩⟩⟩⟩⟩ := h
  exact ⟨_, _, _, _, p1, p3, rfl, by simp, h0, ⟨_, rfl, h1⟩, h2, ⟨_, rfl, h3⟩⟩
def kd117 : Kd Track := Kd.iso (Kd.pair (Kd.int .i64) (Kd.pair (Kd.int .i64) (Kd.pair (Kd.int .i64) (Kd.pair Kd.bool (Kd.pair (Kd.sl 200 kd200) (Kd.pair (Kd.sl 33 kd33) (Kd.pair Kd.bool Kd.bool))))))) fun x => (x.Xid, x.Begun, x.Ended, x.All, x.Reads, x.Writes, x.In, x.Out)
theorem op117 {s : St} {cs : List Value} {x : Track} {C : List Nat} (h : RdF kd117 s cs x C) : ∃ (v0 : Value) (v1 : Value), cs = [.int .i64 x.Xid, .int .i64 x.Begun, .int .i64 x.Ended, .bool x.All, v0, v1, .bool x.In, .bool x.Out] ∧ RdF (Kd.sl 200 kd200) s [v0] x.Reads C ∧ RdF (Kd.sl 33 kd33) s [v1] x.Writes C := by
  obtain ⟨_, _, rfl, rfl, ⟨_, _, rfl, rfl, ⟨_, _, rfl, rfl, ⟨_, _, rfl, rfl, ⟨_, _, rfl, ⟨v0, rfl, h0⟩, ⟨_, _, rfl, ⟨v1, rfl, h1⟩, ⟨_, _, rfl, rfl, rfl⟩⟩⟩⟩⟩⟩⟩ := h
  exact ⟨v0, v1, rfl, ⟨_, rfl, h0⟩, ⟨_, rfl, h1⟩⟩
theorem po117 {w : World} {cs : List Value} {x : Track} {os : List Nat} (h : kd117.ow w cs x os) : ∃ (v0 : Value) (v1 : Value) (p0 : List Nat) (p1 : List Nat), cs = [.int .i64 x.Xid, .int .i64 x.Begun, .int .i64 x.Ended, .bool x.All, v0, v1, .bool x.In, .bool x.Out] ∧ os = p0 ++ (p1) ∧ (Kd.sl 200 kd200).ow w [v0] x.Reads p0 ∧ (Kd.sl 33 kd33).ow w [v1] x.Writes p1 := by
  obtain ⟨_, _, _, _, rfl, rfl, ⟨rfl, rfl⟩, ⟨_, _, _, _, rfl, rfl, ⟨rfl, rfl⟩, ⟨_, _, _, _, rfl, rfl, ⟨rfl, rfl⟩, ⟨_, _, _, _, rfl, rfl, ⟨rfl, rfl⟩, ⟨_, _, p0, _, rfl, rfl, ⟨v0, rfl, h0⟩, ⟨_, _, p1, _, rfl, rfl, ⟨v1, rfl, h1⟩, ⟨_, _, _, _, rfl, rfl, ⟨rfl, rfl⟩, ⟨rfl, rfl⟩⟩⟩⟩⟩⟩⟩⟩ := h
  exact ⟨_, _, p0, p1, rfl, by simp, ⟨_, rfl, h0⟩, ⟨_, rfl, h1⟩⟩
theorem mk117 {s : St} {x : Track} {C : List Nat} {v0 : Value} {v1 : Value} (h0 : RdF (Kd.sl 200 kd200) s [v0] x.Reads C) (h1 : RdF (Kd.sl 33 kd33) s [v1] x.Writes C) : RdF kd117 s [.int .i64 x.Xid, .int .i64 x.Begun, .int .i64 x.Ended, .bool x.All, v0, v1, .bool x.In, .bool x.Out] x C := ⟨[.int .i64 x.Xid], [.int .i64 x.Begun, .int .i64 x.Ended, .bool x.All, v0, v1, .bool x.In, .bool x.Out], rfl, rfl, ⟨[.int .i64 x.Begun], [.int .i64 x.Ended, .bool x.All, v0, v1, .bool x.In, .bool x.Out], rfl, rfl, ⟨[.int .i64 x.Ended], [.bool x.All, v0, v1, .bool x.In, .bool x.Out], rfl, rfl, ⟨[.bool x.All], [v0, v1, .bool x.In, .bool x.Out], rfl, rfl, ⟨[v0], [v1, .bool x.In, .bool x.Out], rfl, h0, ⟨[v1], [.bool x.In, .bool x.Out], rfl, h1, ⟨[.bool x.In], [.bool x.Out], rfl, rfl, rfl⟩⟩⟩⟩⟩⟩⟩
def ok_Item (x : Item) : Prop := InK .i64 x.Kind ∧ InK .i64 x.N ∧ okF x.F ∧ (x.T.length ≤ maxLen ∧ ∀ y ∈ x.T, InK .u8 y)
theorem tr26 : Opn Tryz.prog 26 kd26 ok_Item := tr_iso (fun x : Item => (x.Kind, x.N, x.F, x.T)) (fun x => ⟨x.1, x.2.1, x.2.2.1, x.2.2.2⟩) (fun _ => rfl) (tr_st Tryz.underlying26 (by kernel_rfl) (tf_cons rfl (by kernel_rfl) (tr_int Tryz.underlying3) (tf_cons rfl (by kernel_rfl) (tr_int Tryz.underlying3) (tf_cons rfl (by kernel_rfl) (tr_flt Tryz.underlying23) (tf_last rfl (by kernel_rfl) (tr_sl (e' := 5) Tryz.underlying24 (by kernel_rfl) (tr_int Tryz.underlying5)))))))
def ok_Span (x : Span) : Prop := ok_Item x.From ∧ ok_Item x.To
theorem tr282 : Opn Tryz.prog 282 kd282 ok_Span := tr_iso (fun x : Span => (x.From, x.To)) (fun x => ⟨x.1, x.2⟩) (fun _ => rfl) (tr_st Tryz.underlying282 (by kernel_rfl) (tf_cons rfl (by kernel_rfl) tr26 (tf_last rfl (by kernel_rfl) tr26)))
def ok_Track (x : Track) : Prop := InK .i64 x.Xid ∧ InK .i64 x.Begun ∧ InK .i64 x.Ended ∧ True ∧ (x.Reads.length ≤ maxLen ∧ ∀ y ∈ x.Reads, ok_Span y) ∧ (x.Writes.length ≤ maxLen ∧ ∀ y ∈ x.Writes, ok_Item y) ∧ True ∧ True
theorem tr109 : Opn Tryz.prog 109 kd109 ok_Track := tr_iso (fun x : Track => (x.Xid, x.Begun, x.Ended, x.All, x.Reads, x.Writes, x.In, x.Out)) (fun x => ⟨x.1, x.2.1, x.2.2.1, x.2.2.2.1, x.2.2.2.2.1, x.2.2.2.2.2.1, x.2.2.2.2.2.2.1, x.2.2.2.2.2.2.2⟩) (fun _ => rfl) (tr_st Tryz.underlying109 (by kernel_rfl) (tf_cons rfl (by kernel_rfl) (tr_int Tryz.underlying3) (tf_cons rfl (by kernel_rfl) (tr_int Tryz.underlying3) (tf_cons rfl (by kernel_rfl) (tr_int Tryz.underlying3) (tf_cons rfl (by kernel_rfl) (tr_bool Tryz.underlying4) (tf_cons rfl (by kernel_rfl) (tr_sl (e' := 282) Tryz.underlying106 (by kernel_rfl) tr282) (tf_cons rfl (by kernel_rfl) (tr_sl (e' := 26) Tryz.underlying107 (by kernel_rfl) tr26) (tf_cons rfl (by kernel_rfl) (tr_bool Tryz.underlying4) (tf_last rfl (by kernel_rfl) (tr_bool Tryz.underlying4))))))))))
theorem xn166 : Extern.findNext Tryz.f166 = none := by kernel_rfl
theorem xf166 : Extern.find Tryz.f166 = some Extern.MathFloatBits.float64bits := by kernel_rfl
theorem xn253 : Extern.findNext Tryz.f253 = none := by kernel_rfl
theorem xf253 : Extern.find Tryz.f253 = some Extern.BytealgCompare.compare := by kernel_rfl
theorem fa109_0 : ∀ (a : Addr) (w : World), (Instr.fieldAt 109 (.pointer (some a)) 0).run Tryz.prog w = .ok (.pointer (some (a.add 0))) w := fun _ _ => by kernel_rfl
theorem fa109_1 : ∀ (a : Addr) (w : World), (Instr.fieldAt 109 (.pointer (some a)) 1).run Tryz.prog w = .ok (.pointer (some (a.add 1))) w := fun _ _ => by kernel_rfl
theorem fa109_2 : ∀ (a : Addr) (w : World), (Instr.fieldAt 109 (.pointer (some a)) 2).run Tryz.prog w = .ok (.pointer (some (a.add 2))) w := fun _ _ => by kernel_rfl
theorem fa109_3 : ∀ (a : Addr) (w : World), (Instr.fieldAt 109 (.pointer (some a)) 3).run Tryz.prog w = .ok (.pointer (some (a.add 3))) w := fun _ _ => by kernel_rfl
theorem fa109_4 : ∀ (a : Addr) (w : World), (Instr.fieldAt 109 (.pointer (some a)) 4).run Tryz.prog w = .ok (.pointer (some (a.add 4))) w := fun _ _ => by kernel_rfl
theorem fa109_5 : ∀ (a : Addr) (w : World), (Instr.fieldAt 109 (.pointer (some a)) 5).run Tryz.prog w = .ok (.pointer (some (a.add 5))) w := fun _ _ => by kernel_rfl
theorem fa109_6 : ∀ (a : Addr) (w : World), (Instr.fieldAt 109 (.pointer (some a)) 6).run Tryz.prog w = .ok (.pointer (some (a.add 6))) w := fun _ _ => by kernel_rfl
theorem fa109_7 : ∀ (a : Addr) (w : World), (Instr.fieldAt 109 (.pointer (some a)) 7).run Tryz.prog w = .ok (.pointer (some (a.add 7))) w := fun _ _ => by kernel_rfl
theorem fa117_0 : ∀ (a : Addr) (w : World), (Instr.fieldAt 117 (.pointer (some a)) 0).run Tryz.prog w = .ok (.pointer (some (a.add 0))) w := fun _ _ => by kernel_rfl
theorem fa117_1 : ∀ (a : Addr) (w : World), (Instr.fieldAt 117 (.pointer (some a)) 1).run Tryz.prog w = .ok (.pointer (some (a.add 1))) w := fun _ _ => by kernel_rfl
theorem fa117_2 : ∀ (a : Addr) (w : World), (Instr.fieldAt 117 (.pointer (some a)) 2).run Tryz.prog w = .ok (.pointer (some (a.add 2))) w := fun _ _ => by kernel_rfl
theorem fa117_3 : ∀ (a : Addr) (w : World), (Instr.fieldAt 117 (.pointer (some a)) 3).run Tryz.prog w = .ok (.pointer (some (a.add 3))) w := fun _ _ => by kernel_rfl
theorem fa117_4 : ∀ (a : Addr) (w : World), (Instr.fieldAt 117 (.pointer (some a)) 4).run Tryz.prog w = .ok (.pointer (some (a.add 4))) w := fun _ _ => by kernel_rfl
theorem fa117_5 : ∀ (a : Addr) (w : World), (Instr.fieldAt 117 (.pointer (some a)) 5).run Tryz.prog w = .ok (.pointer (some (a.add 5))) w := fun _ _ => by kernel_rfl
theorem fa117_6 : ∀ (a : Addr) (w : World), (Instr.fieldAt 117 (.pointer (some a)) 6).run Tryz.prog w = .ok (.pointer (some (a.add 6))) w := fun _ _ => by kernel_rfl
theorem fa117_7 : ∀ (a : Addr) (w : World), (Instr.fieldAt 117 (.pointer (some a)) 7).run Tryz.prog w = .ok (.pointer (some (a.add 7))) w := fun _ _ => by kernel_rfl
theorem fa200_0 : ∀ (a : Addr) (w : World), (Instr.fieldAt 200 (.pointer (some a)) 0).run Tryz.prog w = .ok (.pointer (some (a.add 0))) w := fun _ _ => by kernel_rfl
theorem fa200_1 : ∀ (a : Addr) (w : World), (Instr.fieldAt 200 (.pointer (some a)) 1).run Tryz.prog w = .ok (.pointer (some (a.add 4))) w := fun _ _ => by kernel_rfl
theorem fa26_0 : ∀ (a : Addr) (w : World), (Instr.fieldAt 26 (.pointer (some a)) 0).run Tryz.prog w = .ok (.pointer (some (a.add 0))) w := fun _ _ => by kernel_rfl
theorem fa26_1 : ∀ (a : Addr) (w : World), (Instr.fieldAt 26 (.pointer (some a)) 1).run Tryz.prog w = .ok (.pointer (some (a.add 1))) w := fun _ _ => by kernel_rfl
theorem fa26_2 : ∀ (a : Addr) (w : World), (Instr.fieldAt 26 (.pointer (some a)) 2).run Tryz.prog w = .ok (.pointer (some (a.add 2))) w := fun _ _ => by kernel_rfl
theorem fa26_3 : ∀ (a : Addr) (w : World), (Instr.fieldAt 26 (.pointer (some a)) 3).run Tryz.prog w = .ok (.pointer (some (a.add 3))) w := fun _ _ => by kernel_rfl
theorem fa282_0 : ∀ (a : Addr) (w : World), (Instr.fieldAt 282 (.pointer (some a)) 0).run Tryz.prog w = .ok (.pointer (some (a.add 0))) w := fun _ _ => by kernel_rfl
theorem fa282_1 : ∀ (a : Addr) (w : World), (Instr.fieldAt 282 (.pointer (some a)) 1).run Tryz.prog w = .ok (.pointer (some (a.add 4))) w := fun _ _ => by kernel_rfl
theorem fa33_0 : ∀ (a : Addr) (w : World), (Instr.fieldAt 33 (.pointer (some a)) 0).run Tryz.prog w = .ok (.pointer (some (a.add 0))) w := fun _ _ => by kernel_rfl
theorem fa33_1 : ∀ (a : Addr) (w : World), (Instr.fieldAt 33 (.pointer (some a)) 1).run Tryz.prog w = .ok (.pointer (some (a.add 1))) w := fun _ _ => by kernel_rfl
theorem fa33_2 : ∀ (a : Addr) (w : World), (Instr.fieldAt 33 (.pointer (some a)) 2).run Tryz.prog w = .ok (.pointer (some (a.add 2))) w := fun _ _ => by kernel_rfl
theorem fa33_3 : ∀ (a : Addr) (w : World), (Instr.fieldAt 33 (.pointer (some a)) 3).run Tryz.prog w = .ok (.pointer (some (a.add 3))) w := fun _ _ => by kernel_rfl
theorem o117 : (Tryz.prog.info? 117).bind (·.zero) = some (.agg #[.int .i64 0, .int .i64 0, .int .i64 0, .bool false, .slice none 0 0, .slice none 0 0, .bool false, .bool false]) := by kernel_rfl
theorem o200 : (Tryz.prog.info? 200).bind (·.zero) = some (.agg #[.int .i64 0, .int .i64 0, .float .f64 0, .slice none 0 0, .int .i64 0, .int .i64 0, .float .f64 0, .slice none 0 0]) := by kernel_rfl
theorem o3 : (Tryz.prog.info? 3).bind (·.zero) = some (.int .i64 0) := by kernel_rfl
theorem o33 : (Tryz.prog.info? 33).bind (·.zero) = some (.agg #[.int .i64 0, .int .i64 0, .float .f64 0, .slice none 0 0]) := by kernel_rfl
theorem o4 : (Tryz.prog.info? 4).bind (·.zero) = some (.bool false) := by kernel_rfl
theorem o5 : (Tryz.prog.info? 5).bind (·.zero) = some (.int .u8 0) := by kernel_rfl
theorem pl200 : PlF Tryz.prog 200 #[(0, 4), (4, 4)] := ⟨_, Tryz.underlying200, fun _ => by kernel_rfl⟩
theorem sl114 : SlT Tryz.prog 114 200 8 := SlT.mk (by_ := 96) (z := (.agg #[.int .i64 0, .int .i64 0, .float .f64 0, .slice none 0 0, .int .i64 0, .int .i64 0, .float .f64 0, .slice none 0 0])) Tryz.underlying114 (by kernel_rfl) rfl rfl rfl
theorem sl115 : SlT Tryz.prog 115 33 4 := SlT.mk (by_ := 48) (z := (.agg #[.int .i64 0, .int .i64 0, .float .f64 0, .slice none 0 0])) Tryz.underlying115 (by kernel_rfl) rfl rfl rfl
theorem sl24 : SlT Tryz.prog 24 5 1 := SlT.mk (by_ := 1) (z := (.int .u8 0)) Tryz.underlying24 (by kernel_rfl) rfl rfl rfl
theorem sl29 : SlT Tryz.prog 29 117 8 := SlT.mk (by_ := 88) (z := (.agg #[.int .i64 0, .int .i64 0, .int .i64 0, .bool false, .slice none 0 0, .slice none 0 0, .bool false, .bool false])) Tryz.underlying29 (by kernel_rfl) rfl rfl rfl
theorem z109 : (Tryz.prog.info? 109).map (·.size) = some 8 := by kernel_rfl
theorem z114 : (Tryz.prog.info? 114).map (·.size) = some 1 := by kernel_rfl
theorem z115 : (Tryz.prog.info? 115).map (·.size) = some 1 := by kernel_rfl
theorem z117 : (Tryz.prog.info? 117).map (·.size) = some 8 := by kernel_rfl
theorem z200 : (Tryz.prog.info? 200).map (·.size) = some 8 := by kernel_rfl
theorem z23 : (Tryz.prog.info? 23).map (·.size) = some 1 := by kernel_rfl
theorem z24 : (Tryz.prog.info? 24).map (·.size) = some 1 := by kernel_rfl
theorem z26 : (Tryz.prog.info? 26).map (·.size) = some 4 := by kernel_rfl
theorem z282 : (Tryz.prog.info? 282).map (·.size) = some 8 := by kernel_rfl
theorem z3 : (Tryz.prog.info? 3).map (·.size) = some 1 := by kernel_rfl
theorem z33 : (Tryz.prog.info? 33).map (·.size) = some 4 := by kernel_rfl
theorem z4 : (Tryz.prog.info? 4).map (·.size) = some 1 := by kernel_rfl
theorem z5 : (Tryz.prog.info? 5).map (·.size) = some 1 := by kernel_rfl
end Go.Proofs.YtcagjdngannneaaGreat
