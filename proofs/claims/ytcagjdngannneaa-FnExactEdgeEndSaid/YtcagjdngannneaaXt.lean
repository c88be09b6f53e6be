
import Derived.Test.YtcagjdngannneaaProg
import Derived.Test.YtcagjdngannneaaVE
import Derived.KernelRfl
set_option linter.unusedVariables false
set_option linter.unusedSimpArgs false
namespace Go.Proofs.Ytcagjdngannneaa
open Go V
structure Item where
  Kind : Int
  N : Int
  F : Nat
  T : (List Int)
  deriving Inhabited, DecidableEq
structure Entry where
  Key : Item
  Id : Int
  deriving Inhabited, DecidableEq
structure Node where
  Leaf : Bool
  Entries : (List Entry)
  Kids : (List Int)
  deriving Inhabited, DecidableEq
structure Tree where
  Nodes : (List Node)
  Root : Int
  deriving Inhabited, DecidableEq
structure Span where
  From : Item
  To : Item
  deriving Inhabited, DecidableEq
structure Track where
  Xid : Int
  Begun : Int
  Ended : Int
  All : Bool
  Reads : (List Span)
  Writes : (List Item)
  In : Bool
  Out : Bool
  deriving Inhabited, DecidableEq
structure Deed where
  Xid : Int
  Begun : Int
  Ended : Int
  Reads : (List Span)
  Writes : (List Item)
  deriving Inhabited, DecidableEq
structure A2Int where
  e0 : Int
  e1 : Int
  deriving Inhabited, DecidableEq
structure l11walk where
  seen : (List Bool)
  deep : Int
  wrong : Bool
  all : (List Entry)
  deriving Inhabited, DecidableEq
structure l1Cur where
  b : (List Int)
  i : Int
  h : Int
  deriving Inhabited, DecidableEq
def kd39 : Kd Item := Kd.iso (Kd.pair (Kd.int .i64) (Kd.pair (Kd.int .i64) (Kd.pair Kd.flt (Kd.sl 5 (Kd.int .u8))))) fun x => (x.Kind, x.N, x.F, x.T)
theorem op39 {s : St} {cs : List Value} {x : Item} {C : List Nat} (h : RdF kd39 s cs x C) : ∃ (v0 : Value) (v1 : Value), cs = [.int .i64 x.Kind, .int .i64 x.N, v0, v1] ∧ FL v0 x.F ∧ RdF (Kd.sl 5 (Kd.int .u8)) s [v1] x.T C := by
  obtain ⟨_, _, rfl, rfl, ⟨_, _, rfl, rfl, ⟨_, _, rfl, ⟨v0, rfl, h0⟩, ⟨v1, rfl, h1⟩⟩⟩⟩ := h
  exact ⟨v0, v1, rfl, h0, ⟨_, rfl, h1⟩⟩
def kd48 : Kd Item := Kd.iso (Kd.pair (Kd.int .i64) (Kd.pair (Kd.int .i64) (Kd.pair Kd.flt (Kd.sl 5 (Kd.int .u8))))) fun x => (x.Kind, x.N, x.F, x.T)
theorem op48 {s : St} {cs : List Value} {x : Item} {C : List Nat} (h : RdF kd48 s cs x C) : ∃ (v0 : Value) (v1 : Value), cs = [.int .i64 x.Kind, .int .i64 x.N, v0, v1] ∧ FL v0 x.F ∧ RdF (Kd.sl 5 (Kd.int .u8)) s [v1] x.T C := by
  obtain ⟨_, _, rfl, rfl, ⟨_, _, rfl, rfl, ⟨_, _, rfl, ⟨v0, rfl, h0⟩, ⟨v1, rfl, h1⟩⟩⟩⟩ := h
  exact ⟨v0, v1, rfl, h0, ⟨_, rfl, h1⟩⟩
theorem po48 {w : World} {cs : List Value} {x : Item} {os : List Nat} (h : kd48.ow w cs x os) : ∃ (v0 : Value) (v1 : Value) (p1 : List Nat), cs = [.int .i64 x.Kind, .int .i64 x.N, v0, v1] ∧ os = p1 ∧ FL v0 x.F ∧ (Kd.sl 5 (Kd.int .u8)).ow w [v1] x.T p1 := by
  obtain ⟨_, _, _, _, rfl, rfl, ⟨rfl, rfl⟩, ⟨_, _, _, _, rfl, rfl, ⟨rfl, rfl⟩, ⟨_, _, _, p1, rfl, rfl, ⟨⟨v0, rfl, h0⟩, rfl⟩, ⟨v1, rfl, h1⟩⟩⟩⟩ := h
  exact ⟨_, _, p1, rfl, by simp, h0, ⟨_, rfl, h1⟩⟩
def kd80 : Kd Span := Kd.iso (Kd.pair kd48 kd48) fun x => (x.From, x.To)
theorem op80 {s : St} {cs : List Value} {x : Span} {C : List Nat} (h : RdF kd80 s cs x C) : ∃ (v0 : Value) (v1 : Value) (v2 : Value) (v3 : Value), cs = [.int .i64 x.From.Kind, .int .i64 x.From.N, v0, v1, .int .i64 x.To.Kind, .int .i64 x.To.N, v2, v3] ∧ FL v0 x.From.F ∧ RdF (Kd.sl 5 (Kd.int .u8)) s [v1] x.From.T C ∧ FL v2 x.To.F ∧ RdF (Kd.sl 5 (Kd.int .u8)) s [v3] x.To.T C := by
  obtain ⟨_, _, rfl, ⟨_, _, rfl, rfl, ⟨_, _, rfl, rfl, ⟨_, _, rfl, ⟨v0, rfl, h0⟩, ⟨v1, rfl, h1⟩⟩⟩⟩, ⟨_, _, rfl, rfl, ⟨_, _, rfl, rfl, ⟨_, _, rfl, ⟨v2, rfl, h2⟩, ⟨v3, rfl, h3⟩⟩⟩⟩⟩ := h
  exact ⟨v0, v1, v2, v3, rfl, h0, ⟨_, rfl, h1⟩, h2, ⟨_, rfl, h3⟩⟩
theorem po80 {w : World} {cs : List Value} {x : Span} {os : List Nat} (h : kd80.ow w cs x os) : ∃ (v0 : Value) (v1 : Value) (v2 : Value) (v3 : Value) (p1 : List Nat) (p3 : List Nat), cs = [.int .i64 x.From.Kind, .int .i64 x.From.N, v0, v1, .int .i64 x.To.Kind, .int .i64 x.To.N, v2, v3] ∧ os = p1 ++ (p3) ∧ FL v0 x.From.F ∧ (Kd.sl 5 (Kd.int .u8)).ow w [v1] x.From.T p1 ∧ FL v2 x.To.F ∧ (Kd.sl 5 (Kd.int .u8)).ow w [v3] x.To.T p3 := by
  obtain ⟨_, _, _, _, rfl, rfl, ⟨_, _, _, _, rfl, rfl, ⟨rfl, rfl⟩, ⟨_, _, _, _, rfl, rfl, ⟨rfl, rfl⟩, ⟨_, _, _, p1, rfl, rfl, ⟨⟨v0, rfl, h0⟩, rfl⟩, ⟨v1, rfl, h1⟩⟩⟩⟩, ⟨_, _, _, _, rfl, rfl, ⟨rfl, rfl⟩, ⟨_, _, _, _, rfl, rfl, ⟨rfl, rfl⟩, ⟨_, _, _, p3, rfl, rfl, ⟨⟨v2, rfl, h2⟩, rfl⟩, ⟨v3, rfl, h3⟩⟩⟩⟩⟩ := h
  exact ⟨_, _, _, _, p1, p3, rfl, by simp, h0, ⟨_, rfl, h1⟩, h2, ⟨_, rfl, h3⟩⟩
def kd59 : Kd Track := Kd.iso (Kd.pair (Kd.int .i64) (Kd.pair (Kd.int .i64) (Kd.pair (Kd.int .i64) (Kd.pair Kd.bool (Kd.pair (Kd.sl 80 kd80) (Kd.pair (Kd.sl 48 kd48) (Kd.pair Kd.bool Kd.bool))))))) fun x => (x.Xid, x.Begun, x.Ended, x.All, x.Reads, x.Writes, x.In, x.Out)
theorem op59 {s : St} {cs : List Value} {x : Track} {C : List Nat} (h : RdF kd59 s cs x C) : ∃ (v0 : Value) (v1 : Value), cs = [.int .i64 x.Xid, .int .i64 x.Begun, .int .i64 x.Ended, .bool x.All, v0, v1, .bool x.In, .bool x.Out] ∧ RdF (Kd.sl 80 kd80) s [v0] x.Reads C ∧ RdF (Kd.sl 48 kd48) s [v1] x.Writes C := by
  obtain ⟨_, _, rfl, rfl, ⟨_, _, rfl, rfl, ⟨_, _, rfl, rfl, ⟨_, _, rfl, rfl, ⟨_, _, rfl, ⟨v0, rfl, h0⟩, ⟨_, _, rfl, ⟨v1, rfl, h1⟩, ⟨_, _, rfl, rfl, rfl⟩⟩⟩⟩⟩⟩⟩ := h
  exact ⟨v0, v1, rfl, ⟨_, rfl, h0⟩, ⟨_, rfl, h1⟩⟩
theorem po59 {w : World} {cs : List Value} {x : Track} {os : List Nat} (h : kd59.ow w cs x os) : ∃ (v0 : Value) (v1 : Value) (p0 : List Nat) (p1 : List Nat), cs = [.int .i64 x.Xid, .int .i64 x.Begun, .int .i64 x.Ended, .bool x.All, v0, v1, .bool x.In, .bool x.Out] ∧ os = p0 ++ (p1) ∧ (Kd.sl 80 kd80).ow w [v0] x.Reads p0 ∧ (Kd.sl 48 kd48).ow w [v1] x.Writes p1 := by
  obtain ⟨_, _, _, _, rfl, rfl, ⟨rfl, rfl⟩, ⟨_, _, _, _, rfl, rfl, ⟨rfl, rfl⟩, ⟨_, _, _, _, rfl, rfl, ⟨rfl, rfl⟩, ⟨_, _, _, _, rfl, rfl, ⟨rfl, rfl⟩, ⟨_, _, p0, _, rfl, rfl, ⟨v0, rfl, h0⟩, ⟨_, _, p1, _, rfl, rfl, ⟨v1, rfl, h1⟩, ⟨_, _, _, _, rfl, rfl, ⟨rfl, rfl⟩, ⟨rfl, rfl⟩⟩⟩⟩⟩⟩⟩⟩ := h
  exact ⟨_, _, p0, p1, rfl, by simp, ⟨_, rfl, h0⟩, ⟨_, rfl, h1⟩⟩
theorem mk59 {s : St} {x : Track} {C : List Nat} {v0 : Value} {v1 : Value} (h0 : RdF (Kd.sl 80 kd80) s [v0] x.Reads C) (h1 : RdF (Kd.sl 48 kd48) s [v1] x.Writes C) : RdF kd59 s [.int .i64 x.Xid, .int .i64 x.Begun, .int .i64 x.Ended, .bool x.All, v0, v1, .bool x.In, .bool x.Out] x C := ⟨[.int .i64 x.Xid], [.int .i64 x.Begun, .int .i64 x.Ended, .bool x.All, v0, v1, .bool x.In, .bool x.Out], rfl, rfl, ⟨[.int .i64 x.Begun], [.int .i64 x.Ended, .bool x.All, v0, v1, .bool x.In, .bool x.Out], rfl, rfl, ⟨[.int .i64 x.Ended], [.bool x.All, v0, v1, .bool x.In, .bool x.Out], rfl, rfl, ⟨[.bool x.All], [v0, v1, .bool x.In, .bool x.Out], rfl, rfl, ⟨[v0], [v1, .bool x.In, .bool x.Out], rfl, h0, ⟨[v1], [.bool x.In, .bool x.Out], rfl, h1, ⟨[.bool x.In], [.bool x.Out], rfl, rfl, rfl⟩⟩⟩⟩⟩⟩⟩
def kd76 : Kd Span := Kd.iso (Kd.pair kd39 kd39) fun x => (x.From, x.To)
theorem op76 {s : St} {cs : List Value} {x : Span} {C : List Nat} (h : RdF kd76 s cs x C) : ∃ (v0 : Value) (v1 : Value) (v2 : Value) (v3 : Value), cs = [.int .i64 x.From.Kind, .int .i64 x.From.N, v0, v1, .int .i64 x.To.Kind, .int .i64 x.To.N, v2, v3] ∧ FL v0 x.From.F ∧ RdF (Kd.sl 5 (Kd.int .u8)) s [v1] x.From.T C ∧ FL v2 x.To.F ∧ RdF (Kd.sl 5 (Kd.int .u8)) s [v3] x.To.T C := by
  obtain ⟨_, _, rfl, ⟨_, _, rfl, rfl, ⟨_, _, rfl, rfl, ⟨_, _, rfl, ⟨v0, rfl, h0⟩, ⟨v1, rfl, h1⟩⟩⟩⟩, ⟨_, _, rfl, rfl, ⟨_, _, rfl, rfl, ⟨_, _, rfl, ⟨v2, rfl, h2⟩, ⟨v3, rfl, h3⟩⟩⟩⟩⟩ := h
  exact ⟨v0, v1, v2, v3, rfl, h0, ⟨_, rfl, h1⟩, h2, ⟨_, rfl, h3⟩⟩
def kd149 : Kd Track := Kd.iso (Kd.pair (Kd.int .i64) (Kd.pair (Kd.int .i64) (Kd.pair (Kd.int .i64) (Kd.pair Kd.bool (Kd.pair (Kd.sl 76 kd76) (Kd.pair (Kd.sl 39 kd39) (Kd.pair Kd.bool Kd.bool))))))) fun x => (x.Xid, x.Begun, x.Ended, x.All, x.Reads, x.Writes, x.In, x.Out)
theorem op149 {s : St} {cs : List Value} {x : Track} {C : List Nat} (h : RdF kd149 s cs x C) : ∃ (v0 : Value) (v1 : Value), cs = [.int .i64 x.Xid, .int .i64 x.Begun, .int .i64 x.Ended, .bool x.All, v0, v1, .bool x.In, .bool x.Out] ∧ RdF (Kd.sl 76 kd76) s [v0] x.Reads C ∧ RdF (Kd.sl 39 kd39) s [v1] x.Writes C := by
  obtain ⟨_, _, rfl, rfl, ⟨_, _, rfl, rfl, ⟨_, _, rfl, rfl, ⟨_, _, rfl, rfl, ⟨_, _, rfl, ⟨v0, rfl, h0⟩, ⟨_, _, rfl, ⟨v1, rfl, h1⟩, ⟨_, _, rfl, rfl, rfl⟩⟩⟩⟩⟩⟩⟩ := h
  exact ⟨v0, v1, rfl, ⟨_, rfl, h0⟩, ⟨_, rfl, h1⟩⟩
def ok_Item (x : Item) : Prop := InK .i64 x.Kind ∧ InK .i64 x.N ∧ okF x.F ∧ (x.T.length ≤ maxLen ∧ ∀ y ∈ x.T, InK .u8 y)
theorem tr39 : Opn Try.prog 39 kd39 ok_Item := tr_iso (fun x : Item => (x.Kind, x.N, x.F, x.T)) (fun x => ⟨x.1, x.2.1, x.2.2.1, x.2.2.2⟩) (fun _ => rfl) (tr_st Try.underlying39 (by kernel_rfl) (tf_cons rfl (by kernel_rfl) (tr_int Try.underlying3) (tf_cons rfl (by kernel_rfl) (tr_int Try.underlying3) (tf_cons rfl (by kernel_rfl) (tr_flt Try.underlying36) (tf_last rfl (by kernel_rfl) (tr_sl (e' := 5) Try.underlying37 (by kernel_rfl) (tr_int Try.underlying5)))))))
def ok_Span (x : Span) : Prop := ok_Item x.From ∧ ok_Item x.To
def ok_Track (x : Track) : Prop := InK .i64 x.Xid ∧ InK .i64 x.Begun ∧ InK .i64 x.Ended ∧ True ∧ (x.Reads.length ≤ maxLen ∧ ∀ y ∈ x.Reads, ok_Span y) ∧ (x.Writes.length ≤ maxLen ∧ ∀ y ∈ x.Writes, ok_Item y) ∧ True ∧ True
theorem tr76 : Opn Try.prog 76 kd76 ok_Span := tr_iso (fun x : Span => (x.From, x.To)) (fun x => ⟨x.1, x.2⟩) (fun _ => rfl) (tr_st Try.underlying76 (by kernel_rfl) (tf_cons rfl (by kernel_rfl) tr39 (tf_last rfl (by kernel_rfl) tr39)))
theorem tr149 : Opn Try.prog 149 kd149 ok_Track := tr_iso (fun x : Track => (x.Xid, x.Begun, x.Ended, x.All, x.Reads, x.Writes, x.In, x.Out)) (fun x => ⟨x.1, x.2.1, x.2.2.1, x.2.2.2.1, x.2.2.2.2.1, x.2.2.2.2.2.1, x.2.2.2.2.2.2.1, x.2.2.2.2.2.2.2⟩) (fun _ => rfl) (tr_st Try.underlying149 (by kernel_rfl) (tf_cons rfl (by kernel_rfl) (tr_int Try.underlying3) (tf_cons rfl (by kernel_rfl) (tr_int Try.underlying3) (tf_cons rfl (by kernel_rfl) (tr_int Try.underlying3) (tf_cons rfl (by kernel_rfl) (tr_bool Try.underlying4) (tf_cons rfl (by kernel_rfl) (tr_sl (e' := 76) Try.underlying86 (by kernel_rfl) tr76) (tf_cons rfl (by kernel_rfl) (tr_sl (e' := 39) Try.underlying87 (by kernel_rfl) tr39) (tf_cons rfl (by kernel_rfl) (tr_bool Try.underlying4) (tf_last rfl (by kernel_rfl) (tr_bool Try.underlying4))))))))))
theorem xn193 : Extern.findNext Try.f193 = none := by kernel_rfl
theorem xf193 : Extern.find Try.f193 = some Extern.MathFloatBits.float64bits := by kernel_rfl
theorem xn224 : Extern.findNext Try.f224 = none := by kernel_rfl
theorem xf224 : Extern.find Try.f224 = some Extern.BytealgCompare.compare := by kernel_rfl
theorem fa149_0 : ∀ (a : Addr) (w : World), (Instr.fieldAt 149 (.pointer (some a)) 0).run Try.prog w = .ok (.pointer (some (a.add 0))) w := fun _ _ => by kernel_rfl
theorem fa149_1 : ∀ (a : Addr) (w : World), (Instr.fieldAt 149 (.pointer (some a)) 1).run Try.prog w = .ok (.pointer (some (a.add 1))) w := fun _ _ => by kernel_rfl
theorem fa149_2 : ∀ (a : Addr) (w : World), (Instr.fieldAt 149 (.pointer (some a)) 2).run Try.prog w = .ok (.pointer (some (a.add 2))) w := fun _ _ => by kernel_rfl
theorem fa149_3 : ∀ (a : Addr) (w : World), (Instr.fieldAt 149 (.pointer (some a)) 3).run Try.prog w = .ok (.pointer (some (a.add 3))) w := fun _ _ => by kernel_rfl
theorem fa149_4 : ∀ (a : Addr) (w : World), (Instr.fieldAt 149 (.pointer (some a)) 4).run Try.prog w = .ok (.pointer (some (a.add 4))) w := fun _ _ => by kernel_rfl
theorem fa149_5 : ∀ (a : Addr) (w : World), (Instr.fieldAt 149 (.pointer (some a)) 5).run Try.prog w = .ok (.pointer (some (a.add 5))) w := fun _ _ => by kernel_rfl
theorem fa149_6 : ∀ (a : Addr) (w : World), (Instr.fieldAt 149 (.pointer (some a)) 6).run Try.prog w = .ok (.pointer (some (a.add 6))) w := fun _ _ => by kernel_rfl
theorem fa149_7 : ∀ (a : Addr) (w : World), (Instr.fieldAt 149 (.pointer (some a)) 7).run Try.prog w = .ok (.pointer (some (a.add 7))) w := fun _ _ => by kernel_rfl
theorem fa39_0 : ∀ (a : Addr) (w : World), (Instr.fieldAt 39 (.pointer (some a)) 0).run Try.prog w = .ok (.pointer (some (a.add 0))) w := fun _ _ => by kernel_rfl
theorem fa39_1 : ∀ (a : Addr) (w : World), (Instr.fieldAt 39 (.pointer (some a)) 1).run Try.prog w = .ok (.pointer (some (a.add 1))) w := fun _ _ => by kernel_rfl
theorem fa39_2 : ∀ (a : Addr) (w : World), (Instr.fieldAt 39 (.pointer (some a)) 2).run Try.prog w = .ok (.pointer (some (a.add 2))) w := fun _ _ => by kernel_rfl
theorem fa39_3 : ∀ (a : Addr) (w : World), (Instr.fieldAt 39 (.pointer (some a)) 3).run Try.prog w = .ok (.pointer (some (a.add 3))) w := fun _ _ => by kernel_rfl
theorem fa48_0 : ∀ (a : Addr) (w : World), (Instr.fieldAt 48 (.pointer (some a)) 0).run Try.prog w = .ok (.pointer (some (a.add 0))) w := fun _ _ => by kernel_rfl
theorem fa48_1 : ∀ (a : Addr) (w : World), (Instr.fieldAt 48 (.pointer (some a)) 1).run Try.prog w = .ok (.pointer (some (a.add 1))) w := fun _ _ => by kernel_rfl
theorem fa48_2 : ∀ (a : Addr) (w : World), (Instr.fieldAt 48 (.pointer (some a)) 2).run Try.prog w = .ok (.pointer (some (a.add 2))) w := fun _ _ => by kernel_rfl
theorem fa48_3 : ∀ (a : Addr) (w : World), (Instr.fieldAt 48 (.pointer (some a)) 3).run Try.prog w = .ok (.pointer (some (a.add 3))) w := fun _ _ => by kernel_rfl
theorem fa59_0 : ∀ (a : Addr) (w : World), (Instr.fieldAt 59 (.pointer (some a)) 0).run Try.prog w = .ok (.pointer (some (a.add 0))) w := fun _ _ => by kernel_rfl
theorem fa59_1 : ∀ (a : Addr) (w : World), (Instr.fieldAt 59 (.pointer (some a)) 1).run Try.prog w = .ok (.pointer (some (a.add 1))) w := fun _ _ => by kernel_rfl
theorem fa59_2 : ∀ (a : Addr) (w : World), (Instr.fieldAt 59 (.pointer (some a)) 2).run Try.prog w = .ok (.pointer (some (a.add 2))) w := fun _ _ => by kernel_rfl
theorem fa59_3 : ∀ (a : Addr) (w : World), (Instr.fieldAt 59 (.pointer (some a)) 3).run Try.prog w = .ok (.pointer (some (a.add 3))) w := fun _ _ => by kernel_rfl
theorem fa59_4 : ∀ (a : Addr) (w : World), (Instr.fieldAt 59 (.pointer (some a)) 4).run Try.prog w = .ok (.pointer (some (a.add 4))) w := fun _ _ => by kernel_rfl
theorem fa59_5 : ∀ (a : Addr) (w : World), (Instr.fieldAt 59 (.pointer (some a)) 5).run Try.prog w = .ok (.pointer (some (a.add 5))) w := fun _ _ => by kernel_rfl
theorem fa59_6 : ∀ (a : Addr) (w : World), (Instr.fieldAt 59 (.pointer (some a)) 6).run Try.prog w = .ok (.pointer (some (a.add 6))) w := fun _ _ => by kernel_rfl
theorem fa59_7 : ∀ (a : Addr) (w : World), (Instr.fieldAt 59 (.pointer (some a)) 7).run Try.prog w = .ok (.pointer (some (a.add 7))) w := fun _ _ => by kernel_rfl
theorem fa76_0 : ∀ (a : Addr) (w : World), (Instr.fieldAt 76 (.pointer (some a)) 0).run Try.prog w = .ok (.pointer (some (a.add 0))) w := fun _ _ => by kernel_rfl
theorem fa76_1 : ∀ (a : Addr) (w : World), (Instr.fieldAt 76 (.pointer (some a)) 1).run Try.prog w = .ok (.pointer (some (a.add 4))) w := fun _ _ => by kernel_rfl
theorem fa80_0 : ∀ (a : Addr) (w : World), (Instr.fieldAt 80 (.pointer (some a)) 0).run Try.prog w = .ok (.pointer (some (a.add 0))) w := fun _ _ => by kernel_rfl
theorem fa80_1 : ∀ (a : Addr) (w : World), (Instr.fieldAt 80 (.pointer (some a)) 1).run Try.prog w = .ok (.pointer (some (a.add 4))) w := fun _ _ => by kernel_rfl
theorem o3 : (Try.prog.info? 3).bind (·.zero) = some (.int .i64 0) := by kernel_rfl
theorem o4 : (Try.prog.info? 4).bind (·.zero) = some (.bool false) := by kernel_rfl
theorem o48 : (Try.prog.info? 48).bind (·.zero) = some (.agg #[.int .i64 0, .int .i64 0, .float .f64 0, .slice none 0 0]) := by kernel_rfl
theorem o5 : (Try.prog.info? 5).bind (·.zero) = some (.int .u8 0) := by kernel_rfl
theorem o59 : (Try.prog.info? 59).bind (·.zero) = some (.agg #[.int .i64 0, .int .i64 0, .int .i64 0, .bool false, .slice none 0 0, .slice none 0 0, .bool false, .bool false]) := by kernel_rfl
theorem o80 : (Try.prog.info? 80).bind (·.zero) = some (.agg #[.int .i64 0, .int .i64 0, .float .f64 0, .slice none 0 0, .int .i64 0, .int .i64 0, .float .f64 0, .slice none 0 0]) := by kernel_rfl
theorem pl80 : PlF Try.prog 80 #[(0, 4), (4, 4)] := ⟨_, Try.underlying80, fun _ => by kernel_rfl⟩
theorem sl37 : SlT Try.prog 37 5 1 := SlT.mk (by_ := 1) (z := (.int .u8 0)) Try.underlying37 (by kernel_rfl) rfl rfl rfl
theorem sl56 : SlT Try.prog 56 80 8 := SlT.mk (by_ := 96) (z := (.agg #[.int .i64 0, .int .i64 0, .float .f64 0, .slice none 0 0, .int .i64 0, .int .i64 0, .float .f64 0, .slice none 0 0])) Try.underlying56 (by kernel_rfl) rfl rfl rfl
theorem sl57 : SlT Try.prog 57 48 4 := SlT.mk (by_ := 48) (z := (.agg #[.int .i64 0, .int .i64 0, .float .f64 0, .slice none 0 0])) Try.underlying57 (by kernel_rfl) rfl rfl rfl
theorem sl62 : SlT Try.prog 62 59 8 := SlT.mk (by_ := 88) (z := (.agg #[.int .i64 0, .int .i64 0, .int .i64 0, .bool false, .slice none 0 0, .slice none 0 0, .bool false, .bool false])) Try.underlying62 (by kernel_rfl) rfl rfl rfl
theorem z149 : (Try.prog.info? 149).map (·.size) = some 8 := by kernel_rfl
theorem z3 : (Try.prog.info? 3).map (·.size) = some 1 := by kernel_rfl
theorem z36 : (Try.prog.info? 36).map (·.size) = some 1 := by kernel_rfl
theorem z37 : (Try.prog.info? 37).map (·.size) = some 1 := by kernel_rfl
theorem z39 : (Try.prog.info? 39).map (·.size) = some 4 := by kernel_rfl
theorem z4 : (Try.prog.info? 4).map (·.size) = some 1 := by kernel_rfl
theorem z48 : (Try.prog.info? 48).map (·.size) = some 4 := by kernel_rfl
theorem z5 : (Try.prog.info? 5).map (·.size) = some 1 := by kernel_rfl
theorem z56 : (Try.prog.info? 56).map (·.size) = some 1 := by kernel_rfl
theorem z57 : (Try.prog.info? 57).map (·.size) = some 1 := by kernel_rfl
theorem z59 : (Try.prog.info? 59).map (·.size) = some 8 := by kernel_rfl
theorem z76 : (Try.prog.info? 76).map (·.size) = some 8 := by kernel_rfl
theorem z80 : (Try.prog.info? 80).map (·.size) = some 8 := by kernel_rfl
end Go.Proofs.Ytcagjdngannneaa
