import Derived.Test.YtcgbhldenkeplaaProg
import Derived.Test.YtcgbhldenkeplaaG2
import Derived.KernelRfl

set_option linter.unusedVariables false
set_option linter.unusedSimpArgs false
namespace Go.Proofs.Ytcgbhldenkeplaa
open Go V
structure Item where
  Kind : Int
  N : Int
  F : Nat
  T : (List Int)
  deriving Inhabited, DecidableEq
structure Span where
  From : Item
  To : Item
  deriving Inhabited, DecidableEq
structure Track where
  Xid : Int
  Begun : Int
  Ended : Int
  All : Bool
  Reads : (List Span)
  Writes : (List Item)
  In : Bool
  Out : Bool
  deriving Inhabited, DecidableEq
structure l1Cur where
  b : (List Int)
  i : Int
  h : Int
  deriving Inhabited, DecidableEq
def kd60 : Kd Item := Kd.iso (Kd.pair (Kd.int .i64) (Kd.pair (Kd.int .i64) (Kd.pair Kd.flt (Kd.sl 5 (Kd.int .u8))))) fun x => (x.Kind, x.N, x.F, x.T)
theorem op60 {s : St} {cs : List Value} {x : Item} {C : List Nat} (h : RdF kd60 s cs x C) : ∃ (v0 : Value) (v1 : Value), cs = [.int .i64 x.Kind, .int .i64 x.N, v0, v1] ∧ FL v0 x.F ∧ RdF (Kd.sl 5 (Kd.int .u8)) s [v1] x.T C := by
  obtain ⟨_, _, rfl, rfl, ⟨_, _, rfl, rfl, ⟨_, _, rfl, ⟨v0, rfl, h0⟩, ⟨v1, rfl, h1⟩⟩⟩⟩ := h
  exact ⟨v0, v1, rfl, h0, ⟨_, rfl, h1⟩⟩
theorem po60 {w : World} {cs : List Value} {x : Item} {os : List Nat} (h : kd60.ow w cs x os) : ∃ (v0 : Value) (v1 : Value) (p1 : List Nat), cs = [.int .i64 x.Kind, .int .i64 x.N, v0, v1] ∧ os = p1 ∧ FL v0 x.F ∧ (Kd.sl 5 (Kd.int .u8)).ow w [v1] x.T p1 := by
  obtain ⟨_, _, _, _, rfl, rfl, ⟨rfl, rfl⟩, ⟨_, _, _, _, rfl, rfl, ⟨rfl, rfl⟩, ⟨_, _, _, p1, rfl, rfl, ⟨⟨v0, rfl, h0⟩, rfl⟩, ⟨v1, rfl, h1⟩⟩⟩⟩ := h
  exact ⟨_, _, p1, rfl, by simp, h0, ⟨_, rfl, h1⟩⟩
theorem ap60 {s : St} {x : Item} {z0 z1 v0 v1 : Value} {c : Nat} (h : OwF kd60 s [z0, z1, v0, v1] x c) : FL v0 x.F ∧ OwF (Kd.sl 5 (Kd.int .u8)) s [v1] x.T c := by
  obtain ⟨os, ho, hn, hc⟩ := h
  obtain ⟨u0, u1, p1, e, eo, h0, h1⟩ := po60 ho
  have y0 : v0 = u0 := congrArg (fun l => (List.drop 2 l).headD undef) e
  have y1 : v1 = u1 := congrArg (fun l => (List.drop 3 l).headD undef) e
  subst y0
  subst y1
  subst eo
  exact ⟨h0, sp1 h1 hn hc⟩
def kd62 : Kd Span := Kd.iso (Kd.pair kd60 kd60) fun x => (x.From, x.To)
theorem op62 {s : St} {cs : List Value} {x : Span} {C : List Nat} (h : RdF kd62 s cs x C) : ∃ (v0 : Value) (v1 : Value) (v2 : Value) (v3 : Value), cs = [.int .i64 x.From.Kind, .int .i64 x.From.N, v0, v1, .int .i64 x.To.Kind, .int .i64 x.To.N, v2, v3] ∧ FL v0 x.From.F ∧ RdF (Kd.sl 5 (Kd.int .u8)) s [v1] x.From.T C ∧ FL v2 x.To.F ∧ RdF (Kd.sl 5 (Kd.int .u8)) s [v3] x.To.T C := by
  obtain ⟨_, _, rfl, ⟨_, _, rfl, rfl, ⟨_, _, rfl, rfl, ⟨_, _, rfl, ⟨v0, rfl, h0⟩, ⟨v1, rfl, h1⟩⟩⟩⟩, ⟨_, _, rfl, rfl, ⟨_, _, rfl, rfl, ⟨_, _, rfl, ⟨v2, rfl, h2⟩, ⟨v3, rfl, h3⟩⟩⟩⟩⟩ := h
  exact ⟨v0, v1, v2, v3, rfl, h0, ⟨_, rfl, h1⟩, h2, ⟨_, rfl, h3⟩⟩
theorem po62 {w : World} {cs : List Value} {x : Span} {os : List Nat} (h : kd62.ow w cs x os) : ∃ (v0 : Value) (v1 : Value) (v2 : Value) (v3 : Value) (p1 : List Nat) (p3 : List Nat), cs = [.int .i64 x.From.Kind, .int .i64 x.From.N, v0, v1, .int .i64 x.To.Kind, .int .i64 x.To.N, v2, v3] ∧ os = p1 ++ (p3) ∧ FL v0 x.From.F ∧ (Kd.sl 5 (Kd.int .u8)).ow w [v1] x.From.T p1 ∧ FL v2 x.To.F ∧ (Kd.sl 5 (Kd.int .u8)).ow w [v3] x.To.T p3 := by
  obtain ⟨_, _, _, _, rfl, rfl, ⟨_, _, _, _, rfl, rfl, ⟨rfl, rfl⟩, ⟨_, _, _, _, rfl, rfl, ⟨rfl, rfl⟩, ⟨_, _, _, p1, rfl, rfl, ⟨⟨v0, rfl, h0⟩, rfl⟩, ⟨v1, rfl, h1⟩⟩⟩⟩, ⟨_, _, _, _, rfl, rfl, ⟨rfl, rfl⟩, ⟨_, _, _, _, rfl, rfl, ⟨rfl, rfl⟩, ⟨_, _, _, p3, rfl, rfl, ⟨⟨v2, rfl, h2⟩, rfl⟩, ⟨v3, rfl, h3⟩⟩⟩⟩⟩ := h
  exact ⟨_, _, _, _, p1, p3, rfl, by simp, h0, ⟨_, rfl, h1⟩, h2, ⟨_, rfl, h3⟩⟩
theorem ap62 {s : St} {x : Span} {z0 z1 z4 z5 v0 v1 v2 v3 : Value} {c : Nat} (c1 : Nat) (h : OwF kd62 s [z0, z1, v0, v1, z4, z5, v2, v3] x c) (h40 : Nat.ble 40 c = true) : ∃ s', s.w = s'.w ∧ Stp [c] s s' ∧ FL v0 x.From.F ∧ OwF (Kd.sl 5 (Kd.int .u8)) s' [v1] x.From.T c ∧ FL v2 x.To.F ∧ OwF (Kd.sl 5 (Kd.int .u8)) s' [v3] x.To.T c1 := by
  obtain ⟨os, ho, hn, hc⟩ := h
  obtain ⟨u0, u1, u2, u3, p1, p3, e, eo, h0, h1, h2, h3⟩ := po62 ho
  have y0 : v0 = u0 := congrArg (fun l => (List.drop 2 l).headD undef) e
  have y1 : v1 = u1 := congrArg (fun l => (List.drop 3 l).headD undef) e
  have y2 : v2 = u2 := congrArg (fun l => (List.drop 6 l).headD undef) e
  have y3 : v3 = u3 := congrArg (fun l => (List.drop 7 l).headD undef) e
  subst y0
  subst y1
  subst y2
  subst y3
  subst eo
  obtain ⟨s0, w0, p_0, A1, hn0, hc0⟩ := sp2 c1 h1 hn hc h40
  exact ⟨s0, w0, p_0, h0, A1, h2, sp1 (w0 ▸ h3) hn0 hc0⟩
theorem mk62 {s : St} {x : Span} {C : List Nat} {v0 : Value} {v1 : Value} {v2 : Value} {v3 : Value} (h0 : FL v0 x.From.F) (h1 : RdF (Kd.sl 5 (Kd.int .u8)) s [v1] x.From.T C) (h2 : FL v2 x.To.F) (h3 : RdF (Kd.sl 5 (Kd.int .u8)) s [v3] x.To.T C) : RdF kd62 s [.int .i64 x.From.Kind, .int .i64 x.From.N, v0, v1, .int .i64 x.To.Kind, .int .i64 x.To.N, v2, v3] x C := ⟨[.int .i64 x.From.Kind, .int .i64 x.From.N, v0, v1], [.int .i64 x.To.Kind, .int .i64 x.To.N, v2, v3], rfl, ⟨[.int .i64 x.From.Kind], [.int .i64 x.From.N, v0, v1], rfl, rfl, ⟨[.int .i64 x.From.N], [v0, v1], rfl, rfl, ⟨[v0], [v1], rfl, (fl_rd h0), h1⟩⟩⟩, ⟨[.int .i64 x.To.Kind], [.int .i64 x.To.N, v2, v3], rfl, rfl, ⟨[.int .i64 x.To.N], [v2, v3], rfl, rfl, ⟨[v2], [v3], rfl, (fl_rd h2), h3⟩⟩⟩⟩
def kd27 : Kd Track := Kd.iso (Kd.pair (Kd.int .i64) (Kd.pair (Kd.int .i64) (Kd.pair (Kd.int .i64) (Kd.pair Kd.bool (Kd.pair (Kd.sl 62 kd62) (Kd.pair (Kd.sl 60 kd60) (Kd.pair Kd.bool Kd.bool))))))) fun x => (x.Xid, x.Begun, x.Ended, x.All, x.Reads, x.Writes, x.In, x.Out)
theorem op27 {s : St} {cs : List Value} {x : Track} {C : List Nat} (h : RdF kd27 s cs x C) : ∃ (v0 : Value) (v1 : Value), cs = [.int .i64 x.Xid, .int .i64 x.Begun, .int .i64 x.Ended, .bool x.All, v0, v1, .bool x.In, .bool x.Out] ∧ RdF (Kd.sl 62 kd62) s [v0] x.Reads C ∧ RdF (Kd.sl 60 kd60) s [v1] x.Writes C := by
  obtain ⟨_, _, rfl, rfl, ⟨_, _, rfl, rfl, ⟨_, _, rfl, rfl, ⟨_, _, rfl, rfl, ⟨_, _, rfl, ⟨v0, rfl, h0⟩, ⟨_, _, rfl, ⟨v1, rfl, h1⟩, ⟨_, _, rfl, rfl, rfl⟩⟩⟩⟩⟩⟩⟩ := h
  exact ⟨v0, v1, rfl, ⟨_, rfl, h0⟩, ⟨_, rfl, h1⟩⟩
theorem mk27 {s : St} {x : Track} {C : List Nat} {v0 : Value} {v1 : Value} (h0 : RdF (Kd.sl 62 kd62) s [v0] x.Reads C) (h1 : RdF (Kd.sl 60 kd60) s [v1] x.Writes C) : RdF kd27 s [.int .i64 x.Xid, .int .i64 x.Begun, .int .i64 x.Ended, .bool x.All, v0, v1, .bool x.In, .bool x.Out] x C := ⟨[.int .i64 x.Xid], [.int .i64 x.Begun, .int .i64 x.Ended, .bool x.All, v0, v1, .bool x.In, .bool x.Out], rfl, rfl, ⟨[.int .i64 x.Begun], [.int .i64 x.Ended, .bool x.All, v0, v1, .bool x.In, .bool x.Out], rfl, rfl, ⟨[.int .i64 x.Ended], [.bool x.All, v0, v1, .bool x.In, .bool x.Out], rfl, rfl, ⟨[.bool x.All], [v0, v1, .bool x.In, .bool x.Out], rfl, rfl, ⟨[v0], [v1, .bool x.In, .bool x.Out], rfl, h0, ⟨[v1], [.bool x.In, .bool x.Out], rfl, h1, ⟨[.bool x.In], [.bool x.Out], rfl, rfl, rfl⟩⟩⟩⟩⟩⟩⟩
def ok_Item (x : Item) : Prop := InK .i64 x.Kind ∧ InK .i64 x.N ∧ okF x.F ∧ (x.T.length ≤ maxLen ∧ ∀ y ∈ x.T, InK .u8 y)
def ok_Span (x : Span) : Prop := ok_Item x.From ∧ ok_Item x.To
def ok_Track (x : Track) : Prop := InK .i64 x.Xid ∧ InK .i64 x.Begun ∧ InK .i64 x.Ended ∧ True ∧ (x.Reads.length ≤ maxLen ∧ ∀ y ∈ x.Reads, ok_Span y) ∧ (x.Writes.length ≤ maxLen ∧ ∀ y ∈ x.Writes, ok_Item y) ∧ True ∧ True
theorem xn78 : Extern.findNext Try.f78 = none := by kernel_rfl
theorem xf78 : Extern.find Try.f78 = some Extern.MathFloatBits.float64bits := by kernel_rfl
theorem xn95 : Extern.findNext Try.f95 = none := by kernel_rfl
theorem xf95 : Extern.find Try.f95 = some Extern.BytealgCompare.compare := by kernel_rfl
theorem fa27_0 : ∀ (a : Addr) (w : World), (Instr.fieldAt 27 (.pointer (some a)) 0).run Try.prog w = .ok (.pointer (some (a.add 0))) w := fun _ _ => by kernel_rfl
theorem fa27_1 : ∀ (a : Addr) (w : World), (Instr.fieldAt 27 (.pointer (some a)) 1).run Try.prog w = .ok (.pointer (some (a.add 1))) w := fun _ _ => by kernel_rfl
theorem fa27_2 : ∀ (a : Addr) (w : World), (Instr.fieldAt 27 (.pointer (some a)) 2).run Try.prog w = .ok (.pointer (some (a.add 2))) w := fun _ _ => by kernel_rfl
theorem fa27_3 : ∀ (a : Addr) (w : World), (Instr.fieldAt 27 (.pointer (some a)) 3).run Try.prog w = .ok (.pointer (some (a.add 3))) w := fun _ _ => by kernel_rfl
theorem fa27_4 : ∀ (a : Addr) (w : World), (Instr.fieldAt 27 (.pointer (some a)) 4).run Try.prog w = .ok (.pointer (some (a.add 4))) w := fun _ _ => by kernel_rfl
theorem fa27_5 : ∀ (a : Addr) (w : World), (Instr.fieldAt 27 (.pointer (some a)) 5).run Try.prog w = .ok (.pointer (some (a.add 5))) w := fun _ _ => by kernel_rfl
theorem fa27_6 : ∀ (a : Addr) (w : World), (Instr.fieldAt 27 (.pointer (some a)) 6).run Try.prog w = .ok (.pointer (some (a.add 6))) w := fun _ _ => by kernel_rfl
theorem fa27_7 : ∀ (a : Addr) (w : World), (Instr.fieldAt 27 (.pointer (some a)) 7).run Try.prog w = .ok (.pointer (some (a.add 7))) w := fun _ _ => by kernel_rfl
theorem fa54_0 : ∀ (a : Addr) (w : World), (Instr.fieldAt 54 (.pointer (some a)) 0).run Try.prog w = .ok (.pointer (some (a.add 0))) w := fun _ _ => by kernel_rfl
theorem fa54_1 : ∀ (a : Addr) (w : World), (Instr.fieldAt 54 (.pointer (some a)) 1).run Try.prog w = .ok (.pointer (some (a.add 1))) w := fun _ _ => by kernel_rfl
theorem fa54_2 : ∀ (a : Addr) (w : World), (Instr.fieldAt 54 (.pointer (some a)) 2).run Try.prog w = .ok (.pointer (some (a.add 2))) w := fun _ _ => by kernel_rfl
theorem fa60_0 : ∀ (a : Addr) (w : World), (Instr.fieldAt 60 (.pointer (some a)) 0).run Try.prog w = .ok (.pointer (some (a.add 0))) w := fun _ _ => by kernel_rfl
theorem fa60_1 : ∀ (a : Addr) (w : World), (Instr.fieldAt 60 (.pointer (some a)) 1).run Try.prog w = .ok (.pointer (some (a.add 1))) w := fun _ _ => by kernel_rfl
theorem fa60_2 : ∀ (a : Addr) (w : World), (Instr.fieldAt 60 (.pointer (some a)) 2).run Try.prog w = .ok (.pointer (some (a.add 2))) w := fun _ _ => by kernel_rfl
theorem fa60_3 : ∀ (a : Addr) (w : World), (Instr.fieldAt 60 (.pointer (some a)) 3).run Try.prog w = .ok (.pointer (some (a.add 3))) w := fun _ _ => by kernel_rfl
theorem fa62_0 : ∀ (a : Addr) (w : World), (Instr.fieldAt 62 (.pointer (some a)) 0).run Try.prog w = .ok (.pointer (some (a.add 0))) w := fun _ _ => by kernel_rfl
theorem fa62_1 : ∀ (a : Addr) (w : World), (Instr.fieldAt 62 (.pointer (some a)) 1).run Try.prog w = .ok (.pointer (some (a.add 4))) w := fun _ _ => by kernel_rfl
theorem o27 : (Try.prog.info? 27).bind (·.zero) = some (.agg #[.int .i64 0, .int .i64 0, .int .i64 0, .bool false, .slice none 0 0, .slice none 0 0, .bool false, .bool false]) := by kernel_rfl
theorem o3 : (Try.prog.info? 3).bind (·.zero) = some (.int .i64 0) := by kernel_rfl
theorem o4 : (Try.prog.info? 4).bind (·.zero) = some (.bool false) := by kernel_rfl
theorem o5 : (Try.prog.info? 5).bind (·.zero) = some (.int .u8 0) := by kernel_rfl
theorem o54 : (Try.prog.info? 54).bind (·.zero) = some (.agg #[.slice none 0 0, .int .i64 0, .int .i64 0]) := by kernel_rfl
theorem o60 : (Try.prog.info? 60).bind (·.zero) = some (.agg #[.int .i64 0, .int .i64 0, .float .f64 0, .slice none 0 0]) := by kernel_rfl
theorem o62 : (Try.prog.info? 62).bind (·.zero) = some (.agg #[.int .i64 0, .int .i64 0, .float .f64 0, .slice none 0 0, .int .i64 0, .int .i64 0, .float .f64 0, .slice none 0 0]) := by kernel_rfl
theorem pl27 : PlF Try.prog 27 #[(0, 1), (1, 1), (2, 1), (3, 1), (4, 1), (5, 1), (6, 1), (7, 1)] := ⟨_, Try.underlying27, fun _ => by kernel_rfl⟩
theorem pl54 : PlF Try.prog 54 #[(0, 1), (1, 1), (2, 1)] := ⟨_, Try.underlying54, fun _ => by kernel_rfl⟩
theorem pl60 : PlF Try.prog 60 #[(0, 1), (1, 1), (2, 1), (3, 1)] := ⟨_, Try.underlying60, fun _ => by kernel_rfl⟩
theorem pl62 : PlF Try.prog 62 #[(0, 4), (4, 4)] := ⟨_, Try.underlying62, fun _ => by kernel_rfl⟩
theorem sl22 : SlT Try.prog 22 5 1 := SlT.mk (by_ := 1) (z := (.int .u8 0)) Try.underlying22 (by kernel_rfl) rfl rfl rfl
theorem sl24 : SlT Try.prog 24 62 8 := SlT.mk (by_ := 96) (z := (.agg #[.int .i64 0, .int .i64 0, .float .f64 0, .slice none 0 0, .int .i64 0, .int .i64 0, .float .f64 0, .slice none 0 0])) Try.underlying24 (by kernel_rfl) rfl rfl rfl
theorem sl25 : SlT Try.prog 25 60 4 := SlT.mk (by_ := 48) (z := (.agg #[.int .i64 0, .int .i64 0, .float .f64 0, .slice none 0 0])) Try.underlying25 (by kernel_rfl) rfl rfl rfl
theorem sl30 : SlT Try.prog 30 27 8 := SlT.mk (by_ := 88) (z := (.agg #[.int .i64 0, .int .i64 0, .int .i64 0, .bool false, .slice none 0 0, .slice none 0 0, .bool false, .bool false])) Try.underlying30 (by kernel_rfl) rfl rfl rfl
theorem z22 : (Try.prog.info? 22).map (·.size) = some 1 := by kernel_rfl
theorem z24 : (Try.prog.info? 24).map (·.size) = some 1 := by kernel_rfl
theorem z25 : (Try.prog.info? 25).map (·.size) = some 1 := by kernel_rfl
theorem z27 : (Try.prog.info? 27).map (·.size) = some 8 := by kernel_rfl
theorem z3 : (Try.prog.info? 3).map (·.size) = some 1 := by kernel_rfl
theorem z4 : (Try.prog.info? 4).map (·.size) = some 1 := by kernel_rfl
theorem z5 : (Try.prog.info? 5).map (·.size) = some 1 := by kernel_rfl
theorem z58 : (Try.prog.info? 58).map (·.size) = some 1 := by kernel_rfl
theorem z60 : (Try.prog.info? 60).map (·.size) = some 4 := by kernel_rfl
theorem z62 : (Try.prog.info? 62).map (·.size) = some 8 := by kernel_rfl
abbrev Yc := Kd.sl 27 kd27
abbrev Yd := Kd.sl 5 (Kd.int .u8)
abbrev Ye := Kd.sl 60 kd60
abbrev Yf := Kd.sl 62 kd62
abbrev u3 := Try.underlying3
abbrev u4 := Try.underlying4
abbrev u5 := Try.underlying5
abbrev u22 := Try.underlying22
abbrev u24 := Try.underlying24
abbrev u25 := Try.underlying25
abbrev u27 := Try.underlying27
abbrev u30 := Try.underlying30
abbrev u50 := Try.underlying50
abbrev u58 := Try.underlying58
abbrev u60 := Try.underlying60
abbrev u62 := Try.underlying62
abbrev u67 := Try.underlying67
abbrev u73 := Try.underlying73
abbrev u74 := Try.underlying74
abbrev u78 := Try.underlying78
abbrev u88 := Try.underlying88
end Go.Proofs.Ytcgbhldenkeplaa
