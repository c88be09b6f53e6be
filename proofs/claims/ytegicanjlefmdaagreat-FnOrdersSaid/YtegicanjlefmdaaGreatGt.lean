import Derived.Test.YtegicanjlefmdaaGreatProg
import Derived.Test.YtegicanjlefmdaaGreatG2
import Derived.KernelRfl

set_option linter.unusedVariables false
set_option linter.unusedSimpArgs false
namespace Go.Proofs.YtegicanjlefmdaaGreat
open Go V
structure Page where
  Lsn : Int
  Slots : (List (List Int))
  deriving Inhabited, DecidableEq
structure Heap where
  Pages : (List Page)
  deriving Inhabited, DecidableEq
structure Item where
  Kind : Int
  N : Int
  F : Nat
  T : (List Int)
  deriving Inhabited, DecidableEq
structure Tuple where
  Xmin : Int
  Xmax : Int
  Key : Item
  Value : Item
  deriving Inhabited, DecidableEq
structure Row where
  Page : Int
  Slot : Int
  Tuple : Tuple
  deriving Inhabited, DecidableEq
structure A2Int where
  e0 : Int
  e1 : Int
  deriving Inhabited, DecidableEq
structure Record where
  Kind : Int
  Lsn : Int
  Xid : Int
  Page : Int
  Slot : Int
  Data : (List Int)
  deriving Inhabited, DecidableEq
structure Span where
  From : Item
  To : Item
  deriving Inhabited, DecidableEq
structure Deed where
  Xid : Int
  Begun : Int
  Ended : Int
  Reads : (List Span)
  Writes : (List Item)
  deriving Inhabited, DecidableEq
structure Pair where
  Key : Item
  Value : Item
  deriving Inhabited, DecidableEq
structure l1Cur where
  b : (List Int)
  i : Int
  h : Int
  deriving Inhabited, DecidableEq
def kd29 : Kd Item := Kd.iso (Kd.pair (Kd.int .i64) (Kd.pair (Kd.int .i64) (Kd.pair Kd.flt (Kd.sl 5 (Kd.int .u8))))) fun x => (x.Kind, x.N, x.F, x.T)
theorem op29 {s : St} {cs : List Value} {x : Item} {C : List Nat} (h : RdF kd29 s cs x C) : ∃ (v0 : Value) (v1 : Value), cs = [.int .i64 x.Kind, .int .i64 x.N, v0, v1] ∧ FL v0 x.F ∧ RdF (Kd.sl 5 (Kd.int .u8)) s [v1] x.T C := by
  obtain ⟨_, _, rfl, rfl, ⟨_, _, rfl, rfl, ⟨_, _, rfl, ⟨v0, rfl, h0⟩, ⟨v1, rfl, h1⟩⟩⟩⟩ := h
  exact ⟨v0, v1, rfl, h0, ⟨_, rfl, h1⟩⟩
theorem po29 {w : World} {cs : List Value} {x : Item} {os : List Nat} (h : kd29.ow w cs x os) : ∃ (v0 : Value) (v1 : Value) (p1 : List Nat), cs = [.int .i64 x.Kind, .int .i64 x.N, v0, v1] ∧ os = p1 ∧ FL v0 x.F ∧ (Kd.sl 5 (Kd.int .u8)).ow w [v1] x.T p1 := by
  obtain ⟨_, _, _, _, rfl, rfl, ⟨rfl, rfl⟩, ⟨_, _, _, _, rfl, rfl, ⟨rfl, rfl⟩, ⟨_, _, _, p1, rfl, rfl, ⟨⟨v0, rfl, h0⟩, rfl⟩, ⟨v1, rfl, h1⟩⟩⟩⟩ := h
  exact ⟨_, _, p1, rfl, by simp, h0, ⟨_, rfl, h1⟩⟩
theorem ap29 {s : St} {x : Item} {v0 v1 : Value} {c : Nat} (h : OwF kd29 s [.int .i64 x.Kind, .int .i64 x.N, v0, v1] x c) : FL v0 x.F ∧ OwF (Kd.sl 5 (Kd.int .u8)) s [v1] x.T c := by
  obtain ⟨os, ho, hn, hc⟩ := h
  obtain ⟨u0, u1, p1, e, eo, h0, h1⟩ := po29 ho
  have y0 : v0 = u0 := congrArg (fun l => (List.drop 2 l).headD undef) e
  have y1 : v1 = u1 := congrArg (fun l => (List.drop 3 l).headD undef) e
  subst y0
  subst y1
  subst eo
  exact ⟨h0, sp1 h1 hn hc⟩
def kd70 : Kd A2Int := Kd.iso (Kd.pair (Kd.int .i64) (Kd.int .i64)) fun x => (x.e0, x.e1)
theorem op70 {s : St} {cs : List Value} {x : A2Int} {C : List Nat} (h : RdF kd70 s cs x C) : cs = [.int .i64 x.e0, .int .i64 x.e1] := by
  obtain ⟨_, _, rfl, rfl, rfl⟩ := h
  rfl
def kd146 : Kd Span := Kd.iso (Kd.pair kd29 kd29) fun x => (x.From, x.To)
theorem op146 {s : St} {cs : List Value} {x : Span} {C : List Nat} (h : RdF kd146 s cs x C) : ∃ (v0 : Value) (v1 : Value) (v2 : Value) (v3 : Value), cs = [.int .i64 x.From.Kind, .int .i64 x.From.N, v0, v1, .int .i64 x.To.Kind, .int .i64 x.To.N, v2, v3] ∧ FL v0 x.From.F ∧ RdF (Kd.sl 5 (Kd.int .u8)) s [v1] x.From.T C ∧ FL v2 x.To.F ∧ RdF (Kd.sl 5 (Kd.int .u8)) s [v3] x.To.T C := by
  obtain ⟨_, _, rfl, ⟨_, _, rfl, rfl, ⟨_, _, rfl, rfl, ⟨_, _, rfl, ⟨v0, rfl, h0⟩, ⟨v1, rfl, h1⟩⟩⟩⟩, ⟨_, _, rfl, rfl, ⟨_, _, rfl, rfl, ⟨_, _, rfl, ⟨v2, rfl, h2⟩, ⟨v3, rfl, h3⟩⟩⟩⟩⟩ := h
  exact ⟨v0, v1, v2, v3, rfl, h0, ⟨_, rfl, h1⟩, h2, ⟨_, rfl, h3⟩⟩
theorem po146 {w : World} {cs : List Value} {x : Span} {os : List Nat} (h : kd146.ow w cs x os) : ∃ (v0 : Value) (v1 : Value) (v2 : Value) (v3 : Value) (p1 : List Nat) (p3 : List Nat), cs = [.int .i64 x.From.Kind, .int .i64 x.From.N, v0, v1, .int .i64 x.To.Kind, .int .i64 x.To.N, v2, v3] ∧ os = p1 ++ (p3) ∧ FL v0 x.From.F ∧ (Kd.sl 5 (Kd.int .u8)).ow w [v1] x.From.T p1 ∧ FL v2 x.To.F ∧ (Kd.sl 5 (Kd.int .u8)).ow w [v3] x.To.T p3 := by
  obtain ⟨_, _, _, _, rfl, rfl, ⟨_, _, _, _, rfl, rfl, ⟨rfl, rfl⟩, ⟨_, _, _, _, rfl, rfl, ⟨rfl, rfl⟩, ⟨_, _, _, p1, rfl, rfl, ⟨⟨v0, rfl, h0⟩, rfl⟩, ⟨v1, rfl, h1⟩⟩⟩⟩, ⟨_, _, _, _, rfl, rfl, ⟨rfl, rfl⟩, ⟨_, _, _, _, rfl, rfl, ⟨rfl, rfl⟩, ⟨_, _, _, p3, rfl, rfl, ⟨⟨v2, rfl, h2⟩, rfl⟩, ⟨v3, rfl, h3⟩⟩⟩⟩⟩ := h
  exact ⟨_, _, _, _, p1, p3, rfl, by simp, h0, ⟨_, rfl, h1⟩, h2, ⟨_, rfl, h3⟩⟩
theorem ap146 {s : St} {x : Span} {v0 v1 v2 v3 : Value} {c : Nat} (c1 : Nat) (h : OwF kd146 s [.int .i64 x.From.Kind, .int .i64 x.From.N, v0, v1, .int .i64 x.To.Kind, .int .i64 x.To.N, v2, v3] x c) (h40 : Nat.ble 40 c = true) : ∃ s', s.w = s'.w ∧ Stp [c] s s' ∧ FL v0 x.From.F ∧ OwF (Kd.sl 5 (Kd.int .u8)) s' [v1] x.From.T c ∧ FL v2 x.To.F ∧ OwF (Kd.sl 5 (Kd.int .u8)) s' [v3] x.To.T c1 := by
  obtain ⟨os, ho, hn, hc⟩ := h
  obtain ⟨u0, u1, u2, u3, p1, p3, e, eo, h0, h1, h2, h3⟩ := po146 ho
  have y0 : v0 = u0 := congrArg (fun l => (List.drop 2 l).headD undef) e
  have y1 : v1 = u1 := congrArg (fun l => (List.drop 3 l).headD undef) e
  have y2 : v2 = u2 := congrArg (fun l => (List.drop 6 l).headD undef) e
  have y3 : v3 = u3 := congrArg (fun l => (List.drop 7 l).headD undef) e
  subst y0
  subst y1
  subst y2
  subst y3
  subst eo
  obtain ⟨s0, w0, p_0, A1, hn0, hc0⟩ := sp2 c1 h1 hn hc h40
  exact ⟨s0, w0, p_0, h0, A1, h2, sp1 (w0 ▸ h3) hn0 hc0⟩
def kd143 : Kd Deed := Kd.iso (Kd.pair (Kd.int .i64) (Kd.pair (Kd.int .i64) (Kd.pair (Kd.int .i64) (Kd.pair (Kd.sl 146 kd146) (Kd.sl 29 kd29))))) fun x => (x.Xid, x.Begun, x.Ended, x.Reads, x.Writes)
theorem op143 {s : St} {cs : List Value} {x : Deed} {C : List Nat} (h : RdF kd143 s cs x C) : ∃ (v0 : Value) (v1 : Value), cs = [.int .i64 x.Xid, .int .i64 x.Begun, .int .i64 x.Ended, v0, v1] ∧ RdF (Kd.sl 146 kd146) s [v0] x.Reads C ∧ RdF (Kd.sl 29 kd29) s [v1] x.Writes C := by
  obtain ⟨_, _, rfl, rfl, ⟨_, _, rfl, rfl, ⟨_, _, rfl, rfl, ⟨_, _, rfl, ⟨v0, rfl, h0⟩, ⟨v1, rfl, h1⟩⟩⟩⟩⟩ := h
  exact ⟨v0, v1, rfl, ⟨_, rfl, h0⟩, ⟨_, rfl, h1⟩⟩
def ok_Item (x : Item) : Prop := InK .i64 x.Kind ∧ InK .i64 x.N ∧ okF x.F ∧ (x.T.length ≤ maxLen ∧ ∀ y ∈ x.T, InK .u8 y)
def ok_Span (x : Span) : Prop := ok_Item x.From ∧ ok_Item x.To
def ok_Deed (x : Deed) : Prop := InK .i64 x.Xid ∧ InK .i64 x.Begun ∧ InK .i64 x.Ended ∧ (x.Reads.length ≤ maxLen ∧ ∀ y ∈ x.Reads, ok_Span y) ∧ (x.Writes.length ≤ maxLen ∧ ∀ y ∈ x.Writes, ok_Item y)
theorem xn190 : Extern.findNext Tryz.f190 = none := by kernel_rfl
theorem xf190 : Extern.find Tryz.f190 = some Extern.MathFloatBits.float64bits := by kernel_rfl
theorem xn250 : Extern.findNext Tryz.f250 = none := by kernel_rfl
theorem xf250 : Extern.find Tryz.f250 = some Extern.BytealgCompare.compare := by kernel_rfl
theorem fa143_1 : ∀ (a : Addr) (w : World), (Instr.fieldAt 143 (.pointer (some a)) 1).run Tryz.prog w = .ok (.pointer (some (a.add 1))) w := fun _ _ => by kernel_rfl
theorem fa143_2 : ∀ (a : Addr) (w : World), (Instr.fieldAt 143 (.pointer (some a)) 2).run Tryz.prog w = .ok (.pointer (some (a.add 2))) w := fun _ _ => by kernel_rfl
theorem fa143_3 : ∀ (a : Addr) (w : World), (Instr.fieldAt 143 (.pointer (some a)) 3).run Tryz.prog w = .ok (.pointer (some (a.add 3))) w := fun _ _ => by kernel_rfl
theorem fa143_4 : ∀ (a : Addr) (w : World), (Instr.fieldAt 143 (.pointer (some a)) 4).run Tryz.prog w = .ok (.pointer (some (a.add 4))) w := fun _ _ => by kernel_rfl
theorem fa146_0 : ∀ (a : Addr) (w : World), (Instr.fieldAt 146 (.pointer (some a)) 0).run Tryz.prog w = .ok (.pointer (some (a.add 0))) w := fun _ _ => by kernel_rfl
theorem fa146_1 : ∀ (a : Addr) (w : World), (Instr.fieldAt 146 (.pointer (some a)) 1).run Tryz.prog w = .ok (.pointer (some (a.add 4))) w := fun _ _ => by kernel_rfl
theorem fa184_0 : ∀ (a : Addr) (w : World), (Instr.fieldAt 184 (.pointer (some a)) 0).run Tryz.prog w = .ok (.pointer (some (a.add 0))) w := fun _ _ => by kernel_rfl
theorem fa184_1 : ∀ (a : Addr) (w : World), (Instr.fieldAt 184 (.pointer (some a)) 1).run Tryz.prog w = .ok (.pointer (some (a.add 1))) w := fun _ _ => by kernel_rfl
theorem fa184_2 : ∀ (a : Addr) (w : World), (Instr.fieldAt 184 (.pointer (some a)) 2).run Tryz.prog w = .ok (.pointer (some (a.add 2))) w := fun _ _ => by kernel_rfl
theorem fa29_0 : ∀ (a : Addr) (w : World), (Instr.fieldAt 29 (.pointer (some a)) 0).run Tryz.prog w = .ok (.pointer (some (a.add 0))) w := fun _ _ => by kernel_rfl
theorem fa29_1 : ∀ (a : Addr) (w : World), (Instr.fieldAt 29 (.pointer (some a)) 1).run Tryz.prog w = .ok (.pointer (some (a.add 1))) w := fun _ _ => by kernel_rfl
theorem fa29_2 : ∀ (a : Addr) (w : World), (Instr.fieldAt 29 (.pointer (some a)) 2).run Tryz.prog w = .ok (.pointer (some (a.add 2))) w := fun _ _ => by kernel_rfl
theorem fa29_3 : ∀ (a : Addr) (w : World), (Instr.fieldAt 29 (.pointer (some a)) 3).run Tryz.prog w = .ok (.pointer (some (a.add 3))) w := fun _ _ => by kernel_rfl
theorem o143 : (Tryz.prog.info? 143).bind (·.zero) = some (.agg #[.int .i64 0, .int .i64 0, .int .i64 0, .slice none 0 0, .slice none 0 0]) := by kernel_rfl
theorem o146 : (Tryz.prog.info? 146).bind (·.zero) = some (.agg #[.int .i64 0, .int .i64 0, .float .f64 0, .slice none 0 0, .int .i64 0, .int .i64 0, .float .f64 0, .slice none 0 0]) := by kernel_rfl
theorem o156 : (Tryz.prog.info? 156).bind (·.zero) = some (.slice none 0 0) := by kernel_rfl
theorem o184 : (Tryz.prog.info? 184).bind (·.zero) = some (.agg #[.slice none 0 0, .int .i64 0, .int .i64 0]) := by kernel_rfl
theorem o29 : (Tryz.prog.info? 29).bind (·.zero) = some (.agg #[.int .i64 0, .int .i64 0, .float .f64 0, .slice none 0 0]) := by kernel_rfl
theorem o3 : (Tryz.prog.info? 3).bind (·.zero) = some (.int .i64 0) := by kernel_rfl
theorem o4 : (Tryz.prog.info? 4).bind (·.zero) = some (.bool false) := by kernel_rfl
theorem o5 : (Tryz.prog.info? 5).bind (·.zero) = some (.int .u8 0) := by kernel_rfl
theorem o50 : (Tryz.prog.info? 50).bind (·.zero) = some (.slice none 0 0) := by kernel_rfl
theorem o70 : (Tryz.prog.info? 70).bind (·.zero) = some (.agg #[.int .i64 0, .int .i64 0]) := by kernel_rfl
theorem pl143 : PlF Tryz.prog 143 #[(0, 1), (1, 1), (2, 1), (3, 1), (4, 1)] := ⟨_, Tryz.underlying143, fun _ => by kernel_rfl⟩
theorem pl146 : PlF Tryz.prog 146 #[(0, 4), (4, 4)] := ⟨_, Tryz.underlying146, fun _ => by kernel_rfl⟩
theorem pl184 : PlF Tryz.prog 184 #[(0, 1), (1, 1), (2, 1)] := ⟨_, Tryz.underlying184, fun _ => by kernel_rfl⟩
theorem pl29 : PlF Tryz.prog 29 #[(0, 1), (1, 1), (2, 1), (3, 1)] := ⟨_, Tryz.underlying29, fun _ => by kernel_rfl⟩
theorem sl140 : SlT Tryz.prog 140 146 8 := SlT.mk (by_ := 96) (z := (.agg #[.int .i64 0, .int .i64 0, .float .f64 0, .slice none 0 0, .int .i64 0, .int .i64 0, .float .f64 0, .slice none 0 0])) Tryz.underlying140 (by kernel_rfl) rfl rfl rfl
theorem sl141 : SlT Tryz.prog 141 29 4 := SlT.mk (by_ := 48) (z := (.agg #[.int .i64 0, .int .i64 0, .float .f64 0, .slice none 0 0])) Tryz.underlying141 (by kernel_rfl) rfl rfl rfl
theorem sl147 : SlT Tryz.prog 147 50 1 := SlT.mk (by_ := 24) (z := (.slice none 0 0)) Tryz.underlying147 (by kernel_rfl) rfl rfl rfl
theorem sl156 : SlT Tryz.prog 156 4 1 := SlT.mk (by_ := 1) (z := (.bool false)) Tryz.underlying156 (by kernel_rfl) rfl rfl rfl
theorem sl22 : SlT Tryz.prog 22 5 1 := SlT.mk (by_ := 1) (z := (.int .u8 0)) Tryz.underlying22 (by kernel_rfl) rfl rfl rfl
theorem sl50 : SlT Tryz.prog 50 3 1 := SlT.mk (by_ := 8) (z := (.int .i64 0)) Tryz.underlying50 (by kernel_rfl) rfl rfl rfl
theorem sl62 : SlT Tryz.prog 62 143 5 := SlT.mk (by_ := 72) (z := (.agg #[.int .i64 0, .int .i64 0, .int .i64 0, .slice none 0 0, .slice none 0 0])) Tryz.underlying62 (by kernel_rfl) rfl rfl rfl
theorem sl65 : SlT Tryz.prog 65 70 2 := SlT.mk (by_ := 16) (z := (.agg #[.int .i64 0, .int .i64 0])) Tryz.underlying65 (by kernel_rfl) rfl rfl rfl
theorem z140 : (Tryz.prog.info? 140).map (·.size) = some 1 := by kernel_rfl
theorem z141 : (Tryz.prog.info? 141).map (·.size) = some 1 := by kernel_rfl
theorem z143 : (Tryz.prog.info? 143).map (·.size) = some 5 := by kernel_rfl
theorem z146 : (Tryz.prog.info? 146).map (·.size) = some 8 := by kernel_rfl
theorem z156 : (Tryz.prog.info? 156).map (·.size) = some 1 := by kernel_rfl
theorem z22 : (Tryz.prog.info? 22).map (·.size) = some 1 := by kernel_rfl
theorem z27 : (Tryz.prog.info? 27).map (·.size) = some 1 := by kernel_rfl
theorem z29 : (Tryz.prog.info? 29).map (·.size) = some 4 := by kernel_rfl
theorem z3 : (Tryz.prog.info? 3).map (·.size) = some 1 := by kernel_rfl
theorem z4 : (Tryz.prog.info? 4).map (·.size) = some 1 := by kernel_rfl
theorem z5 : (Tryz.prog.info? 5).map (·.size) = some 1 := by kernel_rfl
theorem z50 : (Tryz.prog.info? 50).map (·.size) = some 1 := by kernel_rfl
theorem z70 : (Tryz.prog.info? 70).map (·.size) = some 2 := by kernel_rfl
abbrev Xx := Kd.sl 5 (Kd.int .u8)
abbrev Xy := Kd.sl 3 (Kd.int .i64)
abbrev Xz := Kd.sl 143 kd143
abbrev Ya := Kd.sl 29 kd29
abbrev Yb := Kd.sl 146 kd146
abbrev Yc := Kd.sl 70 kd70
abbrev u3 := Tryz.underlying3
abbrev u4 := Tryz.underlying4
abbrev u5 := Tryz.underlying5
abbrev u22 := Tryz.underlying22
abbrev u27 := Tryz.underlying27
abbrev u29 := Tryz.underlying29
abbrev u50 := Tryz.underlying50
abbrev u55 := Tryz.underlying55
abbrev u62 := Tryz.underlying62
abbrev u65 := Tryz.underlying65
abbrev u70 := Tryz.underlying70
abbrev u129 := Tryz.underlying129
abbrev u140 := Tryz.underlying140
abbrev u141 := Tryz.underlying141
abbrev u143 := Tryz.underlying143
abbrev u144 := Tryz.underlying144
abbrev u146 := Tryz.underlying146
abbrev u147 := Tryz.underlying147
abbrev u153 := Tryz.underlying153
abbrev u156 := Tryz.underlying156
abbrev u162 := Tryz.underlying162
abbrev u212 := Tryz.underlying212
end Go.Proofs.YtegicanjlefmdaaGreat
