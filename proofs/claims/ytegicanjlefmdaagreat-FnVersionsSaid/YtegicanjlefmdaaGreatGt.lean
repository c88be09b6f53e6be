import Derived.Test.YtegicanjlefmdaaGreatProg
import Derived.Test.YtegicanjlefmdaaGreatG2
import Derived.KernelRfl

set_option linter.unusedVariables false
set_option linter.unusedSimpArgs false
namespace Go.Proofs.YtegicanjlefmdaaGreat
open Go V
structure Page where
  Lsn : Int
  Slots : (List (List Int))
  deriving Inhabited, DecidableEq
structure Heap where
  Pages : (List Page)
  deriving Inhabited, DecidableEq
structure Item where
  Kind : Int
  N : Int
  F : Nat
  T : (List Int)
  deriving Inhabited, DecidableEq
structure Tuple where
  Xmin : Int
  Xmax : Int
  Key : Item
  Value : Item
  deriving Inhabited, DecidableEq
structure Row where
  Page : Int
  Slot : Int
  Tuple : Tuple
  deriving Inhabited, DecidableEq
structure A2Int where
  e0 : Int
  e1 : Int
  deriving Inhabited, DecidableEq
structure Record where
  Kind : Int
  Lsn : Int
  Xid : Int
  Page : Int
  Slot : Int
  Data : (List Int)
  deriving Inhabited, DecidableEq
structure Span where
  From : Item
  To : Item
  deriving Inhabited, DecidableEq
structure Deed where
  Xid : Int
  Begun : Int
  Ended : Int
  Reads : (List Span)
  Writes : (List Item)
  deriving Inhabited, DecidableEq
structure Pair where
  Key : Item
  Value : Item
  deriving Inhabited, DecidableEq
structure l1Cur where
  b : (List Int)
  i : Int
  h : Int
  deriving Inhabited, DecidableEq
def kd116 : Kd Page := Kd.iso (Kd.pair (Kd.int .i64) (Kd.sl 22 (Kd.sl 5 (Kd.int .u8)))) fun x => (x.Lsn, x.Slots)
theorem op116 {s : St} {cs : List Value} {x : Page} {C : List Nat} (h : RdF kd116 s cs x C) : ∃ (v0 : Value), cs = [.int .i64 x.Lsn, v0] ∧ RdF (Kd.sl 22 (Kd.sl 5 (Kd.int .u8))) s [v0] x.Slots C := by
  obtain ⟨_, _, rfl, rfl, ⟨v0, rfl, h0⟩⟩ := h
  exact ⟨v0, rfl, ⟨_, rfl, h0⟩⟩
theorem po116 {w : World} {cs : List Value} {x : Page} {os : List Nat} (h : kd116.ow w cs x os) : ∃ (v0 : Value) (p0 : List Nat), cs = [.int .i64 x.Lsn, v0] ∧ os = p0 ∧ (Kd.sl 22 (Kd.sl 5 (Kd.int .u8))).ow w [v0] x.Slots p0 := by
  obtain ⟨_, _, _, p0, rfl, rfl, ⟨rfl, rfl⟩, ⟨v0, rfl, h0⟩⟩ := h
  exact ⟨_, p0, rfl, by simp, ⟨_, rfl, h0⟩⟩
theorem ap116 {s : St} {x : Page} {v0 : Value} {c : Nat} (h : OwF kd116 s [.int .i64 x.Lsn, v0] x c) : OwF (Kd.sl 22 (Kd.sl 5 (Kd.int .u8))) s [v0] x.Slots c := by
  obtain ⟨os, ho, hn, hc⟩ := h
  obtain ⟨u0, p0, e, eo, h0⟩ := po116 ho
  have y0 : v0 = u0 := congrArg (fun l => (List.drop 1 l).headD undef) e
  subst y0
  subst eo
  exact sp1 h0 hn hc
def kd26 : Kd Heap := Kd.iso (Kd.sl 116 kd116) fun x => (x.Pages)
theorem po26 {w : World} {cs : List Value} {x : Heap} {os : List Nat} (h : kd26.ow w cs x os) : ∃ (v0 : Value) (p0 : List Nat), cs = [v0] ∧ os = p0 ∧ (Kd.sl 116 kd116).ow w [v0] x.Pages p0 := by
  obtain ⟨v0, rfl, h0⟩ := h
  exact ⟨_, _, rfl, rfl, ⟨_, rfl, h0⟩⟩
theorem ap26 {s : St} {x : Heap} {v0 : Value} {c : Nat} (h : OwF kd26 s [v0] x c) : OwF (Kd.sl 116 kd116) s [v0] x.Pages c := by
  obtain ⟨os, ho, hn, hc⟩ := h
  obtain ⟨u0, p0, e, eo, h0⟩ := po26 ho
  have y0 : v0 = u0 := congrArg (fun l => (List.drop 0 l).headD undef) e
  subst y0
  subst eo
  exact sp1 h0 hn hc
def kd29 : Kd Item := Kd.iso (Kd.pair (Kd.int .i64) (Kd.pair (Kd.int .i64) (Kd.pair Kd.flt (Kd.sl 5 (Kd.int .u8))))) fun x => (x.Kind, x.N, x.F, x.T)
theorem po29 {w : World} {cs : List Value} {x : Item} {os : List Nat} (h : kd29.ow w cs x os) : ∃ (v0 : Value) (v1 : Value) (p1 : List Nat), cs = [.int .i64 x.Kind, .int .i64 x.N, v0, v1] ∧ os = p1 ∧ FL v0 x.F ∧ (Kd.sl 5 (Kd.int .u8)).ow w [v1] x.T p1 := by
  obtain ⟨_, _, _, _, rfl, rfl, ⟨rfl, rfl⟩, ⟨_, _, _, _, rfl, rfl, ⟨rfl, rfl⟩, ⟨_, _, _, p1, rfl, rfl, ⟨⟨v0, rfl, h0⟩, rfl⟩, ⟨v1, rfl, h1⟩⟩⟩⟩ := h
  exact ⟨_, _, p1, rfl, by simp, h0, ⟨_, rfl, h1⟩⟩
theorem ap29 {s : St} {x : Item} {v0 v1 : Value} {c : Nat} (h : OwF kd29 s [.int .i64 x.Kind, .int .i64 x.N, v0, v1] x c) : FL v0 x.F ∧ OwF (Kd.sl 5 (Kd.int .u8)) s [v1] x.T c := by
  obtain ⟨os, ho, hn, hc⟩ := h
  obtain ⟨u0, u1, p1, e, eo, h0, h1⟩ := po29 ho
  have y0 : v0 = u0 := congrArg (fun l => (List.drop 2 l).headD undef) e
  have y1 : v1 = u1 := congrArg (fun l => (List.drop 3 l).headD undef) e
  subst y0
  subst y1
  subst eo
  exact ⟨h0, sp1 h1 hn hc⟩
def kd31 : Kd Tuple := Kd.iso (Kd.pair (Kd.int .i64) (Kd.pair (Kd.int .i64) (Kd.pair kd29 kd29))) fun x => (x.Xmin, x.Xmax, x.Key, x.Value)
theorem po31 {w : World} {cs : List Value} {x : Tuple} {os : List Nat} (h : kd31.ow w cs x os) : ∃ (v0 : Value) (v1 : Value) (v2 : Value) (v3 : Value) (p1 : List Nat) (p3 : List Nat), cs = [.int .i64 x.Xmin, .int .i64 x.Xmax, .int .i64 x.Key.Kind, .int .i64 x.Key.N, v0, v1, .int .i64 x.Value.Kind, .int .i64 x.Value.N, v2, v3] ∧ os = p1 ++ (p3) ∧ FL v0 x.Key.F ∧ (Kd.sl 5 (Kd.int .u8)).ow w [v1] x.Key.T p1 ∧ FL v2 x.Value.F ∧ (Kd.sl 5 (Kd.int .u8)).ow w [v3] x.Value.T p3 := by
  obtain ⟨_, _, _, _, rfl, rfl, ⟨rfl, rfl⟩, ⟨_, _, _, _, rfl, rfl, ⟨rfl, rfl⟩, ⟨_, _, _, _, rfl, rfl, ⟨_, _, _, _, rfl, rfl, ⟨rfl, rfl⟩, ⟨_, _, _, _, rfl, rfl, ⟨rfl, rfl⟩, ⟨_, _, _, p1, rfl, rfl, ⟨⟨v0, rfl, h0⟩, rfl⟩, ⟨v1, rfl, h1⟩⟩⟩⟩, ⟨_, _, _, _, rfl, rfl, ⟨rfl, rfl⟩, ⟨_, _, _, _, rfl, rfl, ⟨rfl, rfl⟩, ⟨_, _, _, p3, rfl, rfl, ⟨⟨v2, rfl, h2⟩, rfl⟩, ⟨v3, rfl, h3⟩⟩⟩⟩⟩⟩⟩ := h
  exact ⟨_, _, _, _, p1, p3, rfl, by simp, h0, ⟨_, rfl, h1⟩, h2, ⟨_, rfl, h3⟩⟩
theorem ap31 {s : St} {x : Tuple} {v0 v1 v2 v3 : Value} {c : Nat} (c1 : Nat) (h : OwF kd31 s [.int .i64 x.Xmin, .int .i64 x.Xmax, .int .i64 x.Key.Kind, .int .i64 x.Key.N, v0, v1, .int .i64 x.Value.Kind, .int .i64 x.Value.N, v2, v3] x c) (h40 : Nat.ble 40 c = true) : ∃ s', s.w = s'.w ∧ Stp [c] s s' ∧ FL v0 x.Key.F ∧ OwF (Kd.sl 5 (Kd.int .u8)) s' [v1] x.Key.T c ∧ FL v2 x.Value.F ∧ OwF (Kd.sl 5 (Kd.int .u8)) s' [v3] x.Value.T c1 := by
  obtain ⟨os, ho, hn, hc⟩ := h
  obtain ⟨u0, u1, u2, u3, p1, p3, e, eo, h0, h1, h2, h3⟩ := po31 ho
  have y0 : v0 = u0 := congrArg (fun l => (List.drop 4 l).headD undef) e
  have y1 : v1 = u1 := congrArg (fun l => (List.drop 5 l).headD undef) e
  have y2 : v2 = u2 := congrArg (fun l => (List.drop 8 l).headD undef) e
  have y3 : v3 = u3 := congrArg (fun l => (List.drop 9 l).headD undef) e
  subst y0
  subst y1
  subst y2
  subst y3
  subst eo
  obtain ⟨s0, w0, p_0, A1, hn0, hc0⟩ := sp2 c1 h1 hn hc h40
  exact ⟨s0, w0, p_0, h0, A1, h2, sp1 (w0 ▸ h3) hn0 hc0⟩
def kd47 : Kd Row := Kd.iso (Kd.pair (Kd.int .i64) (Kd.pair (Kd.int .i64) kd31)) fun x => (x.Page, x.Slot, x.Tuple)
theorem op47 {s : St} {cs : List Value} {x : Row} {C : List Nat} (h : RdF kd47 s cs x C) : ∃ (v0 : Value) (v1 : Value) (v2 : Value) (v3 : Value), cs = [.int .i64 x.Page, .int .i64 x.Slot, .int .i64 x.Tuple.Xmin, .int .i64 x.Tuple.Xmax, .int .i64 x.Tuple.Key.Kind, .int .i64 x.Tuple.Key.N, v0, v1, .int .i64 x.Tuple.Value.Kind, .int .i64 x.Tuple.Value.N, v2, v3] ∧ FL v0 x.Tuple.Key.F ∧ RdF (Kd.sl 5 (Kd.int .u8)) s [v1] x.Tuple.Key.T C ∧ FL v2 x.Tuple.Value.F ∧ RdF (Kd.sl 5 (Kd.int .u8)) s [v3] x.Tuple.Value.T C := by
  obtain ⟨_, _, rfl, rfl, ⟨_, _, rfl, rfl, ⟨_, _, rfl, rfl, ⟨_, _, rfl, rfl, ⟨_, _, rfl, ⟨_, _, rfl, rfl, ⟨_, _, rfl, rfl, ⟨_, _, rfl, ⟨v0, rfl, h0⟩, ⟨v1, rfl, h1⟩⟩⟩⟩, ⟨_, _, rfl, rfl, ⟨_, _, rfl, rfl, ⟨_, _, rfl, ⟨v2, rfl, h2⟩, ⟨v3, rfl, h3⟩⟩⟩⟩⟩⟩⟩⟩⟩ := h
  exact ⟨v0, v1, v2, v3, rfl, h0, ⟨_, rfl, h1⟩, h2, ⟨_, rfl, h3⟩⟩
def ok_Item (x : Item) : Prop := InK .i64 x.Kind ∧ InK .i64 x.N ∧ okF x.F ∧ (x.T.length ≤ maxLen ∧ ∀ y ∈ x.T, InK .u8 y)
def ok_Tuple (x : Tuple) : Prop := InK .i64 x.Xmin ∧ InK .i64 x.Xmax ∧ ok_Item x.Key ∧ ok_Item x.Value
theorem xn190 : Extern.findNext Tryz.f190 = none := by kernel_rfl
theorem xf190 : Extern.find Tryz.f190 = some Extern.MathFloatBits.float64bits := by kernel_rfl
theorem xn250 : Extern.findNext Tryz.f250 = none := by kernel_rfl
theorem xf250 : Extern.find Tryz.f250 = some Extern.BytealgCompare.compare := by kernel_rfl
theorem xn283 : Extern.findNext Tryz.f283 = none := by kernel_rfl
theorem xf283 : Extern.find Tryz.f283 = some Extern.MathFloatBits.float64frombits := by kernel_rfl
theorem fa116_0 : ∀ (a : Addr) (w : World), (Instr.fieldAt 116 (.pointer (some a)) 0).run Tryz.prog w = .ok (.pointer (some (a.add 0))) w := fun _ _ => by kernel_rfl
theorem fa116_1 : ∀ (a : Addr) (w : World), (Instr.fieldAt 116 (.pointer (some a)) 1).run Tryz.prog w = .ok (.pointer (some (a.add 1))) w := fun _ _ => by kernel_rfl
theorem fa184_0 : ∀ (a : Addr) (w : World), (Instr.fieldAt 184 (.pointer (some a)) 0).run Tryz.prog w = .ok (.pointer (some (a.add 0))) w := fun _ _ => by kernel_rfl
theorem fa184_1 : ∀ (a : Addr) (w : World), (Instr.fieldAt 184 (.pointer (some a)) 1).run Tryz.prog w = .ok (.pointer (some (a.add 1))) w := fun _ _ => by kernel_rfl
theorem fa184_2 : ∀ (a : Addr) (w : World), (Instr.fieldAt 184 (.pointer (some a)) 2).run Tryz.prog w = .ok (.pointer (some (a.add 2))) w := fun _ _ => by kernel_rfl
theorem fa26_0 : ∀ (a : Addr) (w : World), (Instr.fieldAt 26 (.pointer (some a)) 0).run Tryz.prog w = .ok (.pointer (some (a.add 0))) w := fun _ _ => by kernel_rfl
theorem fa29_0 : ∀ (a : Addr) (w : World), (Instr.fieldAt 29 (.pointer (some a)) 0).run Tryz.prog w = .ok (.pointer (some (a.add 0))) w := fun _ _ => by kernel_rfl
theorem fa29_1 : ∀ (a : Addr) (w : World), (Instr.fieldAt 29 (.pointer (some a)) 1).run Tryz.prog w = .ok (.pointer (some (a.add 1))) w := fun _ _ => by kernel_rfl
theorem fa29_2 : ∀ (a : Addr) (w : World), (Instr.fieldAt 29 (.pointer (some a)) 2).run Tryz.prog w = .ok (.pointer (some (a.add 2))) w := fun _ _ => by kernel_rfl
theorem fa29_3 : ∀ (a : Addr) (w : World), (Instr.fieldAt 29 (.pointer (some a)) 3).run Tryz.prog w = .ok (.pointer (some (a.add 3))) w := fun _ _ => by kernel_rfl
theorem fa31_0 : ∀ (a : Addr) (w : World), (Instr.fieldAt 31 (.pointer (some a)) 0).run Tryz.prog w = .ok (.pointer (some (a.add 0))) w := fun _ _ => by kernel_rfl
theorem fa31_1 : ∀ (a : Addr) (w : World), (Instr.fieldAt 31 (.pointer (some a)) 1).run Tryz.prog w = .ok (.pointer (some (a.add 1))) w := fun _ _ => by kernel_rfl
theorem fa31_2 : ∀ (a : Addr) (w : World), (Instr.fieldAt 31 (.pointer (some a)) 2).run Tryz.prog w = .ok (.pointer (some (a.add 2))) w := fun _ _ => by kernel_rfl
theorem fa31_3 : ∀ (a : Addr) (w : World), (Instr.fieldAt 31 (.pointer (some a)) 3).run Tryz.prog w = .ok (.pointer (some (a.add 6))) w := fun _ _ => by kernel_rfl
theorem fa47_0 : ∀ (a : Addr) (w : World), (Instr.fieldAt 47 (.pointer (some a)) 0).run Tryz.prog w = .ok (.pointer (some (a.add 0))) w := fun _ _ => by kernel_rfl
theorem fa47_1 : ∀ (a : Addr) (w : World), (Instr.fieldAt 47 (.pointer (some a)) 1).run Tryz.prog w = .ok (.pointer (some (a.add 1))) w := fun _ _ => by kernel_rfl
theorem fa47_2 : ∀ (a : Addr) (w : World), (Instr.fieldAt 47 (.pointer (some a)) 2).run Tryz.prog w = .ok (.pointer (some (a.add 2))) w := fun _ _ => by kernel_rfl
theorem o116 : (Tryz.prog.info? 116).bind (·.zero) = some (.agg #[.int .i64 0, .slice none 0 0]) := by kernel_rfl
theorem o184 : (Tryz.prog.info? 184).bind (·.zero) = some (.agg #[.slice none 0 0, .int .i64 0, .int .i64 0]) := by kernel_rfl
theorem o22 : (Tryz.prog.info? 22).bind (·.zero) = some (.slice none 0 0) := by kernel_rfl
theorem o26 : (Tryz.prog.info? 26).bind (·.zero) = some (.agg #[.slice none 0 0]) := by kernel_rfl
theorem o29 : (Tryz.prog.info? 29).bind (·.zero) = some (.agg #[.int .i64 0, .int .i64 0, .float .f64 0, .slice none 0 0]) := by kernel_rfl
theorem o3 : (Tryz.prog.info? 3).bind (·.zero) = some (.int .i64 0) := by kernel_rfl
theorem o31 : (Tryz.prog.info? 31).bind (·.zero) = some (.agg #[.int .i64 0, .int .i64 0, .int .i64 0, .int .i64 0, .float .f64 0, .slice none 0 0, .int .i64 0, .int .i64 0, .float .f64 0, .slice none 0 0]) := by kernel_rfl
theorem o47 : (Tryz.prog.info? 47).bind (·.zero) = some (.agg #[.int .i64 0, .int .i64 0, .int .i64 0, .int .i64 0, .int .i64 0, .int .i64 0, .float .f64 0, .slice none 0 0, .int .i64 0, .int .i64 0, .float .f64 0, .slice none 0 0]) := by kernel_rfl
theorem o5 : (Tryz.prog.info? 5).bind (·.zero) = some (.int .u8 0) := by kernel_rfl
theorem pl116 : PlF Tryz.prog 116 #[(0, 1), (1, 1)] := ⟨_, Tryz.underlying116, fun _ => by kernel_rfl⟩
theorem pl184 : PlF Tryz.prog 184 #[(0, 1), (1, 1), (2, 1)] := ⟨_, Tryz.underlying184, fun _ => by kernel_rfl⟩
theorem pl26 : PlF Tryz.prog 26 #[(0, 1)] := ⟨_, Tryz.underlying26, fun _ => by kernel_rfl⟩
theorem pl29 : PlF Tryz.prog 29 #[(0, 1), (1, 1), (2, 1), (3, 1)] := ⟨_, Tryz.underlying29, fun _ => by kernel_rfl⟩
theorem pl31 : PlF Tryz.prog 31 #[(0, 1), (1, 1), (2, 4), (6, 4)] := ⟨_, Tryz.underlying31, fun _ => by kernel_rfl⟩
theorem pl47 : PlF Tryz.prog 47 #[(0, 1), (1, 1), (2, 10)] := ⟨_, Tryz.underlying47, fun _ => by kernel_rfl⟩
theorem sl114 : SlT Tryz.prog 114 22 1 := SlT.mk (by_ := 24) (z := (.slice none 0 0)) Tryz.underlying114 (by kernel_rfl) rfl rfl rfl
theorem sl22 : SlT Tryz.prog 22 5 1 := SlT.mk (by_ := 1) (z := (.int .u8 0)) Tryz.underlying22 (by kernel_rfl) rfl rfl rfl
theorem sl24 : SlT Tryz.prog 24 116 2 := SlT.mk (by_ := 32) (z := (.agg #[.int .i64 0, .slice none 0 0])) Tryz.underlying24 (by kernel_rfl) rfl rfl rfl
theorem sl34 : SlT Tryz.prog 34 47 12 := SlT.mk (by_ := 128) (z := (.agg #[.int .i64 0, .int .i64 0, .int .i64 0, .int .i64 0, .int .i64 0, .int .i64 0, .float .f64 0, .slice none 0 0, .int .i64 0, .int .i64 0, .float .f64 0, .slice none 0 0])) Tryz.underlying34 (by kernel_rfl) rfl rfl rfl
theorem sl50 : SlT Tryz.prog 50 3 1 := SlT.mk (by_ := 8) (z := (.int .i64 0)) Tryz.underlying50 (by kernel_rfl) rfl rfl rfl
theorem z114 : (Tryz.prog.info? 114).map (·.size) = some 1 := by kernel_rfl
theorem z116 : (Tryz.prog.info? 116).map (·.size) = some 2 := by kernel_rfl
theorem z22 : (Tryz.prog.info? 22).map (·.size) = some 1 := by kernel_rfl
theorem z24 : (Tryz.prog.info? 24).map (·.size) = some 1 := by kernel_rfl
theorem z26 : (Tryz.prog.info? 26).map (·.size) = some 1 := by kernel_rfl
theorem z27 : (Tryz.prog.info? 27).map (·.size) = some 1 := by kernel_rfl
theorem z29 : (Tryz.prog.info? 29).map (·.size) = some 4 := by kernel_rfl
theorem z3 : (Tryz.prog.info? 3).map (·.size) = some 1 := by kernel_rfl
theorem z31 : (Tryz.prog.info? 31).map (·.size) = some 10 := by kernel_rfl
theorem z47 : (Tryz.prog.info? 47).map (·.size) = some 12 := by kernel_rfl
theorem z5 : (Tryz.prog.info? 5).map (·.size) = some 1 := by kernel_rfl
abbrev Yr := Kd.sl 5 (Kd.int .u8)
abbrev Yt := Kd.sl 116 kd116
abbrev Yu := Kd.sl 47 kd47
abbrev Yv := Kd.sl 3 (Kd.int .i64)
abbrev u3 := Tryz.underlying3
abbrev u5 := Tryz.underlying5
abbrev u9 := Tryz.underlying9
abbrev u22 := Tryz.underlying22
abbrev u23 := Tryz.underlying23
abbrev u24 := Tryz.underlying24
abbrev u26 := Tryz.underlying26
abbrev u27 := Tryz.underlying27
abbrev u29 := Tryz.underlying29
abbrev u31 := Tryz.underlying31
abbrev u34 := Tryz.underlying34
abbrev u47 := Tryz.underlying47
abbrev u50 := Tryz.underlying50
abbrev u58 := Tryz.underlying58
abbrev u114 := Tryz.underlying114
abbrev u116 := Tryz.underlying116
abbrev u128 := Tryz.underlying128
abbrev u129 := Tryz.underlying129
abbrev u200 := Tryz.underlying200
end Go.Proofs.YtegicanjlefmdaaGreat
