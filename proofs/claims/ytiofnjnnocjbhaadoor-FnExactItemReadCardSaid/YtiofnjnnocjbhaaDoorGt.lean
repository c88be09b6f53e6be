import Derived.Lib.ItoaMem
import Derived.Lib.LaidTab
import Derived.Test.YtiofnjnnocjbhaaDoorProg
import Derived.Test.YtiofnjnnocjbhaaDoorG2
import Derived.KernelRfl

set_option linter.unusedVariables false
set_option linter.unusedSimpArgs false
namespace Go.Proofs.YtiofnjnnocjbhaaDoor
open Go V
structure Item where
  Kind : Int
  N : Int
  F : Nat
  T : (List Int)
  deriving Inhabited, DecidableEq
structure Pair where
  Key : Item
  Value : Item
  deriving Inhabited, DecidableEq
structure Reply where
  Seat : Int
  Kind : Int
  Code : Int
  N : Int
  Value : Item
  Rows : (List Pair)
  Total : Nat
  deriving Inhabited, DecidableEq
structure Op where
  Kind : Int
  Seat : Int
  Level : Int
  N : Int
  Key : Item
  To : Item
  Value : Item
  Keep : (List Bool)
  deriving Inhabited, DecidableEq
structure errorString where
  s : ByteArray
  deriving Inhabited, DecidableEq
def kd28 : Kd Item := Kd.iso (Kd.pair (Kd.int .i64) (Kd.pair (Kd.int .i64) (Kd.pair Kd.flt (Kd.sl 5 (Kd.int .u8))))) fun x => (x.Kind, x.N, x.F, x.T)
theorem po28 {w : World} {cs : List Value} {x : Item} {os : List Nat} (h : kd28.ow w cs x os) : ∃ (v0 : Value) (v1 : Value) (p1 : List Nat), cs = [.int .i64 x.Kind, .int .i64 x.N, v0, v1] ∧ os = p1 ∧ FL v0 x.F ∧ (Kd.sl 5 (Kd.int .u8)).ow w [v1] x.T p1 := by
  obtain ⟨_, _, _, _, rfl, rfl, ⟨rfl, rfl⟩, ⟨_, _, _, _, rfl, rfl, ⟨rfl, rfl⟩, ⟨_, _, _, p1, rfl, rfl, ⟨⟨v0, rfl, h0⟩, rfl⟩, ⟨v1, rfl, h1⟩⟩⟩⟩ := h
  exact ⟨_, _, p1, rfl, by simp, h0, ⟨_, rfl, h1⟩⟩
theorem ap28 {s : St} {x : Item} {z0 z1 v0 v1 : Value} {c : Nat} (h : OwF kd28 s [z0, z1, v0, v1] x c) : FL v0 x.F ∧ OwF (Kd.sl 5 (Kd.int .u8)) s [v1] x.T c := by
  obtain ⟨os, ho, hn, hc⟩ := h
  obtain ⟨u0, u1, p1, e, eo, h0, h1⟩ := po28 ho
  have y0 : v0 = u0 := congrArg (fun l => (List.drop 2 l).headD undef) e
  have y1 : v1 = u1 := congrArg (fun l => (List.drop 3 l).headD undef) e
  subst y0
  subst y1
  subst eo
  exact ⟨h0, sp1 h1 hn hc⟩
def ok_Item (x : Item) : Prop := InK .i64 x.Kind ∧ InK .i64 x.N ∧ okF x.F ∧ (x.T.length ≤ maxLen ∧ ∀ y ∈ x.T, InK .u8 y)
theorem xn63 : Extern.findNext Tryd.f63 = none := by kernel_rfl
theorem xf63 : Extern.find Tryd.f63 = some Extern.MathFloatBits.float64bits := by kernel_rfl
theorem xn94 : Extern.findNext Tryd.f94 = none := by kernel_rfl
theorem xf94 : Extern.find Tryd.f94 = some Extern.MathFloatBits.float64frombits := by kernel_rfl
theorem fa28_0 : ∀ (a : Addr) (w : World), (Instr.fieldAt 28 (.pointer (some a)) 0).run Tryd.prog w = .ok (.pointer (some (a.add 0))) w := fun _ _ => by kernel_rfl
theorem fa28_1 : ∀ (a : Addr) (w : World), (Instr.fieldAt 28 (.pointer (some a)) 1).run Tryd.prog w = .ok (.pointer (some (a.add 1))) w := fun _ _ => by kernel_rfl
theorem fa28_2 : ∀ (a : Addr) (w : World), (Instr.fieldAt 28 (.pointer (some a)) 2).run Tryd.prog w = .ok (.pointer (some (a.add 2))) w := fun _ _ => by kernel_rfl
theorem fa28_3 : ∀ (a : Addr) (w : World), (Instr.fieldAt 28 (.pointer (some a)) 3).run Tryd.prog w = .ok (.pointer (some (a.add 3))) w := fun _ _ => by kernel_rfl
theorem o28 : (Tryd.prog.info? 28).bind (·.zero) = some (.agg #[.int .i64 0, .int .i64 0, .float .f64 0, .slice none 0 0]) := by kernel_rfl
theorem o5 : (Tryd.prog.info? 5).bind (·.zero) = some (.int .u8 0) := by kernel_rfl
theorem pl28 : PlF Tryd.prog 28 #[(0, 1), (1, 1), (2, 1), (3, 1)] := ⟨_, Tryd.underlying28, fun _ => by kernel_rfl⟩
theorem sl23 : SlT Tryd.prog 23 5 1 := SlT.mk (by_ := 1) (z := (.int .u8 0)) Tryd.underlying23 (by kernel_rfl) rfl rfl rfl
theorem z22 : (Tryd.prog.info? 22).map (·.size) = some 1 := by kernel_rfl
theorem z23 : (Tryd.prog.info? 23).map (·.size) = some 1 := by kernel_rfl
theorem z28 : (Tryd.prog.info? 28).map (·.size) = some 4 := by kernel_rfl
theorem z3 : (Tryd.prog.info? 3).map (·.size) = some 1 := by kernel_rfl
theorem z5 : (Tryd.prog.info? 5).map (·.size) = some 1 := by kernel_rfl
noncomputable def gTab : Nat := (Tryd.prog.globalNamed "internal/strconv.uint64pow10").getD 0
theorem hTab : Tryd.prog.globalNamed "internal/strconv.uint64pow10" = some gTab := by kernel_rfl
noncomputable def GT : Kd Unit := Kd.glb [gTab] (fun w => Lib.TabIs Tryd.prog w "internal/strconv.uint64pow10" .u64 Lib.pow10Tab) (fun w w' h h1 => by unfold Lib.TabIs at *; rw [var_fr hTab (h _ (by simp))]; exact h1)
noncomputable def gSyn : Nat := (Tryd.prog.globalNamed "strconv.ErrSyntax").getD 0
theorem hSyn : Tryd.prog.globalNamed "strconv.ErrSyntax" = some gSyn := by kernel_rfl
noncomputable def gRng : Nat := (Tryd.prog.globalNamed "strconv.ErrRange").getD 0
theorem hRng : Tryd.prog.globalNamed "strconv.ErrRange" = some gRng := by kernel_rfl
noncomputable def GU : Kd Unit := Kd.glb [gTab, gSyn, gRng] (fun w => Lib.TabIs Tryd.prog w "internal/strconv.uint64pow10" .u64 Lib.pow10Tab ∧ (∃ t p, w.var? Tryd.prog "strconv.ErrSyntax" = some #[.iface t p]) ∧ ∃ t p, w.var? Tryd.prog "strconv.ErrRange" = some #[.iface t p])
  (fun w w' h h1 => by unfold Lib.TabIs at *; rw [var_fr hTab (h _ (by simp)), var_fr hSyn (h _ (by simp)), var_fr hRng (h _ (by simp))]; exact h1)
theorem gu_gt {s : St} {C : List Nat} (h : RdF GU s [] () C) : RdF GT s [] () C := ⟨h.1, h.2.1.1, fun b hb => h.2.2 b (by simp at hb; simp [hb])⟩

abbrev Xk := Kd.sl 5 (Kd.int .u8)
abbrev u3 := Tryd.underlying3
abbrev u4 := Tryd.underlying4
abbrev u5 := Tryd.underlying5
abbrev u9 := Tryd.underlying9
abbrev u22 := Tryd.underlying22
abbrev u23 := Tryd.underlying23
abbrev u28 := Tryd.underlying28
abbrev u65 := Tryd.underlying65
abbrev u92 := Tryd.underlying92
abbrev u105 := Tryd.underlying105
end Go.Proofs.YtiofnjnnocjbhaaDoor
