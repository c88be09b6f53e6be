import Derived.Lib.ItoaMem
import Derived.Lib.LaidTab
import Derived.Test.YtdhefendaopcbaaGreatDoorProg
import Derived.Test.YtdhefendaopcbaaGreatDoorG2
import Derived.KernelRfl

set_option linter.unusedVariables false
set_option linter.unusedSimpArgs false
namespace Go.Proofs.YtdhefendaopcbaaGreatDoor
open Go V
structure Item where
  Kind : Int
  N : Int
  F : Nat
  T : (List Int)
  deriving Inhabited, DecidableEq
structure Op where
  Kind : Int
  Seat : Int
  Level : Int
  N : Int
  Key : Item
  To : Item
  Value : Item
  Keep : (List Bool)
  deriving Inhabited, DecidableEq
structure opWords where
  list : (List ByteArray)
  bad : Bool
  deriving Inhabited, DecidableEq
structure l1Cur where
  b : (List Int)
  i : Int
  h : Int
  deriving Inhabited, DecidableEq
structure errorString where
  s : ByteArray
  deriving Inhabited, DecidableEq
def kd26 : Kd Item := Kd.iso (Kd.pair (Kd.int .i64) (Kd.pair (Kd.int .i64) (Kd.pair Kd.flt (Kd.sl 5 (Kd.int .u8))))) fun x => (x.Kind, x.N, x.F, x.T)
theorem po26 {w : World} {cs : List Value} {x : Item} {os : List Nat} (h : kd26.ow w cs x os) : ∃ (v0 : Value) (v1 : Value) (p1 : List Nat), cs = [.int .i64 x.Kind, .int .i64 x.N, v0, v1] ∧ os = p1 ∧ FL v0 x.F ∧ (Kd.sl 5 (Kd.int .u8)).ow w [v1] x.T p1 := by
  obtain ⟨_, _, _, _, rfl, rfl, ⟨rfl, rfl⟩, ⟨_, _, _, _, rfl, rfl, ⟨rfl, rfl⟩, ⟨_, _, _, p1, rfl, rfl, ⟨⟨v0, rfl, h0⟩, rfl⟩, ⟨v1, rfl, h1⟩⟩⟩⟩ := h
  exact ⟨_, _, p1, rfl, by simp, h0, ⟨_, rfl, h1⟩⟩
theorem ap26 {s : St} {x : Item} {z0 z1 v0 v1 : Value} {c : Nat} (h : OwF kd26 s [z0, z1, v0, v1] x c) : FL v0 x.F ∧ OwF (Kd.sl 5 (Kd.int .u8)) s [v1] x.T c := by
  obtain ⟨os, ho, hn, hc⟩ := h
  obtain ⟨u0, u1, p1, e, eo, h0, h1⟩ := po26 ho
  have y0 : v0 = u0 := congrArg (fun l => (List.drop 2 l).headD undef) e
  have y1 : v1 = u1 := congrArg (fun l => (List.drop 3 l).headD undef) e
  subst y0
  subst y1
  subst eo
  exact ⟨h0, sp1 h1 hn hc⟩
def kd35 : Kd Op := Kd.iso (Kd.pair (Kd.int .i64) (Kd.pair (Kd.int .i64) (Kd.pair (Kd.int .i64) (Kd.pair (Kd.int .i64) (Kd.pair kd26 (Kd.pair kd26 (Kd.pair kd26 (Kd.sl 4 Kd.bool)))))))) fun x => (x.Kind, x.Seat, x.Level, x.N, x.Key, x.To, x.Value, x.Keep)
theorem po35 {w : World} {cs : List Value} {x : Op} {os : List Nat} (h : kd35.ow w cs x os) : ∃ (v0 : Value) (v1 : Value) (v2 : Value) (v3 : Value) (v4 : Value) (v5 : Value) (v6 : Value) (p1 : List Nat) (p3 : List Nat) (p5 : List Nat) (p6 : List Nat), cs = [.int .i64 x.Kind, .int .i64 x.Seat, .int .i64 x.Level, .int .i64 x.N, .int .i64 x.Key.Kind, .int .i64 x.Key.N, v0, v1, .int .i64 x.To.Kind, .int .i64 x.To.N, v2, v3, .int .i64 x.Value.Kind, .int .i64 x.Value.N, v4, v5, v6] ∧ os = p1 ++ (p3 ++ (p5 ++ (p6))) ∧ FL v0 x.Key.F ∧ (Kd.sl 5 (Kd.int .u8)).ow w [v1] x.Key.T p1 ∧ FL v2 x.To.F ∧ (Kd.sl 5 (Kd.int .u8)).ow w [v3] x.To.T p3 ∧ FL v4 x.Value.F ∧ (Kd.sl 5 (Kd.int .u8)).ow w [v5] x.Value.T p5 ∧ (Kd.sl 4 Kd.bool).ow w [v6] x.Keep p6 := by
  obtain ⟨_, _, _, _, rfl, rfl, ⟨rfl, rfl⟩, ⟨_, _, _, _, rfl, rfl, ⟨rfl, rfl⟩, ⟨_, _, _, _, rfl, rfl, ⟨rfl, rfl⟩, ⟨_, _, _, _, rfl, rfl, ⟨rfl, rfl⟩, ⟨_, _, _, _, rfl, rfl, ⟨_, _, _, _, rfl, rfl, ⟨rfl, rfl⟩, ⟨_, _, _, _, rfl, rfl, ⟨rfl, rfl⟩, ⟨_, _, _, p1, rfl, rfl, ⟨⟨v0, rfl, h0⟩, rfl⟩, ⟨v1, rfl, h1⟩⟩⟩⟩, ⟨_, _, _, _, rfl, rfl, ⟨_, _, _, _, rfl, rfl, ⟨rfl, rfl⟩, ⟨_, _, _, _, rfl, rfl, ⟨rfl, rfl⟩, ⟨_, _, _, p3, rfl, rfl, ⟨⟨v2, rfl, h2⟩, rfl⟩, ⟨v3, rfl, h3⟩⟩⟩⟩, ⟨_, _, _, p6, rfl, rfl, ⟨_, _, _, _, rfl, rfl, ⟨rfl, rfl⟩, ⟨_, _, _, _, rfl, rfl, ⟨rfl, rfl⟩, ⟨_, _, _, p5, rfl, rfl, ⟨⟨v4, rfl, h4⟩, rfl⟩, ⟨v5, rfl, h5⟩⟩⟩⟩, ⟨v6, rfl, h6⟩⟩⟩⟩⟩⟩⟩⟩ := h
  exact ⟨_, _, _, _, _, _, _, p1, p3, p5, p6, rfl, by simp, h0, ⟨_, rfl, h1⟩, h2, ⟨_, rfl, h3⟩, h4, ⟨_, rfl, h5⟩, ⟨_, rfl, h6⟩⟩
theorem ap35 {s : St} {x : Op} {z0 z1 z2 z3 z4 z5 z8 z9 z12 z13 v0 v1 v2 v3 v4 v5 v6 : Value} {c : Nat} (c1 : Nat) (c2 : Nat) (c3 : Nat) (h : OwF kd35 s [z0, z1, z2, z3, z4, z5, v0, v1, z8, z9, v2, v3, z12, z13, v4, v5, v6] x c) (h40 : Nat.ble 40 c = true) (k1 : Nat.ble 40 c1 = true := by rfl) (k2 : Nat.ble 40 c2 = true := by rfl) (d0_1 : memb [c1] c = false := by rfl) (d0_2 : memb [c2] c = false := by rfl) (d1_2 : memb [c2] c1 = false := by rfl) : ∃ s', s.w = s'.w ∧ Stp (([c] ++ [c1]) ++ [c2]) s s' ∧ FL v0 x.Key.F ∧ OwF (Kd.sl 5 (Kd.int .u8)) s' [v1] x.Key.T c ∧ FL v2 x.To.F ∧ OwF (Kd.sl 5 (Kd.int .u8)) s' [v3] x.To.T c1 ∧ FL v4 x.Value.F ∧ OwF (Kd.sl 5 (Kd.int .u8)) s' [v5] x.Value.T c2 ∧ OwF (Kd.sl 4 Kd.bool) s' [v6] x.Keep c3 := by
  obtain ⟨os, ho, hn, hc⟩ := h
  obtain ⟨u0, u1, u2, u3, u4, u5, u6, p1, p3, p5, p6, e, eo, h0, h1, h2, h3, h4, h5, h6⟩ := po35 ho
  have y0 : v0 = u0 := congrArg (fun l => (List.drop 6 l).headD undef) e
  have y1 : v1 = u1 := congrArg (fun l => (List.drop 7 l).headD undef) e
  have y2 : v2 = u2 := congrArg (fun l => (List.drop 10 l).headD undef) e
  have y3 : v3 = u3 := congrArg (fun l => (List.drop 11 l).headD undef) e
  have y4 : v4 = u4 := congrArg (fun l => (List.drop 14 l).headD undef) e
  have y5 : v5 = u5 := congrArg (fun l => (List.drop 15 l).headD undef) e
  have y6 : v6 = u6 := congrArg (fun l => (List.drop 16 l).headD undef) e
  subst y0
  subst y1
  subst y2
  subst y3
  subst y4
  subst y5
  subst y6
  subst eo
  obtain ⟨s0, w0, p_0, A1, hn0, hc0⟩ := sp2 c1 h1 hn hc h40
  obtain ⟨s1, w1, p_1, A3, hn1, hc1⟩ := sp2 c2 (w0 ▸ h3) hn0 hc0 k1
  obtain ⟨s2, w2, p_2, A5, hn2, hc2⟩ := sp2 c3 (w1 ▸ (w0 ▸ h5)) hn1 hc1 k2
  exact ⟨s2, ((w0.trans w1).trans w2), ((p_0.trans p_1).trans p_2), h0, ((A1.st p_1 d0_1).st p_2 d0_2), h2, (A3.st p_2 d1_2), h4, A5, sp1 (w2 ▸ (w1 ▸ (w0 ▸ h6))) hn2 hc2⟩
def ok_Item (x : Item) : Prop := InK .i64 x.Kind ∧ InK .i64 x.N ∧ okF x.F ∧ (x.T.length ≤ maxLen ∧ ∀ y ∈ x.T, InK .u8 y)
def ok_Op (x : Op) : Prop := InK .i64 x.Kind ∧ InK .i64 x.Seat ∧ InK .i64 x.Level ∧ InK .i64 x.N ∧ ok_Item x.Key ∧ ok_Item x.To ∧ ok_Item x.Value ∧ (x.Keep.length ≤ maxLen ∧ ∀ y ∈ x.Keep, True)
theorem xn61 : Extern.findNext Tryz.f61 = none := by kernel_rfl
theorem xf61 : Extern.find Tryz.f61 = some Extern.MathFloatBits.float64bits := by kernel_rfl
theorem xn92 : Extern.findNext Tryz.f92 = none := by kernel_rfl
theorem xf92 : Extern.find Tryz.f92 = some Extern.MathFloatBits.float64frombits := by kernel_rfl
theorem fa26_0 : ∀ (a : Addr) (w : World), (Instr.fieldAt 26 (.pointer (some a)) 0).run Tryz.prog w = .ok (.pointer (some (a.add 0))) w := fun _ _ => by kernel_rfl
theorem fa26_1 : ∀ (a : Addr) (w : World), (Instr.fieldAt 26 (.pointer (some a)) 1).run Tryz.prog w = .ok (.pointer (some (a.add 1))) w := fun _ _ => by kernel_rfl
theorem fa26_2 : ∀ (a : Addr) (w : World), (Instr.fieldAt 26 (.pointer (some a)) 2).run Tryz.prog w = .ok (.pointer (some (a.add 2))) w := fun _ _ => by kernel_rfl
theorem fa26_3 : ∀ (a : Addr) (w : World), (Instr.fieldAt 26 (.pointer (some a)) 3).run Tryz.prog w = .ok (.pointer (some (a.add 3))) w := fun _ _ => by kernel_rfl
theorem fa35_0 : ∀ (a : Addr) (w : World), (Instr.fieldAt 35 (.pointer (some a)) 0).run Tryz.prog w = .ok (.pointer (some (a.add 0))) w := fun _ _ => by kernel_rfl
theorem fa35_1 : ∀ (a : Addr) (w : World), (Instr.fieldAt 35 (.pointer (some a)) 1).run Tryz.prog w = .ok (.pointer (some (a.add 1))) w := fun _ _ => by kernel_rfl
theorem fa35_2 : ∀ (a : Addr) (w : World), (Instr.fieldAt 35 (.pointer (some a)) 2).run Tryz.prog w = .ok (.pointer (some (a.add 2))) w := fun _ _ => by kernel_rfl
theorem fa35_3 : ∀ (a : Addr) (w : World), (Instr.fieldAt 35 (.pointer (some a)) 3).run Tryz.prog w = .ok (.pointer (some (a.add 3))) w := fun _ _ => by kernel_rfl
theorem fa35_4 : ∀ (a : Addr) (w : World), (Instr.fieldAt 35 (.pointer (some a)) 4).run Tryz.prog w = .ok (.pointer (some (a.add 4))) w := fun _ _ => by kernel_rfl
theorem fa35_5 : ∀ (a : Addr) (w : World), (Instr.fieldAt 35 (.pointer (some a)) 5).run Tryz.prog w = .ok (.pointer (some (a.add 8))) w := fun _ _ => by kernel_rfl
theorem fa35_6 : ∀ (a : Addr) (w : World), (Instr.fieldAt 35 (.pointer (some a)) 6).run Tryz.prog w = .ok (.pointer (some (a.add 12))) w := fun _ _ => by kernel_rfl
theorem fa35_7 : ∀ (a : Addr) (w : World), (Instr.fieldAt 35 (.pointer (some a)) 7).run Tryz.prog w = .ok (.pointer (some (a.add 16))) w := fun _ _ => by kernel_rfl
theorem fa65_0 : ∀ (a : Addr) (w : World), (Instr.fieldAt 65 (.pointer (some a)) 0).run Tryz.prog w = .ok (.pointer (some (a.add 0))) w := fun _ _ => by kernel_rfl
theorem fa65_1 : ∀ (a : Addr) (w : World), (Instr.fieldAt 65 (.pointer (some a)) 1).run Tryz.prog w = .ok (.pointer (some (a.add 1))) w := fun _ _ => by kernel_rfl
theorem fa80_0 : ∀ (a : Addr) (w : World), (Instr.fieldAt 80 (.pointer (some a)) 0).run Tryz.prog w = .ok (.pointer (some (a.add 0))) w := fun _ _ => by kernel_rfl
theorem fa80_1 : ∀ (a : Addr) (w : World), (Instr.fieldAt 80 (.pointer (some a)) 1).run Tryz.prog w = .ok (.pointer (some (a.add 1))) w := fun _ _ => by kernel_rfl
theorem fa80_2 : ∀ (a : Addr) (w : World), (Instr.fieldAt 80 (.pointer (some a)) 2).run Tryz.prog w = .ok (.pointer (some (a.add 2))) w := fun _ _ => by kernel_rfl
theorem o26 : (Tryz.prog.info? 26).bind (·.zero) = some (.agg #[.int .i64 0, .int .i64 0, .float .f64 0, .slice none 0 0]) := by kernel_rfl
theorem o3 : (Tryz.prog.info? 3).bind (·.zero) = some (.int .i64 0) := by kernel_rfl
theorem o35 : (Tryz.prog.info? 35).bind (·.zero) = some (.agg #[.int .i64 0, .int .i64 0, .int .i64 0, .int .i64 0, .int .i64 0, .int .i64 0, .float .f64 0, .slice none 0 0, .int .i64 0, .int .i64 0, .float .f64 0, .slice none 0 0, .int .i64 0, .int .i64 0, .float .f64 0, .slice none 0 0, .slice none 0 0]) := by kernel_rfl
theorem o4 : (Tryz.prog.info? 4).bind (·.zero) = some (.bool false) := by kernel_rfl
theorem o5 : (Tryz.prog.info? 5).bind (·.zero) = some (.int .u8 0) := by kernel_rfl
theorem o65 : (Tryz.prog.info? 65).bind (·.zero) = some (.agg #[.slice none 0 0, .bool false]) := by kernel_rfl
theorem o80 : (Tryz.prog.info? 80).bind (·.zero) = some (.agg #[.slice none 0 0, .int .i64 0, .int .i64 0]) := by kernel_rfl
theorem o9 : (Tryz.prog.info? 9).bind (·.zero) = some (.string ⟨#[]⟩) := by kernel_rfl
theorem pl26 : PlF Tryz.prog 26 #[(0, 1), (1, 1), (2, 1), (3, 1)] := ⟨_, Tryz.underlying26, fun _ => by kernel_rfl⟩
theorem pl35 : PlF Tryz.prog 35 #[(0, 1), (1, 1), (2, 1), (3, 1), (4, 4), (8, 4), (12, 4), (16, 1)] := ⟨_, Tryz.underlying35, fun _ => by kernel_rfl⟩
theorem pl65 : PlF Tryz.prog 65 #[(0, 1), (1, 1)] := ⟨_, Tryz.underlying65, fun _ => by kernel_rfl⟩
theorem pl80 : PlF Tryz.prog 80 #[(0, 1), (1, 1), (2, 1)] := ⟨_, Tryz.underlying80, fun _ => by kernel_rfl⟩
theorem sl22 : SlT Tryz.prog 22 5 1 := SlT.mk (by_ := 1) (z := (.int .u8 0)) Tryz.underlying22 (by kernel_rfl) rfl rfl rfl
theorem sl33 : SlT Tryz.prog 33 4 1 := SlT.mk (by_ := 1) (z := (.bool false)) Tryz.underlying33 (by kernel_rfl) rfl rfl rfl
theorem sl59 : SlT Tryz.prog 59 9 1 := SlT.mk (by_ := 16) (z := (.string ⟨#[]⟩)) Tryz.underlying59 (by kernel_rfl) rfl rfl rfl
theorem z22 : (Tryz.prog.info? 22).map (·.size) = some 1 := by kernel_rfl
theorem z24 : (Tryz.prog.info? 24).map (·.size) = some 1 := by kernel_rfl
theorem z26 : (Tryz.prog.info? 26).map (·.size) = some 4 := by kernel_rfl
theorem z3 : (Tryz.prog.info? 3).map (·.size) = some 1 := by kernel_rfl
theorem z33 : (Tryz.prog.info? 33).map (·.size) = some 1 := by kernel_rfl
theorem z35 : (Tryz.prog.info? 35).map (·.size) = some 17 := by kernel_rfl
theorem z4 : (Tryz.prog.info? 4).map (·.size) = some 1 := by kernel_rfl
theorem z5 : (Tryz.prog.info? 5).map (·.size) = some 1 := by kernel_rfl
theorem z59 : (Tryz.prog.info? 59).map (·.size) = some 1 := by kernel_rfl
theorem z9 : (Tryz.prog.info? 9).map (·.size) = some 1 := by kernel_rfl
noncomputable def gTab : Nat := (Tryz.prog.globalNamed "internal/strconv.uint64pow10").getD 0
theorem hTab : Tryz.prog.globalNamed "internal/strconv.uint64pow10" = some gTab := by kernel_rfl
noncomputable def GT : Kd Unit := Kd.glb [gTab] (fun w => Lib.TabIs Tryz.prog w "internal/strconv.uint64pow10" .u64 Lib.pow10Tab) (fun w w' h h1 => by unfold Lib.TabIs at *; rw [var_fr hTab (h _ (by simp))]; exact h1)
noncomputable def gSyn : Nat := (Tryz.prog.globalNamed "strconv.ErrSyntax").getD 0
theorem hSyn : Tryz.prog.globalNamed "strconv.ErrSyntax" = some gSyn := by kernel_rfl
noncomputable def gRng : Nat := (Tryz.prog.globalNamed "strconv.ErrRange").getD 0
theorem hRng : Tryz.prog.globalNamed "strconv.ErrRange" = some gRng := by kernel_rfl
noncomputable def GU : Kd Unit := Kd.glb [gTab, gSyn, gRng] (fun w => Lib.TabIs Tryz.prog w "internal/strconv.uint64pow10" .u64 Lib.pow10Tab ∧ (∃ t p, w.var? Tryz.prog "strconv.ErrSyntax" = some #[.iface t p]) ∧ ∃ t p, w.var? Tryz.prog "strconv.ErrRange" = some #[.iface t p])
  (fun w w' h h1 => by unfold Lib.TabIs at *; rw [var_fr hTab (h _ (by simp)), var_fr hSyn (h _ (by simp)), var_fr hRng (h _ (by simp))]; exact h1)
theorem gu_gt {s : St} {C : List Nat} (h : RdF GU s [] () C) : RdF GT s [] () C := ⟨h.1, h.2.1.1, fun b hb => h.2.2 b (by simp at hb; simp [hb])⟩
noncomputable def gMax : Nat := (Tryz.prog.globalNamed "internal/bytealg.MaxLen").getD 0
noncomputable def GV : Kd Unit := Kd.glb [gTab, gSyn, gRng, gMax] (fun w => (Lib.TabIs Tryz.prog w "internal/strconv.uint64pow10" .u64 Lib.pow10Tab ∧ (∃ t p, w.var? Tryz.prog "strconv.ErrSyntax" = some #[.iface t p]) ∧ ∃ t p, w.var? Tryz.prog "strconv.ErrRange" = some #[.iface t p]) ∧ ∃ m, w.cell? ⟨gMax, 0, none⟩ = some (.int .i64 m))
  (fun w w' h h1 => by unfold Lib.TabIs at *; rw [var_fr hTab (h _ (by simp)), var_fr hSyn (h _ (by simp)), var_fr hRng (h _ (by simp)), World.cell?_of_block (a := ⟨gMax, 0, none⟩) (h gMax (by simp))]; exact h1)
theorem gv_gu {s : St} {C : List Nat} (h : RdF GV s [] () C) : RdF GU s [] () C := ⟨h.1, h.2.1.1, fun b hb => h.2.2 b (by simp at hb; simp; omega)⟩

abbrev Ya := Kd.sl 5 (Kd.int .u8)
abbrev u3 := Tryz.underlying3
abbrev u4 := Tryz.underlying4
abbrev u5 := Tryz.underlying5
abbrev u9 := Tryz.underlying9
abbrev u22 := Tryz.underlying22
abbrev u24 := Tryz.underlying24
abbrev u26 := Tryz.underlying26
abbrev u33 := Tryz.underlying33
abbrev u35 := Tryz.underlying35
abbrev u53 := Tryz.underlying53
abbrev u59 := Tryz.underlying59
abbrev u87 := Tryz.underlying87
abbrev u96 := Tryz.underlying96
end Go.Proofs.YtdhefendaopcbaaGreatDoor
