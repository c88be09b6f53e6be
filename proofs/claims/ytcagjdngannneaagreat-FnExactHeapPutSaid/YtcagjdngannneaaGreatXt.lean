
import Derived.Test.YtcagjdngannneaaGreatProg
import Derived.Test.YtcagjdngannneaaGreatVt
import Derived.KernelRfl
set_option linter.unusedVariables false
set_option linter.unusedSimpArgs false
namespace Go.Proofs.YtcagjdngannneaaGreat
open Go V
structure Item where
  Kind : Int
  N : Int
  F : Nat
  T : (List Int)
  deriving Inhabited, DecidableEq
structure Page where
  Lsn : Int
  Slots : (List (List Int))
  deriving Inhabited, DecidableEq
structure Heap where
  Pages : (List Page)
  deriving Inhabited, DecidableEq
structure Tuple where
  Xmin : Int
  Xmax : Int
  Key : Item
  Value : Item
  deriving Inhabited, DecidableEq
structure Entry where
  Key : Item
  Id : Int
  deriving Inhabited, DecidableEq
structure Node where
  Leaf : Bool
  Entries : (List Entry)
  Kids : (List Int)
  deriving Inhabited, DecidableEq
structure Tree where
  Nodes : (List Node)
  Root : Int
  deriving Inhabited, DecidableEq
structure Record where
  Kind : Int
  Lsn : Int
  Xid : Int
  Page : Int
  Slot : Int
  Data : (List Int)
  deriving Inhabited, DecidableEq
structure Span where
  From : Item
  To : Item
  deriving Inhabited, DecidableEq
structure Track where
  Xid : Int
  Begun : Int
  Ended : Int
  All : Bool
  Reads : (List Span)
  Writes : (List Item)
  In : Bool
  Out : Bool
  deriving Inhabited, DecidableEq
structure Deed where
  Xid : Int
  Begun : Int
  Ended : Int
  Reads : (List Span)
  Writes : (List Item)
  deriving Inhabited, DecidableEq
structure l11walk where
  seen : (List Bool)
  deep : Int
  wrong : Bool
  all : (List Entry)
  deriving Inhabited, DecidableEq
def kd26 : Kd Item := Kd.iso (Kd.pair (Kd.int .i64) (Kd.pair (Kd.int .i64) (Kd.pair Kd.flt (Kd.sl 5 (Kd.int .u8))))) fun x => (x.Kind, x.N, x.F, x.T)
def kd33 : Kd Item := Kd.iso (Kd.pair (Kd.int .i64) (Kd.pair (Kd.int .i64) (Kd.pair Kd.flt (Kd.sl 5 (Kd.int .u8))))) fun x => (x.Kind, x.N, x.F, x.T)
theorem po33 {w : World} {cs : List Value} {x : Item} {os : List Nat} (h : kd33.ow w cs x os) : ∃ (v0 : Value) (v1 : Value) (p1 : List Nat), cs = [.int .i64 x.Kind, .int .i64 x.N, v0, v1] ∧ os = p1 ∧ FL v0 x.F ∧ (Kd.sl 5 (Kd.int .u8)).ow w [v1] x.T p1 := by
  obtain ⟨_, _, _, _, rfl, rfl, ⟨rfl, rfl⟩, ⟨_, _, _, _, rfl, rfl, ⟨rfl, rfl⟩, ⟨_, _, _, p1, rfl, rfl, ⟨⟨v0, rfl, h0⟩, rfl⟩, ⟨v1, rfl, h1⟩⟩⟩⟩ := h
  exact ⟨_, _, p1, rfl, by simp, h0, ⟨_, rfl, h1⟩⟩
def kd222 : Kd Page := Kd.iso (Kd.pair (Kd.int .i64) (Kd.sl 24 (Kd.sl 5 (Kd.int .u8)))) fun x => (x.Lsn, x.Slots)
theorem op222 {s : St} {cs : List Value} {x : Page} {C : List Nat} (h : RdF kd222 s cs x C) : ∃ (v0 : Value), cs = [.int .i64 x.Lsn, v0] ∧ RdF (Kd.sl 24 (Kd.sl 5 (Kd.int .u8))) s [v0] x.Slots C := by
  obtain ⟨_, _, rfl, rfl, ⟨v0, rfl, h0⟩⟩ := h
  exact ⟨v0, rfl, ⟨_, rfl, h0⟩⟩
def kd42 : Kd Heap := Kd.iso (Kd.sl 222 kd222) fun x => (x.Pages)
theorem op42 {s : St} {cs : List Value} {x : Heap} {C : List Nat} (h : RdF kd42 s cs x C) : ∃ (v0 : Value), cs = [v0] ∧ RdF (Kd.sl 222 kd222) s [v0] x.Pages C := by
  obtain ⟨v0, rfl, h0⟩ := h
  exact ⟨v0, rfl, ⟨_, rfl, h0⟩⟩
def kd142 : Kd Page := Kd.iso (Kd.pair (Kd.int .i64) (Kd.sl 24 (Kd.sl 5 (Kd.int .u8)))) fun x => (x.Lsn, x.Slots)
theorem op142 {s : St} {cs : List Value} {x : Page} {C : List Nat} (h : RdF kd142 s cs x C) : ∃ (v0 : Value), cs = [.int .i64 x.Lsn, v0] ∧ RdF (Kd.sl 24 (Kd.sl 5 (Kd.int .u8))) s [v0] x.Slots C := by
  obtain ⟨_, _, rfl, rfl, ⟨v0, rfl, h0⟩⟩ := h
  exact ⟨v0, rfl, ⟨_, rfl, h0⟩⟩
theorem po142 {w : World} {cs : List Value} {x : Page} {os : List Nat} (h : kd142.ow w cs x os) : ∃ (v0 : Value) (p0 : List Nat), cs = [.int .i64 x.Lsn, v0] ∧ os = p0 ∧ (Kd.sl 24 (Kd.sl 5 (Kd.int .u8))).ow w [v0] x.Slots p0 := by
  obtain ⟨_, _, _, p0, rfl, rfl, ⟨rfl, rfl⟩, ⟨v0, rfl, h0⟩⟩ := h
  exact ⟨_, p0, rfl, by simp, ⟨_, rfl, h0⟩⟩
def kd46 : Kd Heap := Kd.iso (Kd.sl 142 kd142) fun x => (x.Pages)
theorem po46 {w : World} {cs : List Value} {x : Heap} {os : List Nat} (h : kd46.ow w cs x os) : ∃ (v0 : Value) (p0 : List Nat), cs = [v0] ∧ os = p0 ∧ (Kd.sl 142 kd142).ow w [v0] x.Pages p0 := by
  obtain ⟨v0, rfl, h0⟩ := h
  exact ⟨_, _, rfl, rfl, ⟨_, rfl, h0⟩⟩
def kd54 : Kd Tuple := Kd.iso (Kd.pair (Kd.int .i64) (Kd.pair (Kd.int .i64) (Kd.pair kd26 kd26))) fun x => (x.Xmin, x.Xmax, x.Key, x.Value)
theorem op54 {s : St} {cs : List Value} {x : Tuple} {C : List Nat} (h : RdF kd54 s cs x C) : ∃ (v0 : Value) (v1 : Value) (v2 : Value) (v3 : Value), cs = [.int .i64 x.Xmin, .int .i64 x.Xmax, .int .i64 x.Key.Kind, .int .i64 x.Key.N, v0, v1, .int .i64 x.Value.Kind, .int .i64 x.Value.N, v2, v3] ∧ FL v0 x.Key.F ∧ RdF (Kd.sl 5 (Kd.int .u8)) s [v1] x.Key.T C ∧ FL v2 x.Value.F ∧ RdF (Kd.sl 5 (Kd.int .u8)) s [v3] x.Value.T C := by
  obtain ⟨_, _, rfl, rfl, ⟨_, _, rfl, rfl, ⟨_, _, rfl, ⟨_, _, rfl, rfl, ⟨_, _, rfl, rfl, ⟨_, _, rfl, ⟨v0, rfl, h0⟩, ⟨v1, rfl, h1⟩⟩⟩⟩, ⟨_, _, rfl, rfl, ⟨_, _, rfl, rfl, ⟨_, _, rfl, ⟨v2, rfl, h2⟩, ⟨v3, rfl, h3⟩⟩⟩⟩⟩⟩⟩ := h
  exact ⟨v0, v1, v2, v3, rfl, h0, ⟨_, rfl, h1⟩, h2, ⟨_, rfl, h3⟩⟩
def kd58 : Kd Tuple := Kd.iso (Kd.pair (Kd.int .i64) (Kd.pair (Kd.int .i64) (Kd.pair kd33 kd33))) fun x => (x.Xmin, x.Xmax, x.Key, x.Value)
theorem po58 {w : World} {cs : List Value} {x : Tuple} {os : List Nat} (h : kd58.ow w cs x os) : ∃ (v0 : Value) (v1 : Value) (v2 : Value) (v3 : Value) (p1 : List Nat) (p3 : List Nat), cs = [.int .i64 x.Xmin, .int .i64 x.Xmax, .int .i64 x.Key.Kind, .int .i64 x.Key.N, v0, v1, .int .i64 x.Value.Kind, .int .i64 x.Value.N, v2, v3] ∧ os = p1 ++ (p3) ∧ FL v0 x.Key.F ∧ (Kd.sl 5 (Kd.int .u8)).ow w [v1] x.Key.T p1 ∧ FL v2 x.Value.F ∧ (Kd.sl 5 (Kd.int .u8)).ow w [v3] x.Value.T p3 := by
  obtain ⟨_, _, _, _, rfl, rfl, ⟨rfl, rfl⟩, ⟨_, _, _, _, rfl, rfl, ⟨rfl, rfl⟩, ⟨_, _, _, _, rfl, rfl, ⟨_, _, _, _, rfl, rfl, ⟨rfl, rfl⟩, ⟨_, _, _, _, rfl, rfl, ⟨rfl, rfl⟩, ⟨_, _, _, p1, rfl, rfl, ⟨⟨v0, rfl, h0⟩, rfl⟩, ⟨v1, rfl, h1⟩⟩⟩⟩, ⟨_, _, _, _, rfl, rfl, ⟨rfl, rfl⟩, ⟨_, _, _, _, rfl, rfl, ⟨rfl, rfl⟩, ⟨_, _, _, p3, rfl, rfl, ⟨⟨v2, rfl, h2⟩, rfl⟩, ⟨v3, rfl, h3⟩⟩⟩⟩⟩⟩⟩ := h
  exact ⟨_, _, _, _, p1, p3, rfl, by simp, h0, ⟨_, rfl, h1⟩, h2, ⟨_, rfl, h3⟩⟩
def ok_Item (x : Item) : Prop := InK .i64 x.Kind ∧ InK .i64 x.N ∧ okF x.F ∧ (x.T.length ≤ maxLen ∧ ∀ y ∈ x.T, InK .u8 y)
theorem tr26 : Opn Tryz.prog 26 kd26 ok_Item := tr_iso (fun x : Item => (x.Kind, x.N, x.F, x.T)) (fun x => ⟨x.1, x.2.1, x.2.2.1, x.2.2.2⟩) (fun _ => rfl) (tr_st Tryz.underlying26 (by kernel_rfl) (tf_cons rfl (by kernel_rfl) (tr_int Tryz.underlying3) (tf_cons rfl (by kernel_rfl) (tr_int Tryz.underlying3) (tf_cons rfl (by kernel_rfl) (tr_flt Tryz.underlying23) (tf_last rfl (by kernel_rfl) (tr_sl (e' := 5) Tryz.underlying24 (by kernel_rfl) (tr_int Tryz.underlying5)))))))
def ok_Page (x : Page) : Prop := InK .i64 x.Lsn ∧ (x.Slots.length ≤ maxLen ∧ ∀ y ∈ x.Slots, (y.length ≤ maxLen ∧ ∀ y1 ∈ y, InK .u8 y1))
theorem tr222 : Opn Tryz.prog 222 kd222 ok_Page := tr_iso (fun x : Page => (x.Lsn, x.Slots)) (fun x => ⟨x.1, x.2⟩) (fun _ => rfl) (tr_st Tryz.underlying222 (by kernel_rfl) (tf_cons rfl (by kernel_rfl) (tr_int Tryz.underlying3) (tf_last rfl (by kernel_rfl) (tr_sl (e' := 24) Tryz.underlying140 (by kernel_rfl) (tr_sl (e' := 5) Tryz.underlying24 (by kernel_rfl) (tr_int Tryz.underlying5))))))
def ok_Heap (x : Heap) : Prop := (x.Pages.length ≤ maxLen ∧ ∀ y ∈ x.Pages, ok_Page y)
theorem tr42 : Opn Tryz.prog 42 kd42 ok_Heap := tr_iso (fun x : Heap => (x.Pages)) (fun x => ⟨x⟩) (fun _ => rfl) (tr_st Tryz.underlying42 (by kernel_rfl) (tf_last rfl (by kernel_rfl) (tr_sl (e' := 222) Tryz.underlying40 (by kernel_rfl) tr222)))
def ok_Tuple (x : Tuple) : Prop := InK .i64 x.Xmin ∧ InK .i64 x.Xmax ∧ ok_Item x.Key ∧ ok_Item x.Value
theorem tr54 : Opn Tryz.prog 54 kd54 ok_Tuple := tr_iso (fun x : Tuple => (x.Xmin, x.Xmax, x.Key, x.Value)) (fun x => ⟨x.1, x.2.1, x.2.2.1, x.2.2.2⟩) (fun _ => rfl) (tr_st Tryz.underlying54 (by kernel_rfl) (tf_cons rfl (by kernel_rfl) (tr_int Tryz.underlying3) (tf_cons rfl (by kernel_rfl) (tr_int Tryz.underlying3) (tf_cons rfl (by kernel_rfl) tr26 (tf_last rfl (by kernel_rfl) tr26)))))
theorem xn166 : Extern.findNext Tryz.f166 = none := by kernel_rfl
theorem xf166 : Extern.find Tryz.f166 = some Extern.MathFloatBits.float64bits := by kernel_rfl
theorem xn335 : Extern.findNext Tryz.f335 = none := by kernel_rfl
theorem xf335 : Extern.find Tryz.f335 = some Extern.MathFloatBits.float64frombits := by kernel_rfl
theorem fa142_0 : ∀ (a : Addr) (w : World), (Instr.fieldAt 142 (.pointer (some a)) 0).run Tryz.prog w = .ok (.pointer (some (a.add 0))) w := fun _ _ => by kernel_rfl
theorem fa142_1 : ∀ (a : Addr) (w : World), (Instr.fieldAt 142 (.pointer (some a)) 1).run Tryz.prog w = .ok (.pointer (some (a.add 1))) w := fun _ _ => by kernel_rfl
theorem fa222_0 : ∀ (a : Addr) (w : World), (Instr.fieldAt 222 (.pointer (some a)) 0).run Tryz.prog w = .ok (.pointer (some (a.add 0))) w := fun _ _ => by kernel_rfl
theorem fa222_1 : ∀ (a : Addr) (w : World), (Instr.fieldAt 222 (.pointer (some a)) 1).run Tryz.prog w = .ok (.pointer (some (a.add 1))) w := fun _ _ => by kernel_rfl
theorem fa26_0 : ∀ (a : Addr) (w : World), (Instr.fieldAt 26 (.pointer (some a)) 0).run Tryz.prog w = .ok (.pointer (some (a.add 0))) w := fun _ _ => by kernel_rfl
theorem fa26_1 : ∀ (a : Addr) (w : World), (Instr.fieldAt 26 (.pointer (some a)) 1).run Tryz.prog w = .ok (.pointer (some (a.add 1))) w := fun _ _ => by kernel_rfl
theorem fa26_2 : ∀ (a : Addr) (w : World), (Instr.fieldAt 26 (.pointer (some a)) 2).run Tryz.prog w = .ok (.pointer (some (a.add 2))) w := fun _ _ => by kernel_rfl
theorem fa26_3 : ∀ (a : Addr) (w : World), (Instr.fieldAt 26 (.pointer (some a)) 3).run Tryz.prog w = .ok (.pointer (some (a.add 3))) w := fun _ _ => by kernel_rfl
theorem fa33_0 : ∀ (a : Addr) (w : World), (Instr.fieldAt 33 (.pointer (some a)) 0).run Tryz.prog w = .ok (.pointer (some (a.add 0))) w := fun _ _ => by kernel_rfl
theorem fa33_1 : ∀ (a : Addr) (w : World), (Instr.fieldAt 33 (.pointer (some a)) 1).run Tryz.prog w = .ok (.pointer (some (a.add 1))) w := fun _ _ => by kernel_rfl
theorem fa33_2 : ∀ (a : Addr) (w : World), (Instr.fieldAt 33 (.pointer (some a)) 2).run Tryz.prog w = .ok (.pointer (some (a.add 2))) w := fun _ _ => by kernel_rfl
theorem fa33_3 : ∀ (a : Addr) (w : World), (Instr.fieldAt 33 (.pointer (some a)) 3).run Tryz.prog w = .ok (.pointer (some (a.add 3))) w := fun _ _ => by kernel_rfl
theorem fa42_0 : ∀ (a : Addr) (w : World), (Instr.fieldAt 42 (.pointer (some a)) 0).run Tryz.prog w = .ok (.pointer (some (a.add 0))) w := fun _ _ => by kernel_rfl
theorem fa46_0 : ∀ (a : Addr) (w : World), (Instr.fieldAt 46 (.pointer (some a)) 0).run Tryz.prog w = .ok (.pointer (some (a.add 0))) w := fun _ _ => by kernel_rfl
theorem fa54_0 : ∀ (a : Addr) (w : World), (Instr.fieldAt 54 (.pointer (some a)) 0).run Tryz.prog w = .ok (.pointer (some (a.add 0))) w := fun _ _ => by kernel_rfl
theorem fa54_1 : ∀ (a : Addr) (w : World), (Instr.fieldAt 54 (.pointer (some a)) 1).run Tryz.prog w = .ok (.pointer (some (a.add 1))) w := fun _ _ => by kernel_rfl
theorem fa54_2 : ∀ (a : Addr) (w : World), (Instr.fieldAt 54 (.pointer (some a)) 2).run Tryz.prog w = .ok (.pointer (some (a.add 2))) w := fun _ _ => by kernel_rfl
theorem fa54_3 : ∀ (a : Addr) (w : World), (Instr.fieldAt 54 (.pointer (some a)) 3).run Tryz.prog w = .ok (.pointer (some (a.add 6))) w := fun _ _ => by kernel_rfl
theorem fa58_0 : ∀ (a : Addr) (w : World), (Instr.fieldAt 58 (.pointer (some a)) 0).run Tryz.prog w = .ok (.pointer (some (a.add 0))) w := fun _ _ => by kernel_rfl
theorem fa58_1 : ∀ (a : Addr) (w : World), (Instr.fieldAt 58 (.pointer (some a)) 1).run Tryz.prog w = .ok (.pointer (some (a.add 1))) w := fun _ _ => by kernel_rfl
theorem fa58_2 : ∀ (a : Addr) (w : World), (Instr.fieldAt 58 (.pointer (some a)) 2).run Tryz.prog w = .ok (.pointer (some (a.add 2))) w := fun _ _ => by kernel_rfl
theorem fa58_3 : ∀ (a : Addr) (w : World), (Instr.fieldAt 58 (.pointer (some a)) 3).run Tryz.prog w = .ok (.pointer (some (a.add 6))) w := fun _ _ => by kernel_rfl
theorem o142 : (Tryz.prog.info? 142).bind (·.zero) = some (.agg #[.int .i64 0, .slice none 0 0]) := by kernel_rfl
theorem o24 : (Tryz.prog.info? 24).bind (·.zero) = some (.slice none 0 0) := by kernel_rfl
theorem o3 : (Tryz.prog.info? 3).bind (·.zero) = some (.int .i64 0) := by kernel_rfl
theorem o33 : (Tryz.prog.info? 33).bind (·.zero) = some (.agg #[.int .i64 0, .int .i64 0, .float .f64 0, .slice none 0 0]) := by kernel_rfl
theorem o46 : (Tryz.prog.info? 46).bind (·.zero) = some (.agg #[.slice none 0 0]) := by kernel_rfl
theorem o5 : (Tryz.prog.info? 5).bind (·.zero) = some (.int .u8 0) := by kernel_rfl
theorem o58 : (Tryz.prog.info? 58).bind (·.zero) = some (.agg #[.int .i64 0, .int .i64 0, .int .i64 0, .int .i64 0, .float .f64 0, .slice none 0 0, .int .i64 0, .int .i64 0, .float .f64 0, .slice none 0 0]) := by kernel_rfl
theorem pl142 : PlF Tryz.prog 142 #[(0, 1), (1, 1)] := ⟨_, Tryz.underlying142, fun _ => by kernel_rfl⟩
theorem pl33 : PlF Tryz.prog 33 #[(0, 1), (1, 1), (2, 1), (3, 1)] := ⟨_, Tryz.underlying33, fun _ => by kernel_rfl⟩
theorem pl46 : PlF Tryz.prog 46 #[(0, 1)] := ⟨_, Tryz.underlying46, fun _ => by kernel_rfl⟩
theorem pl58 : PlF Tryz.prog 58 #[(0, 1), (1, 1), (2, 4), (6, 4)] := ⟨_, Tryz.underlying58, fun _ => by kernel_rfl⟩
theorem sl140 : SlT Tryz.prog 140 24 1 := SlT.mk (by_ := 24) (z := (.slice none 0 0)) Tryz.underlying140 (by kernel_rfl) rfl rfl rfl
theorem sl24 : SlT Tryz.prog 24 5 1 := SlT.mk (by_ := 1) (z := (.int .u8 0)) Tryz.underlying24 (by kernel_rfl) rfl rfl rfl
theorem sl44 : SlT Tryz.prog 44 142 2 := SlT.mk (by_ := 32) (z := (.agg #[.int .i64 0, .slice none 0 0])) Tryz.underlying44 (by kernel_rfl) rfl rfl rfl
theorem z140 : (Tryz.prog.info? 140).map (·.size) = some 1 := by kernel_rfl
theorem z142 : (Tryz.prog.info? 142).map (·.size) = some 2 := by kernel_rfl
theorem z222 : (Tryz.prog.info? 222).map (·.size) = some 2 := by kernel_rfl
theorem z23 : (Tryz.prog.info? 23).map (·.size) = some 1 := by kernel_rfl
theorem z24 : (Tryz.prog.info? 24).map (·.size) = some 1 := by kernel_rfl
theorem z26 : (Tryz.prog.info? 26).map (·.size) = some 4 := by kernel_rfl
theorem z3 : (Tryz.prog.info? 3).map (·.size) = some 1 := by kernel_rfl
theorem z33 : (Tryz.prog.info? 33).map (·.size) = some 4 := by kernel_rfl
theorem z42 : (Tryz.prog.info? 42).map (·.size) = some 1 := by kernel_rfl
theorem z44 : (Tryz.prog.info? 44).map (·.size) = some 1 := by kernel_rfl
theorem z46 : (Tryz.prog.info? 46).map (·.size) = some 1 := by kernel_rfl
theorem z5 : (Tryz.prog.info? 5).map (·.size) = some 1 := by kernel_rfl
theorem z54 : (Tryz.prog.info? 54).map (·.size) = some 10 := by kernel_rfl
theorem z58 : (Tryz.prog.info? 58).map (·.size) = some 10 := by kernel_rfl
end Go.Proofs.YtcagjdngannneaaGreat
