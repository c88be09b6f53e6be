import Derived.Test.YtkkpplnhcpjmgaaGreatProg
import Derived.Test.YtkkpplnhcpjmgaaGreatG2
import Derived.KernelRfl

set_option linter.unusedVariables false
set_option linter.unusedSimpArgs false
namespace Go.Proofs.YtkkpplnhcpjmgaaGreat
open Go V
structure Page where
  Lsn : Int
  Slots : (List (List Int))
  deriving Inhabited, DecidableEq
structure Heap where
  Pages : (List Page)
  deriving Inhabited, DecidableEq
structure Record where
  Kind : Int
  Lsn : Int
  Xid : Int
  Page : Int
  Slot : Int
  Data : (List Int)
  deriving Inhabited, DecidableEq
structure Item where
  Kind : Int
  N : Int
  F : Nat
  T : (List Int)
  deriving Inhabited, DecidableEq
structure Tuple where
  Xmin : Int
  Xmax : Int
  Key : Item
  Value : Item
  deriving Inhabited, DecidableEq
def kd73 : Kd Page := Kd.iso (Kd.pair (Kd.int .i64) (Kd.sl 25 (Kd.sl 5 (Kd.int .u8)))) fun x => (x.Lsn, x.Slots)
theorem op73 {s : St} {cs : List Value} {x : Page} {C : List Nat} (h : RdF kd73 s cs x C) : ∃ (v0 : Value), cs = [.int .i64 x.Lsn, v0] ∧ RdF (Kd.sl 25 (Kd.sl 5 (Kd.int .u8))) s [v0] x.Slots C := by
  obtain ⟨_, _, rfl, rfl, ⟨v0, rfl, h0⟩⟩ := h
  exact ⟨v0, rfl, ⟨_, rfl, h0⟩⟩
def kd24 : Kd Heap := Kd.iso (Kd.sl 73 kd73) fun x => (x.Pages)
theorem op24 {s : St} {cs : List Value} {x : Heap} {C : List Nat} (h : RdF kd24 s cs x C) : ∃ (v0 : Value), cs = [v0] ∧ RdF (Kd.sl 73 kd73) s [v0] x.Pages C := by
  obtain ⟨v0, rfl, h0⟩ := h
  exact ⟨v0, rfl, ⟨_, rfl, h0⟩⟩
def kd27 : Kd Record := Kd.iso (Kd.pair (Kd.int .i64) (Kd.pair (Kd.int .i64) (Kd.pair (Kd.int .i64) (Kd.pair (Kd.int .i64) (Kd.pair (Kd.int .i64) (Kd.sl 5 (Kd.int .u8))))))) fun x => (x.Kind, x.Lsn, x.Xid, x.Page, x.Slot, x.Data)
theorem op27 {s : St} {cs : List Value} {x : Record} {C : List Nat} (h : RdF kd27 s cs x C) : ∃ (v0 : Value), cs = [.int .i64 x.Kind, .int .i64 x.Lsn, .int .i64 x.Xid, .int .i64 x.Page, .int .i64 x.Slot, v0] ∧ RdF (Kd.sl 5 (Kd.int .u8)) s [v0] x.Data C := by
  obtain ⟨_, _, rfl, rfl, ⟨_, _, rfl, rfl, ⟨_, _, rfl, rfl, ⟨_, _, rfl, rfl, ⟨_, _, rfl, rfl, ⟨v0, rfl, h0⟩⟩⟩⟩⟩⟩ := h
  exact ⟨v0, rfl, ⟨_, rfl, h0⟩⟩
def kd59 : Kd Page := Kd.iso (Kd.pair (Kd.int .i64) (Kd.sl 25 (Kd.sl 5 (Kd.int .u8)))) fun x => (x.Lsn, x.Slots)
theorem op59 {s : St} {cs : List Value} {x : Page} {C : List Nat} (h : RdF kd59 s cs x C) : ∃ (v0 : Value), cs = [.int .i64 x.Lsn, v0] ∧ RdF (Kd.sl 25 (Kd.sl 5 (Kd.int .u8))) s [v0] x.Slots C := by
  obtain ⟨_, _, rfl, rfl, ⟨v0, rfl, h0⟩⟩ := h
  exact ⟨v0, rfl, ⟨_, rfl, h0⟩⟩
theorem po59 {w : World} {cs : List Value} {x : Page} {os : List Nat} (h : kd59.ow w cs x os) : ∃ (v0 : Value) (p0 : List Nat), cs = [.int .i64 x.Lsn, v0] ∧ os = p0 ∧ (Kd.sl 25 (Kd.sl 5 (Kd.int .u8))).ow w [v0] x.Slots p0 := by
  obtain ⟨_, _, _, p0, rfl, rfl, ⟨rfl, rfl⟩, ⟨v0, rfl, h0⟩⟩ := h
  exact ⟨_, p0, rfl, by simp, ⟨_, rfl, h0⟩⟩
theorem ap59 {s : St} {x : Page} {v0 : Value} {c : Nat} (h : OwF kd59 s [.int .i64 x.Lsn, v0] x c) : OwF (Kd.sl 25 (Kd.sl 5 (Kd.int .u8))) s [v0] x.Slots c := by
  obtain ⟨os, ho, hn, hc⟩ := h
  obtain ⟨u0, p0, e, eo, h0⟩ := po59 ho
  have y0 : v0 = u0 := congrArg (fun l => (List.drop 1 l).headD undef) e
  subst y0
  subst eo
  exact sp1 h0 hn hc
def kd32 : Kd Heap := Kd.iso (Kd.sl 59 kd59) fun x => (x.Pages)
theorem po32 {w : World} {cs : List Value} {x : Heap} {os : List Nat} (h : kd32.ow w cs x os) : ∃ (v0 : Value) (p0 : List Nat), cs = [v0] ∧ os = p0 ∧ (Kd.sl 59 kd59).ow w [v0] x.Pages p0 := by
  obtain ⟨v0, rfl, h0⟩ := h
  exact ⟨_, _, rfl, rfl, ⟨_, rfl, h0⟩⟩
theorem ap32 {s : St} {x : Heap} {v0 : Value} {c : Nat} (h : OwF kd32 s [v0] x c) : OwF (Kd.sl 59 kd59) s [v0] x.Pages c := by
  obtain ⟨os, ho, hn, hc⟩ := h
  obtain ⟨u0, p0, e, eo, h0⟩ := po32 ho
  have y0 : v0 = u0 := congrArg (fun l => (List.drop 0 l).headD undef) e
  subst y0
  subst eo
  exact sp1 h0 hn hc
def kd36 : Kd Record := Kd.iso (Kd.pair (Kd.int .i64) (Kd.pair (Kd.int .i64) (Kd.pair (Kd.int .i64) (Kd.pair (Kd.int .i64) (Kd.pair (Kd.int .i64) (Kd.sl 5 (Kd.int .u8))))))) fun x => (x.Kind, x.Lsn, x.Xid, x.Page, x.Slot, x.Data)
theorem op36 {s : St} {cs : List Value} {x : Record} {C : List Nat} (h : RdF kd36 s cs x C) : ∃ (v0 : Value), cs = [.int .i64 x.Kind, .int .i64 x.Lsn, .int .i64 x.Xid, .int .i64 x.Page, .int .i64 x.Slot, v0] ∧ RdF (Kd.sl 5 (Kd.int .u8)) s [v0] x.Data C := by
  obtain ⟨_, _, rfl, rfl, ⟨_, _, rfl, rfl, ⟨_, _, rfl, rfl, ⟨_, _, rfl, rfl, ⟨_, _, rfl, rfl, ⟨v0, rfl, h0⟩⟩⟩⟩⟩⟩ := h
  exact ⟨v0, rfl, ⟨_, rfl, h0⟩⟩
theorem po36 {w : World} {cs : List Value} {x : Record} {os : List Nat} (h : kd36.ow w cs x os) : ∃ (v0 : Value) (p0 : List Nat), cs = [.int .i64 x.Kind, .int .i64 x.Lsn, .int .i64 x.Xid, .int .i64 x.Page, .int .i64 x.Slot, v0] ∧ os = p0 ∧ (Kd.sl 5 (Kd.int .u8)).ow w [v0] x.Data p0 := by
  obtain ⟨_, _, _, _, rfl, rfl, ⟨rfl, rfl⟩, ⟨_, _, _, _, rfl, rfl, ⟨rfl, rfl⟩, ⟨_, _, _, _, rfl, rfl, ⟨rfl, rfl⟩, ⟨_, _, _, _, rfl, rfl, ⟨rfl, rfl⟩, ⟨_, _, _, p0, rfl, rfl, ⟨rfl, rfl⟩, ⟨v0, rfl, h0⟩⟩⟩⟩⟩⟩ := h
  exact ⟨_, p0, rfl, by simp, ⟨_, rfl, h0⟩⟩
theorem ap36 {s : St} {x : Record} {v0 : Value} {c : Nat} (h : OwF kd36 s [.int .i64 x.Kind, .int .i64 x.Lsn, .int .i64 x.Xid, .int .i64 x.Page, .int .i64 x.Slot, v0] x c) : OwF (Kd.sl 5 (Kd.int .u8)) s [v0] x.Data c := by
  obtain ⟨os, ho, hn, hc⟩ := h
  obtain ⟨u0, p0, e, eo, h0⟩ := po36 ho
  have y0 : v0 = u0 := congrArg (fun l => (List.drop 5 l).headD undef) e
  subst y0
  subst eo
  exact sp1 h0 hn hc
def kd77 : Kd Item := Kd.iso (Kd.pair (Kd.int .i64) (Kd.pair (Kd.int .i64) (Kd.pair Kd.flt (Kd.sl 5 (Kd.int .u8))))) fun x => (x.Kind, x.N, x.F, x.T)
theorem po77 {w : World} {cs : List Value} {x : Item} {os : List Nat} (h : kd77.ow w cs x os) : ∃ (v0 : Value) (v1 : Value) (p1 : List Nat), cs = [.int .i64 x.Kind, .int .i64 x.N, v0, v1] ∧ os = p1 ∧ FL v0 x.F ∧ (Kd.sl 5 (Kd.int .u8)).ow w [v1] x.T p1 := by
  obtain ⟨_, _, _, _, rfl, rfl, ⟨rfl, rfl⟩, ⟨_, _, _, _, rfl, rfl, ⟨rfl, rfl⟩, ⟨_, _, _, p1, rfl, rfl, ⟨⟨v0, rfl, h0⟩, rfl⟩, ⟨v1, rfl, h1⟩⟩⟩⟩ := h
  exact ⟨_, _, p1, rfl, by simp, h0, ⟨_, rfl, h1⟩⟩
theorem ap77 {s : St} {x : Item} {v0 v1 : Value} {c : Nat} (h : OwF kd77 s [.int .i64 x.Kind, .int .i64 x.N, v0, v1] x c) : FL v0 x.F ∧ OwF (Kd.sl 5 (Kd.int .u8)) s [v1] x.T c := by
  obtain ⟨os, ho, hn, hc⟩ := h
  obtain ⟨u0, u1, p1, e, eo, h0, h1⟩ := po77 ho
  have y0 : v0 = u0 := congrArg (fun l => (List.drop 2 l).headD undef) e
  have y1 : v1 = u1 := congrArg (fun l => (List.drop 3 l).headD undef) e
  subst y0
  subst y1
  subst eo
  exact ⟨h0, sp1 h1 hn hc⟩
def kd79 : Kd Tuple := Kd.iso (Kd.pair (Kd.int .i64) (Kd.pair (Kd.int .i64) (Kd.pair kd77 kd77))) fun x => (x.Xmin, x.Xmax, x.Key, x.Value)
theorem po79 {w : World} {cs : List Value} {x : Tuple} {os : List Nat} (h : kd79.ow w cs x os) : ∃ (v0 : Value) (v1 : Value) (v2 : Value) (v3 : Value) (p1 : List Nat) (p3 : List Nat), cs = [.int .i64 x.Xmin, .int .i64 x.Xmax, .int .i64 x.Key.Kind, .int .i64 x.Key.N, v0, v1, .int .i64 x.Value.Kind, .int .i64 x.Value.N, v2, v3] ∧ os = p1 ++ (p3) ∧ FL v0 x.Key.F ∧ (Kd.sl 5 (Kd.int .u8)).ow w [v1] x.Key.T p1 ∧ FL v2 x.Value.F ∧ (Kd.sl 5 (Kd.int .u8)).ow w [v3] x.Value.T p3 := by
  obtain ⟨_, _, _, _, rfl, rfl, ⟨rfl, rfl⟩, ⟨_, _, _, _, rfl, rfl, ⟨rfl, rfl⟩, ⟨_, _, _, _, rfl, rfl, ⟨_, _, _, _, rfl, rfl, ⟨rfl, rfl⟩, ⟨_, _, _, _, rfl, rfl, ⟨rfl, rfl⟩, ⟨_, _, _, p1, rfl, rfl, ⟨⟨v0, rfl, h0⟩, rfl⟩, ⟨v1, rfl, h1⟩⟩⟩⟩, ⟨_, _, _, _, rfl, rfl, ⟨rfl, rfl⟩, ⟨_, _, _, _, rfl, rfl, ⟨rfl, rfl⟩, ⟨_, _, _, p3, rfl, rfl, ⟨⟨v2, rfl, h2⟩, rfl⟩, ⟨v3, rfl, h3⟩⟩⟩⟩⟩⟩⟩ := h
  exact ⟨_, _, _, _, p1, p3, rfl, by simp, h0, ⟨_, rfl, h1⟩, h2, ⟨_, rfl, h3⟩⟩
theorem ap79 {s : St} {x : Tuple} {v0 v1 v2 v3 : Value} {c : Nat} (c1 : Nat) (h : OwF kd79 s [.int .i64 x.Xmin, .int .i64 x.Xmax, .int .i64 x.Key.Kind, .int .i64 x.Key.N, v0, v1, .int .i64 x.Value.Kind, .int .i64 x.Value.N, v2, v3] x c) (h40 : Nat.ble 40 c = true) : ∃ s', s.w = s'.w ∧ Stp [c] s s' ∧ FL v0 x.Key.F ∧ OwF (Kd.sl 5 (Kd.int .u8)) s' [v1] x.Key.T c ∧ FL v2 x.Value.F ∧ OwF (Kd.sl 5 (Kd.int .u8)) s' [v3] x.Value.T c1 := by
  obtain ⟨os, ho, hn, hc⟩ := h
  obtain ⟨u0, u1, u2, u3, p1, p3, e, eo, h0, h1, h2, h3⟩ := po79 ho
  have y0 : v0 = u0 := congrArg (fun l => (List.drop 4 l).headD undef) e
  have y1 : v1 = u1 := congrArg (fun l => (List.drop 5 l).headD undef) e
  have y2 : v2 = u2 := congrArg (fun l => (List.drop 8 l).headD undef) e
  have y3 : v3 = u3 := congrArg (fun l => (List.drop 9 l).headD undef) e
  subst y0
  subst y1
  subst y2
  subst y3
  subst eo
  obtain ⟨s0, w0, p_0, A1, hn0, hc0⟩ := sp2 c1 h1 hn hc h40
  exact ⟨s0, w0, p_0, h0, A1, h2, sp1 (w0 ▸ h3) hn0 hc0⟩
def ok_Page (x : Page) : Prop := InK .i64 x.Lsn ∧ (x.Slots.length ≤ maxLen ∧ ∀ y ∈ x.Slots, (y.length ≤ maxLen ∧ ∀ y1 ∈ y, InK .u8 y1))
theorem tr73 : Opn Tryz.prog 73 kd73 ok_Page := tr_iso (fun x : Page => (x.Lsn, x.Slots)) (fun x => ⟨x.1, x.2⟩) (fun _ => rfl) (tr_st Tryz.underlying73 (by kernel_rfl) (tf_cons rfl (by kernel_rfl) (tr_int Tryz.underlying3) (tf_last rfl (by kernel_rfl) (tr_sl (e' := 25) Tryz.underlying57 (by kernel_rfl) (tr_sl (e' := 5) Tryz.underlying25 (by kernel_rfl) (tr_int Tryz.underlying5))))))
def ok_Heap (x : Heap) : Prop := (x.Pages.length ≤ maxLen ∧ ∀ y ∈ x.Pages, ok_Page y)
theorem tr24 : Opn Tryz.prog 24 kd24 ok_Heap := tr_iso (fun x : Heap => (x.Pages)) (fun x => ⟨x⟩) (fun _ => rfl) (tr_st Tryz.underlying24 (by kernel_rfl) (tf_last rfl (by kernel_rfl) (tr_sl (e' := 73) Tryz.underlying22 (by kernel_rfl) tr73)))
def ok_Record (x : Record) : Prop := InK .i64 x.Kind ∧ InK .i64 x.Lsn ∧ InK .i64 x.Xid ∧ InK .i64 x.Page ∧ InK .i64 x.Slot ∧ (x.Data.length ≤ maxLen ∧ ∀ y ∈ x.Data, InK .u8 y)
theorem tr27 : Opn Tryz.prog 27 kd27 ok_Record := tr_iso (fun x : Record => (x.Kind, x.Lsn, x.Xid, x.Page, x.Slot, x.Data)) (fun x => ⟨x.1, x.2.1, x.2.2.1, x.2.2.2.1, x.2.2.2.2.1, x.2.2.2.2.2⟩) (fun _ => rfl) (tr_st Tryz.underlying27 (by kernel_rfl) (tf_cons rfl (by kernel_rfl) (tr_int Tryz.underlying3) (tf_cons rfl (by kernel_rfl) (tr_int Tryz.underlying3) (tf_cons rfl (by kernel_rfl) (tr_int Tryz.underlying3) (tf_cons rfl (by kernel_rfl) (tr_int Tryz.underlying3) (tf_cons rfl (by kernel_rfl) (tr_int Tryz.underlying3) (tf_last rfl (by kernel_rfl) (tr_sl (e' := 5) Tryz.underlying25 (by kernel_rfl) (tr_int Tryz.underlying5)))))))))
def ok_Item (x : Item) : Prop := InK .i64 x.Kind ∧ InK .i64 x.N ∧ okF x.F ∧ (x.T.length ≤ maxLen ∧ ∀ y ∈ x.T, InK .u8 y)
def ok_Tuple (x : Tuple) : Prop := InK .i64 x.Xmin ∧ InK .i64 x.Xmax ∧ ok_Item x.Key ∧ ok_Item x.Value
theorem xn123 : Extern.findNext Tryz.f123 = none := by kernel_rfl
theorem xf123 : Extern.find Tryz.f123 = some Extern.MathFloatBits.float64frombits := by kernel_rfl
theorem xn126 : Extern.findNext Tryz.f126 = none := by kernel_rfl
theorem xf126 : Extern.find Tryz.f126 = some Extern.MathFloatBits.float64bits := by kernel_rfl
theorem fa24_0 : ∀ (a : Addr) (w : World), (Instr.fieldAt 24 (.pointer (some a)) 0).run Tryz.prog w = .ok (.pointer (some (a.add 0))) w := fun _ _ => by kernel_rfl
theorem fa27_0 : ∀ (a : Addr) (w : World), (Instr.fieldAt 27 (.pointer (some a)) 0).run Tryz.prog w = .ok (.pointer (some (a.add 0))) w := fun _ _ => by kernel_rfl
theorem fa27_1 : ∀ (a : Addr) (w : World), (Instr.fieldAt 27 (.pointer (some a)) 1).run Tryz.prog w = .ok (.pointer (some (a.add 1))) w := fun _ _ => by kernel_rfl
theorem fa27_2 : ∀ (a : Addr) (w : World), (Instr.fieldAt 27 (.pointer (some a)) 2).run Tryz.prog w = .ok (.pointer (some (a.add 2))) w := fun _ _ => by kernel_rfl
theorem fa27_3 : ∀ (a : Addr) (w : World), (Instr.fieldAt 27 (.pointer (some a)) 3).run Tryz.prog w = .ok (.pointer (some (a.add 3))) w := fun _ _ => by kernel_rfl
theorem fa27_4 : ∀ (a : Addr) (w : World), (Instr.fieldAt 27 (.pointer (some a)) 4).run Tryz.prog w = .ok (.pointer (some (a.add 4))) w := fun _ _ => by kernel_rfl
theorem fa27_5 : ∀ (a : Addr) (w : World), (Instr.fieldAt 27 (.pointer (some a)) 5).run Tryz.prog w = .ok (.pointer (some (a.add 5))) w := fun _ _ => by kernel_rfl
theorem fa32_0 : ∀ (a : Addr) (w : World), (Instr.fieldAt 32 (.pointer (some a)) 0).run Tryz.prog w = .ok (.pointer (some (a.add 0))) w := fun _ _ => by kernel_rfl
theorem fa36_0 : ∀ (a : Addr) (w : World), (Instr.fieldAt 36 (.pointer (some a)) 0).run Tryz.prog w = .ok (.pointer (some (a.add 0))) w := fun _ _ => by kernel_rfl
theorem fa36_1 : ∀ (a : Addr) (w : World), (Instr.fieldAt 36 (.pointer (some a)) 1).run Tryz.prog w = .ok (.pointer (some (a.add 1))) w := fun _ _ => by kernel_rfl
theorem fa36_2 : ∀ (a : Addr) (w : World), (Instr.fieldAt 36 (.pointer (some a)) 2).run Tryz.prog w = .ok (.pointer (some (a.add 2))) w := fun _ _ => by kernel_rfl
theorem fa36_3 : ∀ (a : Addr) (w : World), (Instr.fieldAt 36 (.pointer (some a)) 3).run Tryz.prog w = .ok (.pointer (some (a.add 3))) w := fun _ _ => by kernel_rfl
theorem fa36_4 : ∀ (a : Addr) (w : World), (Instr.fieldAt 36 (.pointer (some a)) 4).run Tryz.prog w = .ok (.pointer (some (a.add 4))) w := fun _ _ => by kernel_rfl
theorem fa36_5 : ∀ (a : Addr) (w : World), (Instr.fieldAt 36 (.pointer (some a)) 5).run Tryz.prog w = .ok (.pointer (some (a.add 5))) w := fun _ _ => by kernel_rfl
theorem fa59_0 : ∀ (a : Addr) (w : World), (Instr.fieldAt 59 (.pointer (some a)) 0).run Tryz.prog w = .ok (.pointer (some (a.add 0))) w := fun _ _ => by kernel_rfl
theorem fa59_1 : ∀ (a : Addr) (w : World), (Instr.fieldAt 59 (.pointer (some a)) 1).run Tryz.prog w = .ok (.pointer (some (a.add 1))) w := fun _ _ => by kernel_rfl
theorem fa73_0 : ∀ (a : Addr) (w : World), (Instr.fieldAt 73 (.pointer (some a)) 0).run Tryz.prog w = .ok (.pointer (some (a.add 0))) w := fun _ _ => by kernel_rfl
theorem fa73_1 : ∀ (a : Addr) (w : World), (Instr.fieldAt 73 (.pointer (some a)) 1).run Tryz.prog w = .ok (.pointer (some (a.add 1))) w := fun _ _ => by kernel_rfl
theorem fa77_0 : ∀ (a : Addr) (w : World), (Instr.fieldAt 77 (.pointer (some a)) 0).run Tryz.prog w = .ok (.pointer (some (a.add 0))) w := fun _ _ => by kernel_rfl
theorem fa77_1 : ∀ (a : Addr) (w : World), (Instr.fieldAt 77 (.pointer (some a)) 1).run Tryz.prog w = .ok (.pointer (some (a.add 1))) w := fun _ _ => by kernel_rfl
theorem fa77_2 : ∀ (a : Addr) (w : World), (Instr.fieldAt 77 (.pointer (some a)) 2).run Tryz.prog w = .ok (.pointer (some (a.add 2))) w := fun _ _ => by kernel_rfl
theorem fa77_3 : ∀ (a : Addr) (w : World), (Instr.fieldAt 77 (.pointer (some a)) 3).run Tryz.prog w = .ok (.pointer (some (a.add 3))) w := fun _ _ => by kernel_rfl
theorem fa79_0 : ∀ (a : Addr) (w : World), (Instr.fieldAt 79 (.pointer (some a)) 0).run Tryz.prog w = .ok (.pointer (some (a.add 0))) w := fun _ _ => by kernel_rfl
theorem fa79_1 : ∀ (a : Addr) (w : World), (Instr.fieldAt 79 (.pointer (some a)) 1).run Tryz.prog w = .ok (.pointer (some (a.add 1))) w := fun _ _ => by kernel_rfl
theorem fa79_2 : ∀ (a : Addr) (w : World), (Instr.fieldAt 79 (.pointer (some a)) 2).run Tryz.prog w = .ok (.pointer (some (a.add 2))) w := fun _ _ => by kernel_rfl
theorem fa79_3 : ∀ (a : Addr) (w : World), (Instr.fieldAt 79 (.pointer (some a)) 3).run Tryz.prog w = .ok (.pointer (some (a.add 6))) w := fun _ _ => by kernel_rfl
theorem o25 : (Tryz.prog.info? 25).bind (·.zero) = some (.slice none 0 0) := by kernel_rfl
theorem o32 : (Tryz.prog.info? 32).bind (·.zero) = some (.agg #[.slice none 0 0]) := by kernel_rfl
theorem o36 : (Tryz.prog.info? 36).bind (·.zero) = some (.agg #[.int .i64 0, .int .i64 0, .int .i64 0, .int .i64 0, .int .i64 0, .slice none 0 0]) := by kernel_rfl
theorem o5 : (Tryz.prog.info? 5).bind (·.zero) = some (.int .u8 0) := by kernel_rfl
theorem o59 : (Tryz.prog.info? 59).bind (·.zero) = some (.agg #[.int .i64 0, .slice none 0 0]) := by kernel_rfl
theorem o77 : (Tryz.prog.info? 77).bind (·.zero) = some (.agg #[.int .i64 0, .int .i64 0, .float .f64 0, .slice none 0 0]) := by kernel_rfl
theorem o79 : (Tryz.prog.info? 79).bind (·.zero) = some (.agg #[.int .i64 0, .int .i64 0, .int .i64 0, .int .i64 0, .float .f64 0, .slice none 0 0, .int .i64 0, .int .i64 0, .float .f64 0, .slice none 0 0]) := by kernel_rfl
theorem pl32 : PlF Tryz.prog 32 #[(0, 1)] := ⟨_, Tryz.underlying32, fun _ => by kernel_rfl⟩
theorem pl59 : PlF Tryz.prog 59 #[(0, 1), (1, 1)] := ⟨_, Tryz.underlying59, fun _ => by kernel_rfl⟩
theorem pl77 : PlF Tryz.prog 77 #[(0, 1), (1, 1), (2, 1), (3, 1)] := ⟨_, Tryz.underlying77, fun _ => by kernel_rfl⟩
theorem pl79 : PlF Tryz.prog 79 #[(0, 1), (1, 1), (2, 4), (6, 4)] := ⟨_, Tryz.underlying79, fun _ => by kernel_rfl⟩
theorem sl25 : SlT Tryz.prog 25 5 1 := SlT.mk (by_ := 1) (z := (.int .u8 0)) Tryz.underlying25 (by kernel_rfl) rfl rfl rfl
theorem sl30 : SlT Tryz.prog 30 59 2 := SlT.mk (by_ := 32) (z := (.agg #[.int .i64 0, .slice none 0 0])) Tryz.underlying30 (by kernel_rfl) rfl rfl rfl
theorem sl47 : SlT Tryz.prog 47 36 6 := SlT.mk (by_ := 64) (z := (.agg #[.int .i64 0, .int .i64 0, .int .i64 0, .int .i64 0, .int .i64 0, .slice none 0 0])) Tryz.underlying47 (by kernel_rfl) rfl rfl rfl
theorem sl57 : SlT Tryz.prog 57 25 1 := SlT.mk (by_ := 24) (z := (.slice none 0 0)) Tryz.underlying57 (by kernel_rfl) rfl rfl rfl
theorem z24 : (Tryz.prog.info? 24).map (·.size) = some 1 := by kernel_rfl
theorem z25 : (Tryz.prog.info? 25).map (·.size) = some 1 := by kernel_rfl
theorem z27 : (Tryz.prog.info? 27).map (·.size) = some 6 := by kernel_rfl
theorem z3 : (Tryz.prog.info? 3).map (·.size) = some 1 := by kernel_rfl
theorem z30 : (Tryz.prog.info? 30).map (·.size) = some 1 := by kernel_rfl
theorem z32 : (Tryz.prog.info? 32).map (·.size) = some 1 := by kernel_rfl
theorem z36 : (Tryz.prog.info? 36).map (·.size) = some 6 := by kernel_rfl
theorem z5 : (Tryz.prog.info? 5).map (·.size) = some 1 := by kernel_rfl
theorem z57 : (Tryz.prog.info? 57).map (·.size) = some 1 := by kernel_rfl
theorem z59 : (Tryz.prog.info? 59).map (·.size) = some 2 := by kernel_rfl
theorem z73 : (Tryz.prog.info? 73).map (·.size) = some 2 := by kernel_rfl
theorem z75 : (Tryz.prog.info? 75).map (·.size) = some 1 := by kernel_rfl
theorem z77 : (Tryz.prog.info? 77).map (·.size) = some 4 := by kernel_rfl
theorem z79 : (Tryz.prog.info? 79).map (·.size) = some 10 := by kernel_rfl
abbrev Yo := Kd.sl 5 (Kd.int .u8)
abbrev Yp := Kd.sl 59 kd59
abbrev Yr := Kd.sl 36 kd36
abbrev u3 := Tryz.underlying3
abbrev u5 := Tryz.underlying5
abbrev u9 := Tryz.underlying9
abbrev u22 := Tryz.underlying22
abbrev u24 := Tryz.underlying24
abbrev u25 := Tryz.underlying25
abbrev u27 := Tryz.underlying27
abbrev u30 := Tryz.underlying30
abbrev u32 := Tryz.underlying32
abbrev u36 := Tryz.underlying36
abbrev u43 := Tryz.underlying43
abbrev u47 := Tryz.underlying47
abbrev u57 := Tryz.underlying57
abbrev u59 := Tryz.underlying59
abbrev u69 := Tryz.underlying69
abbrev u73 := Tryz.underlying73
abbrev u75 := Tryz.underlying75
abbrev u77 := Tryz.underlying77
abbrev u79 := Tryz.underlying79
abbrev u93 := Tryz.underlying93
abbrev u94 := Tryz.underlying94
abbrev u111 := Tryz.underlying111
abbrev u121 := Tryz.underlying121
end Go.Proofs.YtkkpplnhcpjmgaaGreat
