import Derived.Test.YtbkiaccollbjnaaGreatProg
import Derived.Test.YtbkiaccollbjnaaGreatG2
import Derived.KernelRfl

set_option linter.unusedVariables false
set_option linter.unusedSimpArgs false
namespace Go.Proofs.YtbkiaccollbjnaaGreat
open Go V
structure Item where
  Kind : Int
  N : Int
  F : Nat
  T : (List Int)
  deriving Inhabited, DecidableEq
structure Span where
  From : Item
  To : Item
  deriving Inhabited, DecidableEq
structure Deed where
  Xid : Int
  Begun : Int
  Ended : Int
  Reads : (List Span)
  Writes : (List Item)
  deriving Inhabited, DecidableEq
structure A2Int where
  e0 : Int
  e1 : Int
  deriving Inhabited, DecidableEq
def kd81 : Kd Item := Kd.iso (Kd.pair (Kd.int .i64) (Kd.pair (Kd.int .i64) (Kd.pair Kd.flt (Kd.sl 5 (Kd.int .u8))))) fun x => (x.Kind, x.N, x.F, x.T)
theorem op81 {s : St} {cs : List Value} {x : Item} {C : List Nat} (h : RdF kd81 s cs x C) : ∃ (v0 : Value) (v1 : Value), cs = [.int .i64 x.Kind, .int .i64 x.N, v0, v1] ∧ FL v0 x.F ∧ RdF (Kd.sl 5 (Kd.int .u8)) s [v1] x.T C := by
  obtain ⟨_, _, rfl, rfl, ⟨_, _, rfl, rfl, ⟨_, _, rfl, ⟨v0, rfl, h0⟩, ⟨v1, rfl, h1⟩⟩⟩⟩ := h
  exact ⟨v0, v1, rfl, h0, ⟨_, rfl, h1⟩⟩
def kd83 : Kd Span := Kd.iso (Kd.pair kd81 kd81) fun x => (x.From, x.To)
theorem op83 {s : St} {cs : List Value} {x : Span} {C : List Nat} (h : RdF kd83 s cs x C) : ∃ (v0 : Value) (v1 : Value) (v2 : Value) (v3 : Value), cs = [.int .i64 x.From.Kind, .int .i64 x.From.N, v0, v1, .int .i64 x.To.Kind, .int .i64 x.To.N, v2, v3] ∧ FL v0 x.From.F ∧ RdF (Kd.sl 5 (Kd.int .u8)) s [v1] x.From.T C ∧ FL v2 x.To.F ∧ RdF (Kd.sl 5 (Kd.int .u8)) s [v3] x.To.T C := by
  obtain ⟨_, _, rfl, ⟨_, _, rfl, rfl, ⟨_, _, rfl, rfl, ⟨_, _, rfl, ⟨v0, rfl, h0⟩, ⟨v1, rfl, h1⟩⟩⟩⟩, ⟨_, _, rfl, rfl, ⟨_, _, rfl, rfl, ⟨_, _, rfl, ⟨v2, rfl, h2⟩, ⟨v3, rfl, h3⟩⟩⟩⟩⟩ := h
  exact ⟨v0, v1, v2, v3, rfl, h0, ⟨_, rfl, h1⟩, h2, ⟨_, rfl, h3⟩⟩
def kd37 : Kd Deed := Kd.iso (Kd.pair (Kd.int .i64) (Kd.pair (Kd.int .i64) (Kd.pair (Kd.int .i64) (Kd.pair (Kd.sl 83 kd83) (Kd.sl 81 kd81))))) fun x => (x.Xid, x.Begun, x.Ended, x.Reads, x.Writes)
theorem op37 {s : St} {cs : List Value} {x : Deed} {C : List Nat} (h : RdF kd37 s cs x C) : ∃ (v0 : Value) (v1 : Value), cs = [.int .i64 x.Xid, .int .i64 x.Begun, .int .i64 x.Ended, v0, v1] ∧ RdF (Kd.sl 83 kd83) s [v0] x.Reads C ∧ RdF (Kd.sl 81 kd81) s [v1] x.Writes C := by
  obtain ⟨_, _, rfl, rfl, ⟨_, _, rfl, rfl, ⟨_, _, rfl, rfl, ⟨_, _, rfl, ⟨v0, rfl, h0⟩, ⟨v1, rfl, h1⟩⟩⟩⟩⟩ := h
  exact ⟨v0, v1, rfl, ⟨_, rfl, h0⟩, ⟨_, rfl, h1⟩⟩
def kd61 : Kd Item := Kd.iso (Kd.pair (Kd.int .i64) (Kd.pair (Kd.int .i64) (Kd.pair Kd.flt (Kd.sl 5 (Kd.int .u8))))) fun x => (x.Kind, x.N, x.F, x.T)
theorem op61 {s : St} {cs : List Value} {x : Item} {C : List Nat} (h : RdF kd61 s cs x C) : ∃ (v0 : Value) (v1 : Value), cs = [.int .i64 x.Kind, .int .i64 x.N, v0, v1] ∧ FL v0 x.F ∧ RdF (Kd.sl 5 (Kd.int .u8)) s [v1] x.T C := by
  obtain ⟨_, _, rfl, rfl, ⟨_, _, rfl, rfl, ⟨_, _, rfl, ⟨v0, rfl, h0⟩, ⟨v1, rfl, h1⟩⟩⟩⟩ := h
  exact ⟨v0, v1, rfl, h0, ⟨_, rfl, h1⟩⟩
theorem po61 {w : World} {cs : List Value} {x : Item} {os : List Nat} (h : kd61.ow w cs x os) : ∃ (v0 : Value) (v1 : Value) (p1 : List Nat), cs = [.int .i64 x.Kind, .int .i64 x.N, v0, v1] ∧ os = p1 ∧ FL v0 x.F ∧ (Kd.sl 5 (Kd.int .u8)).ow w [v1] x.T p1 := by
  obtain ⟨_, _, _, _, rfl, rfl, ⟨rfl, rfl⟩, ⟨_, _, _, _, rfl, rfl, ⟨rfl, rfl⟩, ⟨_, _, _, p1, rfl, rfl, ⟨⟨v0, rfl, h0⟩, rfl⟩, ⟨v1, rfl, h1⟩⟩⟩⟩ := h
  exact ⟨_, _, p1, rfl, by simp, h0, ⟨_, rfl, h1⟩⟩
theorem ap61 {s : St} {x : Item} {v0 v1 : Value} {c : Nat} (h : OwF kd61 s [.int .i64 x.Kind, .int .i64 x.N, v0, v1] x c) : FL v0 x.F ∧ OwF (Kd.sl 5 (Kd.int .u8)) s [v1] x.T c := by
  obtain ⟨os, ho, hn, hc⟩ := h
  obtain ⟨u0, u1, p1, e, eo, h0, h1⟩ := po61 ho
  have y0 : v0 = u0 := congrArg (fun l => (List.drop 2 l).headD undef) e
  have y1 : v1 = u1 := congrArg (fun l => (List.drop 3 l).headD undef) e
  subst y0
  subst y1
  subst eo
  exact ⟨h0, sp1 h1 hn hc⟩
def kd63 : Kd Span := Kd.iso (Kd.pair kd61 kd61) fun x => (x.From, x.To)
theorem op63 {s : St} {cs : List Value} {x : Span} {C : List Nat} (h : RdF kd63 s cs x C) : ∃ (v0 : Value) (v1 : Value) (v2 : Value) (v3 : Value), cs = [.int .i64 x.From.Kind, .int .i64 x.From.N, v0, v1, .int .i64 x.To.Kind, .int .i64 x.To.N, v2, v3] ∧ FL v0 x.From.F ∧ RdF (Kd.sl 5 (Kd.int .u8)) s [v1] x.From.T C ∧ FL v2 x.To.F ∧ RdF (Kd.sl 5 (Kd.int .u8)) s [v3] x.To.T C := by
  obtain ⟨_, _, rfl, ⟨_, _, rfl, rfl, ⟨_, _, rfl, rfl, ⟨_, _, rfl, ⟨v0, rfl, h0⟩, ⟨v1, rfl, h1⟩⟩⟩⟩, ⟨_, _, rfl, rfl, ⟨_, _, rfl, rfl, ⟨_, _, rfl, ⟨v2, rfl, h2⟩, ⟨v3, rfl, h3⟩⟩⟩⟩⟩ := h
  exact ⟨v0, v1, v2, v3, rfl, h0, ⟨_, rfl, h1⟩, h2, ⟨_, rfl, h3⟩⟩
theorem po63 {w : World} {cs : List Value} {x : Span} {os : List Nat} (h : kd63.ow w cs x os) : ∃ (v0 : Value) (v1 : Value) (v2 : Value) (v3 : Value) (p1 : List Nat) (p3 : List Nat), cs = [.int .i64 x.From.Kind, .int .i64 x.From.N, v0, v1, .int .i64 x.To.Kind, .int .i64 x.To.N, v2, v3] ∧ os = p1 ++ (p3) ∧ FL v0 x.From.F ∧ (Kd.sl 5 (Kd.int .u8)).ow w [v1] x.From.T p1 ∧ FL v2 x.To.F ∧ (Kd.sl 5 (Kd.int .u8)).ow w [v3] x.To.T p3 := by
  obtain ⟨_, _, _, _, rfl, rfl, ⟨_, _, _, _, rfl, rfl, ⟨rfl, rfl⟩, ⟨_, _, _, _, rfl, rfl, ⟨rfl, rfl⟩, ⟨_, _, _, p1, rfl, rfl, ⟨⟨v0, rfl, h0⟩, rfl⟩, ⟨v1, rfl, h1⟩⟩⟩⟩, ⟨_, _, _, _, rfl, rfl, ⟨rfl, rfl⟩, ⟨_, _, _, _, rfl, rfl, ⟨rfl, rfl⟩, ⟨_, _, _, p3, rfl, rfl, ⟨⟨v2, rfl, h2⟩, rfl⟩, ⟨v3, rfl, h3⟩⟩⟩⟩⟩ := h
  exact ⟨_, _, _, _, p1, p3, rfl, by simp, h0, ⟨_, rfl, h1⟩, h2, ⟨_, rfl, h3⟩⟩
theorem ap63 {s : St} {x : Span} {v0 v1 v2 v3 : Value} {c : Nat} (c1 : Nat) (h : OwF kd63 s [.int .i64 x.From.Kind, .int .i64 x.From.N, v0, v1, .int .i64 x.To.Kind, .int .i64 x.To.N, v2, v3] x c) (h40 : Nat.ble 40 c = true) : ∃ s', s.w = s'.w ∧ Stp [c] s s' ∧ FL v0 x.From.F ∧ OwF (Kd.sl 5 (Kd.int .u8)) s' [v1] x.From.T c ∧ FL v2 x.To.F ∧ OwF (Kd.sl 5 (Kd.int .u8)) s' [v3] x.To.T c1 := by
  obtain ⟨os, ho, hn, hc⟩ := h
  obtain ⟨u0, u1, u2, u3, p1, p3, e, eo, h0, h1, h2, h3⟩ := po63 ho
  have y0 : v0 = u0 := congrArg (fun l => (List.drop 2 l).headD undef) e
  have y1 : v1 = u1 := congrArg (fun l => (List.drop 3 l).headD undef) e
  have y2 : v2 = u2 := congrArg (fun l => (List.drop 6 l).headD undef) e
  have y3 : v3 = u3 := congrArg (fun l => (List.drop 7 l).headD undef) e
  subst y0
  subst y1
  subst y2
  subst y3
  subst eo
  obtain ⟨s0, w0, p_0, A1, hn0, hc0⟩ := sp2 c1 h1 hn hc h40
  exact ⟨s0, w0, p_0, h0, A1, h2, sp1 (w0 ▸ h3) hn0 hc0⟩
def kd43 : Kd Deed := Kd.iso (Kd.pair (Kd.int .i64) (Kd.pair (Kd.int .i64) (Kd.pair (Kd.int .i64) (Kd.pair (Kd.sl 63 kd63) (Kd.sl 61 kd61))))) fun x => (x.Xid, x.Begun, x.Ended, x.Reads, x.Writes)
theorem op43 {s : St} {cs : List Value} {x : Deed} {C : List Nat} (h : RdF kd43 s cs x C) : ∃ (v0 : Value) (v1 : Value), cs = [.int .i64 x.Xid, .int .i64 x.Begun, .int .i64 x.Ended, v0, v1] ∧ RdF (Kd.sl 63 kd63) s [v0] x.Reads C ∧ RdF (Kd.sl 61 kd61) s [v1] x.Writes C := by
  obtain ⟨_, _, rfl, rfl, ⟨_, _, rfl, rfl, ⟨_, _, rfl, rfl, ⟨_, _, rfl, ⟨v0, rfl, h0⟩, ⟨v1, rfl, h1⟩⟩⟩⟩⟩ := h
  exact ⟨v0, v1, rfl, ⟨_, rfl, h0⟩, ⟨_, rfl, h1⟩⟩
theorem po43 {w : World} {cs : List Value} {x : Deed} {os : List Nat} (h : kd43.ow w cs x os) : ∃ (v0 : Value) (v1 : Value) (p0 : List Nat) (p1 : List Nat), cs = [.int .i64 x.Xid, .int .i64 x.Begun, .int .i64 x.Ended, v0, v1] ∧ os = p0 ++ (p1) ∧ (Kd.sl 63 kd63).ow w [v0] x.Reads p0 ∧ (Kd.sl 61 kd61).ow w [v1] x.Writes p1 := by
  obtain ⟨_, _, _, _, rfl, rfl, ⟨rfl, rfl⟩, ⟨_, _, _, _, rfl, rfl, ⟨rfl, rfl⟩, ⟨_, _, _, _, rfl, rfl, ⟨rfl, rfl⟩, ⟨_, _, p0, p1, rfl, rfl, ⟨v0, rfl, h0⟩, ⟨v1, rfl, h1⟩⟩⟩⟩⟩ := h
  exact ⟨_, _, p0, p1, rfl, by simp, ⟨_, rfl, h0⟩, ⟨_, rfl, h1⟩⟩
theorem ap43 {s : St} {x : Deed} {v0 v1 : Value} {c : Nat} (c1 : Nat) (h : OwF kd43 s [.int .i64 x.Xid, .int .i64 x.Begun, .int .i64 x.Ended, v0, v1] x c) (h40 : Nat.ble 40 c = true) : ∃ s', s.w = s'.w ∧ Stp [c] s s' ∧ OwF (Kd.sl 63 kd63) s' [v0] x.Reads c ∧ OwF (Kd.sl 61 kd61) s' [v1] x.Writes c1 := by
  obtain ⟨os, ho, hn, hc⟩ := h
  obtain ⟨u0, u1, p0, p1, e, eo, h0, h1⟩ := po43 ho
  have y0 : v0 = u0 := congrArg (fun l => (List.drop 3 l).headD undef) e
  have y1 : v1 = u1 := congrArg (fun l => (List.drop 4 l).headD undef) e
  subst y0
  subst y1
  subst eo
  obtain ⟨s0, w0, p_0, A0, hn0, hc0⟩ := sp2 c1 h0 hn hc h40
  exact ⟨s0, w0, p_0, A0, sp1 (w0 ▸ h1) hn0 hc0⟩
def kd44 : Kd A2Int := Kd.iso (Kd.pair (Kd.int .i64) (Kd.int .i64)) fun x => (x.e0, x.e1)
theorem op44 {s : St} {cs : List Value} {x : A2Int} {C : List Nat} (h : RdF kd44 s cs x C) : cs = [.int .i64 x.e0, .int .i64 x.e1] := by
  obtain ⟨_, _, rfl, rfl, rfl⟩ := h
  rfl
def ok_Item (x : Item) : Prop := InK .i64 x.Kind ∧ InK .i64 x.N ∧ okF x.F ∧ (x.T.length ≤ maxLen ∧ ∀ y ∈ x.T, InK .u8 y)
theorem tr81 : Opn Tryz.prog 81 kd81 ok_Item := tr_iso (fun x : Item => (x.Kind, x.N, x.F, x.T)) (fun x => ⟨x.1, x.2.1, x.2.2.1, x.2.2.2⟩) (fun _ => rfl) (tr_st Tryz.underlying81 (by kernel_rfl) (tf_cons rfl (by kernel_rfl) (tr_int Tryz.underlying3) (tf_cons rfl (by kernel_rfl) (tr_int Tryz.underlying3) (tf_cons rfl (by kernel_rfl) (tr_flt Tryz.underlying58) (tf_last rfl (by kernel_rfl) (tr_sl (e' := 5) Tryz.underlying59 (by kernel_rfl) (tr_int Tryz.underlying5)))))))
def ok_Span (x : Span) : Prop := ok_Item x.From ∧ ok_Item x.To
theorem tr83 : Opn Tryz.prog 83 kd83 ok_Span := tr_iso (fun x : Span => (x.From, x.To)) (fun x => ⟨x.1, x.2⟩) (fun _ => rfl) (tr_st Tryz.underlying83 (by kernel_rfl) (tf_cons rfl (by kernel_rfl) tr81 (tf_last rfl (by kernel_rfl) tr81)))
def ok_Deed (x : Deed) : Prop := InK .i64 x.Xid ∧ InK .i64 x.Begun ∧ InK .i64 x.Ended ∧ (x.Reads.length ≤ maxLen ∧ ∀ y ∈ x.Reads, ok_Span y) ∧ (x.Writes.length ≤ maxLen ∧ ∀ y ∈ x.Writes, ok_Item y)
theorem tr37 : Opn Tryz.prog 37 kd37 ok_Deed := tr_iso (fun x : Deed => (x.Xid, x.Begun, x.Ended, x.Reads, x.Writes)) (fun x => ⟨x.1, x.2.1, x.2.2.1, x.2.2.2.1, x.2.2.2.2⟩) (fun _ => rfl) (tr_st Tryz.underlying37 (by kernel_rfl) (tf_cons rfl (by kernel_rfl) (tr_int Tryz.underlying3) (tf_cons rfl (by kernel_rfl) (tr_int Tryz.underlying3) (tf_cons rfl (by kernel_rfl) (tr_int Tryz.underlying3) (tf_cons rfl (by kernel_rfl) (tr_sl (e' := 83) Tryz.underlying34 (by kernel_rfl) tr83) (tf_last rfl (by kernel_rfl) (tr_sl (e' := 81) Tryz.underlying35 (by kernel_rfl) tr81)))))))
theorem xn107 : Extern.findNext Tryz.f107 = none := by kernel_rfl
theorem xf107 : Extern.find Tryz.f107 = some Extern.BytealgCompare.compare := by kernel_rfl
theorem xn85 : Extern.findNext Tryz.f85 = none := by kernel_rfl
theorem xf85 : Extern.find Tryz.f85 = some Extern.MathFloatBits.float64bits := by kernel_rfl
theorem fa37_0 : ∀ (a : Addr) (w : World), (Instr.fieldAt 37 (.pointer (some a)) 0).run Tryz.prog w = .ok (.pointer (some (a.add 0))) w := fun _ _ => by kernel_rfl
theorem fa37_1 : ∀ (a : Addr) (w : World), (Instr.fieldAt 37 (.pointer (some a)) 1).run Tryz.prog w = .ok (.pointer (some (a.add 1))) w := fun _ _ => by kernel_rfl
theorem fa37_2 : ∀ (a : Addr) (w : World), (Instr.fieldAt 37 (.pointer (some a)) 2).run Tryz.prog w = .ok (.pointer (some (a.add 2))) w := fun _ _ => by kernel_rfl
theorem fa37_3 : ∀ (a : Addr) (w : World), (Instr.fieldAt 37 (.pointer (some a)) 3).run Tryz.prog w = .ok (.pointer (some (a.add 3))) w := fun _ _ => by kernel_rfl
theorem fa37_4 : ∀ (a : Addr) (w : World), (Instr.fieldAt 37 (.pointer (some a)) 4).run Tryz.prog w = .ok (.pointer (some (a.add 4))) w := fun _ _ => by kernel_rfl
theorem fa43_0 : ∀ (a : Addr) (w : World), (Instr.fieldAt 43 (.pointer (some a)) 0).run Tryz.prog w = .ok (.pointer (some (a.add 0))) w := fun _ _ => by kernel_rfl
theorem fa43_1 : ∀ (a : Addr) (w : World), (Instr.fieldAt 43 (.pointer (some a)) 1).run Tryz.prog w = .ok (.pointer (some (a.add 1))) w := fun _ _ => by kernel_rfl
theorem fa43_2 : ∀ (a : Addr) (w : World), (Instr.fieldAt 43 (.pointer (some a)) 2).run Tryz.prog w = .ok (.pointer (some (a.add 2))) w := fun _ _ => by kernel_rfl
theorem fa43_3 : ∀ (a : Addr) (w : World), (Instr.fieldAt 43 (.pointer (some a)) 3).run Tryz.prog w = .ok (.pointer (some (a.add 3))) w := fun _ _ => by kernel_rfl
theorem fa43_4 : ∀ (a : Addr) (w : World), (Instr.fieldAt 43 (.pointer (some a)) 4).run Tryz.prog w = .ok (.pointer (some (a.add 4))) w := fun _ _ => by kernel_rfl
theorem fa61_0 : ∀ (a : Addr) (w : World), (Instr.fieldAt 61 (.pointer (some a)) 0).run Tryz.prog w = .ok (.pointer (some (a.add 0))) w := fun _ _ => by kernel_rfl
theorem fa61_1 : ∀ (a : Addr) (w : World), (Instr.fieldAt 61 (.pointer (some a)) 1).run Tryz.prog w = .ok (.pointer (some (a.add 1))) w := fun _ _ => by kernel_rfl
theorem fa61_2 : ∀ (a : Addr) (w : World), (Instr.fieldAt 61 (.pointer (some a)) 2).run Tryz.prog w = .ok (.pointer (some (a.add 2))) w := fun _ _ => by kernel_rfl
theorem fa61_3 : ∀ (a : Addr) (w : World), (Instr.fieldAt 61 (.pointer (some a)) 3).run Tryz.prog w = .ok (.pointer (some (a.add 3))) w := fun _ _ => by kernel_rfl
theorem fa63_0 : ∀ (a : Addr) (w : World), (Instr.fieldAt 63 (.pointer (some a)) 0).run Tryz.prog w = .ok (.pointer (some (a.add 0))) w := fun _ _ => by kernel_rfl
theorem fa63_1 : ∀ (a : Addr) (w : World), (Instr.fieldAt 63 (.pointer (some a)) 1).run Tryz.prog w = .ok (.pointer (some (a.add 4))) w := fun _ _ => by kernel_rfl
theorem fa81_0 : ∀ (a : Addr) (w : World), (Instr.fieldAt 81 (.pointer (some a)) 0).run Tryz.prog w = .ok (.pointer (some (a.add 0))) w := fun _ _ => by kernel_rfl
theorem fa81_1 : ∀ (a : Addr) (w : World), (Instr.fieldAt 81 (.pointer (some a)) 1).run Tryz.prog w = .ok (.pointer (some (a.add 1))) w := fun _ _ => by kernel_rfl
theorem fa81_2 : ∀ (a : Addr) (w : World), (Instr.fieldAt 81 (.pointer (some a)) 2).run Tryz.prog w = .ok (.pointer (some (a.add 2))) w := fun _ _ => by kernel_rfl
theorem fa81_3 : ∀ (a : Addr) (w : World), (Instr.fieldAt 81 (.pointer (some a)) 3).run Tryz.prog w = .ok (.pointer (some (a.add 3))) w := fun _ _ => by kernel_rfl
theorem fa83_0 : ∀ (a : Addr) (w : World), (Instr.fieldAt 83 (.pointer (some a)) 0).run Tryz.prog w = .ok (.pointer (some (a.add 0))) w := fun _ _ => by kernel_rfl
theorem fa83_1 : ∀ (a : Addr) (w : World), (Instr.fieldAt 83 (.pointer (some a)) 1).run Tryz.prog w = .ok (.pointer (some (a.add 4))) w := fun _ _ => by kernel_rfl
theorem o3 : (Tryz.prog.info? 3).bind (·.zero) = some (.int .i64 0) := by kernel_rfl
theorem o4 : (Tryz.prog.info? 4).bind (·.zero) = some (.bool false) := by kernel_rfl
theorem o43 : (Tryz.prog.info? 43).bind (·.zero) = some (.agg #[.int .i64 0, .int .i64 0, .int .i64 0, .slice none 0 0, .slice none 0 0]) := by kernel_rfl
theorem o44 : (Tryz.prog.info? 44).bind (·.zero) = some (.agg #[.int .i64 0, .int .i64 0]) := by kernel_rfl
theorem o48 : (Tryz.prog.info? 48).bind (·.zero) = some (.slice none 0 0) := by kernel_rfl
theorem o5 : (Tryz.prog.info? 5).bind (·.zero) = some (.int .u8 0) := by kernel_rfl
theorem o61 : (Tryz.prog.info? 61).bind (·.zero) = some (.agg #[.int .i64 0, .int .i64 0, .float .f64 0, .slice none 0 0]) := by kernel_rfl
theorem o63 : (Tryz.prog.info? 63).bind (·.zero) = some (.agg #[.int .i64 0, .int .i64 0, .float .f64 0, .slice none 0 0, .int .i64 0, .int .i64 0, .float .f64 0, .slice none 0 0]) := by kernel_rfl
theorem sl24 : SlT Tryz.prog 24 44 2 := SlT.mk (by_ := 16) (z := (.agg #[.int .i64 0, .int .i64 0])) Tryz.underlying24 (by kernel_rfl) rfl rfl rfl
theorem sl26 : SlT Tryz.prog 26 43 5 := SlT.mk (by_ := 72) (z := (.agg #[.int .i64 0, .int .i64 0, .int .i64 0, .slice none 0 0, .slice none 0 0])) Tryz.underlying26 (by kernel_rfl) rfl rfl rfl
theorem sl40 : SlT Tryz.prog 40 63 8 := SlT.mk (by_ := 96) (z := (.agg #[.int .i64 0, .int .i64 0, .float .f64 0, .slice none 0 0, .int .i64 0, .int .i64 0, .float .f64 0, .slice none 0 0])) Tryz.underlying40 (by kernel_rfl) rfl rfl rfl
theorem sl41 : SlT Tryz.prog 41 61 4 := SlT.mk (by_ := 48) (z := (.agg #[.int .i64 0, .int .i64 0, .float .f64 0, .slice none 0 0])) Tryz.underlying41 (by kernel_rfl) rfl rfl rfl
theorem sl46 : SlT Tryz.prog 46 48 1 := SlT.mk (by_ := 24) (z := (.slice none 0 0)) Tryz.underlying46 (by kernel_rfl) rfl rfl rfl
theorem sl48 : SlT Tryz.prog 48 3 1 := SlT.mk (by_ := 8) (z := (.int .i64 0)) Tryz.underlying48 (by kernel_rfl) rfl rfl rfl
theorem sl59 : SlT Tryz.prog 59 5 1 := SlT.mk (by_ := 1) (z := (.int .u8 0)) Tryz.underlying59 (by kernel_rfl) rfl rfl rfl
theorem z3 : (Tryz.prog.info? 3).map (·.size) = some 1 := by kernel_rfl
theorem z37 : (Tryz.prog.info? 37).map (·.size) = some 5 := by kernel_rfl
theorem z40 : (Tryz.prog.info? 40).map (·.size) = some 1 := by kernel_rfl
theorem z41 : (Tryz.prog.info? 41).map (·.size) = some 1 := by kernel_rfl
theorem z43 : (Tryz.prog.info? 43).map (·.size) = some 5 := by kernel_rfl
theorem z44 : (Tryz.prog.info? 44).map (·.size) = some 2 := by kernel_rfl
theorem z48 : (Tryz.prog.info? 48).map (·.size) = some 1 := by kernel_rfl
theorem z5 : (Tryz.prog.info? 5).map (·.size) = some 1 := by kernel_rfl
theorem z58 : (Tryz.prog.info? 58).map (·.size) = some 1 := by kernel_rfl
theorem z59 : (Tryz.prog.info? 59).map (·.size) = some 1 := by kernel_rfl
theorem z61 : (Tryz.prog.info? 61).map (·.size) = some 4 := by kernel_rfl
theorem z63 : (Tryz.prog.info? 63).map (·.size) = some 8 := by kernel_rfl
theorem z81 : (Tryz.prog.info? 81).map (·.size) = some 4 := by kernel_rfl
theorem z83 : (Tryz.prog.info? 83).map (·.size) = some 8 := by kernel_rfl
abbrev Xr := Kd.sl 5 (Kd.int .u8)
abbrev Xs := Kd.sl 63 kd63
abbrev Xt := Kd.sl 61 kd61
abbrev Xu := Kd.sl 43 kd43
abbrev Xv := Kd.sl 44 kd44
abbrev Xw := Kd.sl 3 (Kd.int .i64)
abbrev u3 := Tryz.underlying3
abbrev u4 := Tryz.underlying4
abbrev u5 := Tryz.underlying5
abbrev u22 := Tryz.underlying22
abbrev u24 := Tryz.underlying24
abbrev u26 := Tryz.underlying26
abbrev u34 := Tryz.underlying34
abbrev u35 := Tryz.underlying35
abbrev u37 := Tryz.underlying37
abbrev u40 := Tryz.underlying40
abbrev u41 := Tryz.underlying41
abbrev u43 := Tryz.underlying43
abbrev u44 := Tryz.underlying44
abbrev u46 := Tryz.underlying46
abbrev u48 := Tryz.underlying48
abbrev u57 := Tryz.underlying57
abbrev u58 := Tryz.underlying58
abbrev u59 := Tryz.underlying59
abbrev u61 := Tryz.underlying61
abbrev u63 := Tryz.underlying63
abbrev u64 := Tryz.underlying64
abbrev u70 := Tryz.underlying70
abbrev u81 := Tryz.underlying81
abbrev u83 := Tryz.underlying83
abbrev u86 := Tryz.underlying86
abbrev u93 := Tryz.underlying93
end Go.Proofs.YtbkiaccollbjnaaGreat
