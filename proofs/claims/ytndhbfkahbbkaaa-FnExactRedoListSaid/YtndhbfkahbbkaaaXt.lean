/- The types of the program as data, and how they read out of memory. -/
import Derived.Test.YtndhbfkahbbkaaaProg
import Derived.Test.YtndhbfkahbbkaaaVq
import Derived.KernelRfl
set_option linter.unusedVariables false
set_option linter.unusedSimpArgs false
namespace Go.Proofs.Ytndhbfkahbbkaaa
open Go V
structure Control where
  Seq : Int
  Area : Int
  Lsn : Int
  Next : Int
  Pages : Int
  deriving Inhabited, DecidableEq
structure Record where
  Kind : Int
  Lsn : Int
  Xid : Int
  Page : Int
  Slot : Int
  Data : (List Int)
  deriving Inhabited, DecidableEq
structure l1Cur where
  b : (List Int)
  i : Int
  h : Int
  deriving Inhabited, DecidableEq
def kd23 : Kd Control := Kd.iso (Kd.pair (Kd.int .i64) (Kd.pair (Kd.int .i64) (Kd.pair (Kd.int .i64) (Kd.pair (Kd.int .i64) (Kd.int .i64))))) fun x => (x.Seq, x.Area, x.Lsn, x.Next, x.Pages)
theorem op23 {s : St} {cs : List Value} {x : Control} {C : List Nat} (h : RdF kd23 s cs x C) : cs = [.int .i64 x.Seq, .int .i64 x.Area, .int .i64 x.Lsn, .int .i64 x.Next, .int .i64 x.Pages] := by
  obtain ⟨_, _, rfl, rfl, ⟨_, _, rfl, rfl, ⟨_, _, rfl, rfl, ⟨_, _, rfl, rfl, rfl⟩⟩⟩⟩ := h
  rfl
theorem mk23 {s : St} {x : Control} {C : List Nat}  : RdF kd23 s [.int .i64 x.Seq, .int .i64 x.Area, .int .i64 x.Lsn, .int .i64 x.Next, .int .i64 x.Pages] x C := ⟨[.int .i64 x.Seq], [.int .i64 x.Area, .int .i64 x.Lsn, .int .i64 x.Next, .int .i64 x.Pages], rfl, rfl, ⟨[.int .i64 x.Area], [.int .i64 x.Lsn, .int .i64 x.Next, .int .i64 x.Pages], rfl, rfl, ⟨[.int .i64 x.Lsn], [.int .i64 x.Next, .int .i64 x.Pages], rfl, rfl, ⟨[.int .i64 x.Next], [.int .i64 x.Pages], rfl, rfl, rfl⟩⟩⟩⟩
def kd66 : Kd Record := Kd.iso (Kd.pair (Kd.int .i64) (Kd.pair (Kd.int .i64) (Kd.pair (Kd.int .i64) (Kd.pair (Kd.int .i64) (Kd.pair (Kd.int .i64) (Kd.sl 5 (Kd.int .u8))))))) fun x => (x.Kind, x.Lsn, x.Xid, x.Page, x.Slot, x.Data)
theorem op66 {s : St} {cs : List Value} {x : Record} {C : List Nat} (h : RdF kd66 s cs x C) : ∃ (v0 : Value), cs = [.int .i64 x.Kind, .int .i64 x.Lsn, .int .i64 x.Xid, .int .i64 x.Page, .int .i64 x.Slot, v0] ∧ RdF (Kd.sl 5 (Kd.int .u8)) s [v0] x.Data C := by
  obtain ⟨_, _, rfl, rfl, ⟨_, _, rfl, rfl, ⟨_, _, rfl, rfl, ⟨_, _, rfl, rfl, ⟨_, _, rfl, rfl, ⟨v0, rfl, h0⟩⟩⟩⟩⟩⟩ := h
  exact ⟨v0, rfl, ⟨_, rfl, h0⟩⟩
theorem mk66 {s : St} {x : Record} {C : List Nat} {v0 : Value} (h0 : RdF (Kd.sl 5 (Kd.int .u8)) s [v0] x.Data C) : RdF kd66 s [.int .i64 x.Kind, .int .i64 x.Lsn, .int .i64 x.Xid, .int .i64 x.Page, .int .i64 x.Slot, v0] x C := ⟨[.int .i64 x.Kind], [.int .i64 x.Lsn, .int .i64 x.Xid, .int .i64 x.Page, .int .i64 x.Slot, v0], rfl, rfl, ⟨[.int .i64 x.Lsn], [.int .i64 x.Xid, .int .i64 x.Page, .int .i64 x.Slot, v0], rfl, rfl, ⟨[.int .i64 x.Xid], [.int .i64 x.Page, .int .i64 x.Slot, v0], rfl, rfl, ⟨[.int .i64 x.Page], [.int .i64 x.Slot, v0], rfl, rfl, ⟨[.int .i64 x.Slot], [v0], rfl, rfl, h0⟩⟩⟩⟩⟩
def kd68 : Kd Record := Kd.iso (Kd.pair (Kd.int .i64) (Kd.pair (Kd.int .i64) (Kd.pair (Kd.int .i64) (Kd.pair (Kd.int .i64) (Kd.pair (Kd.int .i64) (Kd.sl 5 (Kd.int .u8))))))) fun x => (x.Kind, x.Lsn, x.Xid, x.Page, x.Slot, x.Data)
theorem op68 {s : St} {cs : List Value} {x : Record} {C : List Nat} (h : RdF kd68 s cs x C) : ∃ (v0 : Value), cs = [.int .i64 x.Kind, .int .i64 x.Lsn, .int .i64 x.Xid, .int .i64 x.Page, .int .i64 x.Slot, v0] ∧ RdF (Kd.sl 5 (Kd.int .u8)) s [v0] x.Data C := by
  obtain ⟨_, _, rfl, rfl, ⟨_, _, rfl, rfl, ⟨_, _, rfl, rfl, ⟨_, _, rfl, rfl, ⟨_, _, rfl, rfl, ⟨v0, rfl, h0⟩⟩⟩⟩⟩⟩ := h
  exact ⟨v0, rfl, ⟨_, rfl, h0⟩⟩
theorem mk68 {s : St} {x : Record} {C : List Nat} {v0 : Value} (h0 : RdF (Kd.sl 5 (Kd.int .u8)) s [v0] x.Data C) : RdF kd68 s [.int .i64 x.Kind, .int .i64 x.Lsn, .int .i64 x.Xid, .int .i64 x.Page, .int .i64 x.Slot, v0] x C := ⟨[.int .i64 x.Kind], [.int .i64 x.Lsn, .int .i64 x.Xid, .int .i64 x.Page, .int .i64 x.Slot, v0], rfl, rfl, ⟨[.int .i64 x.Lsn], [.int .i64 x.Xid, .int .i64 x.Page, .int .i64 x.Slot, v0], rfl, rfl, ⟨[.int .i64 x.Xid], [.int .i64 x.Page, .int .i64 x.Slot, v0], rfl, rfl, ⟨[.int .i64 x.Page], [.int .i64 x.Slot, v0], rfl, rfl, ⟨[.int .i64 x.Slot], [v0], rfl, rfl, h0⟩⟩⟩⟩⟩
def ok_Control (x : Control) : Prop := InK .i64 x.Seq ∧ InK .i64 x.Area ∧ InK .i64 x.Lsn ∧ InK .i64 x.Next ∧ InK .i64 x.Pages
theorem tr23 : Opn Try.prog 23 kd23 ok_Control := tr_iso (fun x : Control => (x.Seq, x.Area, x.Lsn, x.Next, x.Pages)) (fun x => ⟨x.1, x.2.1, x.2.2.1, x.2.2.2.1, x.2.2.2.2⟩) (fun _ => rfl) (tr_st Try.underlying23 (by kernel_rfl) (tf_cons rfl (by kernel_rfl) (tr_int Try.underlying3) (tf_cons rfl (by kernel_rfl) (tr_int Try.underlying3) (tf_cons rfl (by kernel_rfl) (tr_int Try.underlying3) (tf_cons rfl (by kernel_rfl) (tr_int Try.underlying3) (tf_last rfl (by kernel_rfl) (tr_int Try.underlying3)))))))
def ok_Record (x : Record) : Prop := InK .i64 x.Kind ∧ InK .i64 x.Lsn ∧ InK .i64 x.Xid ∧ InK .i64 x.Page ∧ InK .i64 x.Slot ∧ (x.Data.length ≤ maxLen ∧ ∀ y ∈ x.Data, InK .u8 y)
theorem tr66 : Opn Try.prog 66 kd66 ok_Record := tr_iso (fun x : Record => (x.Kind, x.Lsn, x.Xid, x.Page, x.Slot, x.Data)) (fun x => ⟨x.1, x.2.1, x.2.2.1, x.2.2.2.1, x.2.2.2.2.1, x.2.2.2.2.2⟩) (fun _ => rfl) (tr_st Try.underlying66 (by kernel_rfl) (tf_cons rfl (by kernel_rfl) (tr_int Try.underlying3) (tf_cons rfl (by kernel_rfl) (tr_int Try.underlying3) (tf_cons rfl (by kernel_rfl) (tr_int Try.underlying3) (tf_cons rfl (by kernel_rfl) (tr_int Try.underlying3) (tf_cons rfl (by kernel_rfl) (tr_int Try.underlying3) (tf_last rfl (by kernel_rfl) (tr_sl (e' := 5) Try.underlying24 (by kernel_rfl) (tr_int Try.underlying5)))))))))
theorem tr68 : Opn Try.prog 68 kd68 ok_Record := tr_iso (fun x : Record => (x.Kind, x.Lsn, x.Xid, x.Page, x.Slot, x.Data)) (fun x => ⟨x.1, x.2.1, x.2.2.1, x.2.2.2.1, x.2.2.2.2.1, x.2.2.2.2.2⟩) (fun _ => rfl) (tr_st Try.underlying68 (by kernel_rfl) (tf_cons rfl (by kernel_rfl) (tr_int Try.underlying3) (tf_cons rfl (by kernel_rfl) (tr_int Try.underlying3) (tf_cons rfl (by kernel_rfl) (tr_int Try.underlying3) (tf_cons rfl (by kernel_rfl) (tr_int Try.underlying3) (tf_cons rfl (by kernel_rfl) (tr_int Try.underlying3) (tf_last rfl (by kernel_rfl) (tr_sl (e' := 5) Try.underlying24 (by kernel_rfl) (tr_int Try.underlying5)))))))))
theorem fa23_0 : ∀ (a : Addr) (w : World), (Instr.fieldAt 23 (.pointer (some a)) 0).run Try.prog w = .ok (.pointer (some (a.add 0))) w := fun _ _ => by kernel_rfl
theorem fa23_1 : ∀ (a : Addr) (w : World), (Instr.fieldAt 23 (.pointer (some a)) 1).run Try.prog w = .ok (.pointer (some (a.add 1))) w := fun _ _ => by kernel_rfl
theorem fa23_2 : ∀ (a : Addr) (w : World), (Instr.fieldAt 23 (.pointer (some a)) 2).run Try.prog w = .ok (.pointer (some (a.add 2))) w := fun _ _ => by kernel_rfl
theorem fa23_3 : ∀ (a : Addr) (w : World), (Instr.fieldAt 23 (.pointer (some a)) 3).run Try.prog w = .ok (.pointer (some (a.add 3))) w := fun _ _ => by kernel_rfl
theorem fa23_4 : ∀ (a : Addr) (w : World), (Instr.fieldAt 23 (.pointer (some a)) 4).run Try.prog w = .ok (.pointer (some (a.add 4))) w := fun _ _ => by kernel_rfl
theorem fa26_0 : ∀ (a : Addr) (w : World), (Instr.fieldAt 26 (.pointer (some a)) 0).run Try.prog w = .ok (.pointer (some (a.add 0))) w := fun _ _ => by kernel_rfl
theorem fa26_1 : ∀ (a : Addr) (w : World), (Instr.fieldAt 26 (.pointer (some a)) 1).run Try.prog w = .ok (.pointer (some (a.add 1))) w := fun _ _ => by kernel_rfl
theorem fa26_2 : ∀ (a : Addr) (w : World), (Instr.fieldAt 26 (.pointer (some a)) 2).run Try.prog w = .ok (.pointer (some (a.add 2))) w := fun _ _ => by kernel_rfl
theorem fa26_3 : ∀ (a : Addr) (w : World), (Instr.fieldAt 26 (.pointer (some a)) 3).run Try.prog w = .ok (.pointer (some (a.add 3))) w := fun _ _ => by kernel_rfl
theorem fa26_4 : ∀ (a : Addr) (w : World), (Instr.fieldAt 26 (.pointer (some a)) 4).run Try.prog w = .ok (.pointer (some (a.add 4))) w := fun _ _ => by kernel_rfl
theorem fa66_0 : ∀ (a : Addr) (w : World), (Instr.fieldAt 66 (.pointer (some a)) 0).run Try.prog w = .ok (.pointer (some (a.add 0))) w := fun _ _ => by kernel_rfl
theorem fa66_1 : ∀ (a : Addr) (w : World), (Instr.fieldAt 66 (.pointer (some a)) 1).run Try.prog w = .ok (.pointer (some (a.add 1))) w := fun _ _ => by kernel_rfl
theorem fa66_2 : ∀ (a : Addr) (w : World), (Instr.fieldAt 66 (.pointer (some a)) 2).run Try.prog w = .ok (.pointer (some (a.add 2))) w := fun _ _ => by kernel_rfl
theorem fa66_3 : ∀ (a : Addr) (w : World), (Instr.fieldAt 66 (.pointer (some a)) 3).run Try.prog w = .ok (.pointer (some (a.add 3))) w := fun _ _ => by kernel_rfl
theorem fa66_4 : ∀ (a : Addr) (w : World), (Instr.fieldAt 66 (.pointer (some a)) 4).run Try.prog w = .ok (.pointer (some (a.add 4))) w := fun _ _ => by kernel_rfl
theorem fa66_5 : ∀ (a : Addr) (w : World), (Instr.fieldAt 66 (.pointer (some a)) 5).run Try.prog w = .ok (.pointer (some (a.add 5))) w := fun _ _ => by kernel_rfl
theorem fa68_0 : ∀ (a : Addr) (w : World), (Instr.fieldAt 68 (.pointer (some a)) 0).run Try.prog w = .ok (.pointer (some (a.add 0))) w := fun _ _ => by kernel_rfl
theorem fa68_1 : ∀ (a : Addr) (w : World), (Instr.fieldAt 68 (.pointer (some a)) 1).run Try.prog w = .ok (.pointer (some (a.add 1))) w := fun _ _ => by kernel_rfl
theorem fa68_2 : ∀ (a : Addr) (w : World), (Instr.fieldAt 68 (.pointer (some a)) 2).run Try.prog w = .ok (.pointer (some (a.add 2))) w := fun _ _ => by kernel_rfl
theorem fa68_3 : ∀ (a : Addr) (w : World), (Instr.fieldAt 68 (.pointer (some a)) 3).run Try.prog w = .ok (.pointer (some (a.add 3))) w := fun _ _ => by kernel_rfl
theorem fa68_4 : ∀ (a : Addr) (w : World), (Instr.fieldAt 68 (.pointer (some a)) 4).run Try.prog w = .ok (.pointer (some (a.add 4))) w := fun _ _ => by kernel_rfl
theorem fa68_5 : ∀ (a : Addr) (w : World), (Instr.fieldAt 68 (.pointer (some a)) 5).run Try.prog w = .ok (.pointer (some (a.add 5))) w := fun _ _ => by kernel_rfl
theorem fa79_0 : ∀ (a : Addr) (w : World), (Instr.fieldAt 79 (.pointer (some a)) 0).run Try.prog w = .ok (.pointer (some (a.add 0))) w := fun _ _ => by kernel_rfl
theorem fa79_1 : ∀ (a : Addr) (w : World), (Instr.fieldAt 79 (.pointer (some a)) 1).run Try.prog w = .ok (.pointer (some (a.add 1))) w := fun _ _ => by kernel_rfl
theorem fa79_2 : ∀ (a : Addr) (w : World), (Instr.fieldAt 79 (.pointer (some a)) 2).run Try.prog w = .ok (.pointer (some (a.add 2))) w := fun _ _ => by kernel_rfl
theorem o24 : (Try.prog.info? 24).bind (·.zero) = some (.slice none 0 0) := by kernel_rfl
theorem o26 : (Try.prog.info? 26).bind (·.zero) = some (.agg #[.int .i64 0, .int .i64 0, .int .i64 0, .int .i64 0, .int .i64 0]) := by kernel_rfl
theorem o3 : (Try.prog.info? 3).bind (·.zero) = some (.int .i64 0) := by kernel_rfl
theorem o5 : (Try.prog.info? 5).bind (·.zero) = some (.int .u8 0) := by kernel_rfl
theorem o68 : (Try.prog.info? 68).bind (·.zero) = some (.agg #[.int .i64 0, .int .i64 0, .int .i64 0, .int .i64 0, .int .i64 0, .slice none 0 0]) := by kernel_rfl
theorem o79 : (Try.prog.info? 79).bind (·.zero) = some (.agg #[.slice none 0 0, .int .i64 0, .int .i64 0]) := by kernel_rfl
theorem o84 : (Try.prog.info? 84).bind (·.zero) = some (.agg #[.int .u32 0, .int .u32 0, .int .u32 0, .int .u32 0, .int .u32 0, .int .u32 0, .int .u32 0, .int .u32 0, .int .u32 0, .int .u32 0, .int .u32 0, .int .u32 0, .int .u32 0, .int .u32 0, .int .u32 0, .int .u32 0]) := by kernel_rfl
theorem pl26 : PlF Try.prog 26 #[(0, 1), (1, 1), (2, 1), (3, 1), (4, 1)] := ⟨_, Try.underlying26, fun _ => by kernel_rfl⟩
theorem pl79 : PlF Try.prog 79 #[(0, 1), (1, 1), (2, 1)] := ⟨_, Try.underlying79, fun _ => by kernel_rfl⟩
theorem sl24 : SlT Try.prog 24 5 1 := SlT.mk (by_ := 1) (z := (.int .u8 0)) Try.underlying24 (by kernel_rfl) rfl rfl rfl
theorem sl37 : SlT Try.prog 37 3 1 := SlT.mk (by_ := 8) (z := (.int .i64 0)) Try.underlying37 (by kernel_rfl) rfl rfl rfl
theorem sl43 : SlT Try.prog 43 68 6 := SlT.mk (by_ := 64) (z := (.agg #[.int .i64 0, .int .i64 0, .int .i64 0, .int .i64 0, .int .i64 0, .slice none 0 0])) Try.underlying43 (by kernel_rfl) rfl rfl rfl
theorem z23 : (Try.prog.info? 23).map (·.size) = some 5 := by kernel_rfl
theorem z24 : (Try.prog.info? 24).map (·.size) = some 1 := by kernel_rfl
theorem z26 : (Try.prog.info? 26).map (·.size) = some 5 := by kernel_rfl
theorem z3 : (Try.prog.info? 3).map (·.size) = some 1 := by kernel_rfl
theorem z5 : (Try.prog.info? 5).map (·.size) = some 1 := by kernel_rfl
theorem z66 : (Try.prog.info? 66).map (·.size) = some 6 := by kernel_rfl
theorem z68 : (Try.prog.info? 68).map (·.size) = some 6 := by kernel_rfl
theorem z83 : (Try.prog.info? 83).map (·.size) = some 1 := by kernel_rfl
def beq_Control (x y : Control) : Bool := ((x.Seq == y.Seq) && ((x.Area == y.Area) && ((x.Lsn == y.Lsn) && ((x.Next == y.Next) && (x.Pages == y.Pages)))))
theorem eg26 : Try.prog.eqGuardType Try.prog.depth 26 = false := by kernel_rfl
theorem eq26 (x y : Control) (w : World) (d : Nat) : (Op.equalIn (d + 10) 26 (.agg #[.int .i64 x.Seq, .int .i64 x.Area, .int .i64 x.Lsn, .int .i64 x.Next, .int .i64 x.Pages]) (.agg #[.int .i64 y.Seq, .int .i64 y.Area, .int .i64 y.Lsn, .int .i64 y.Next, .int .i64 y.Pages])).run Try.prog w = .ok (beq_Control x y) w := q_st (d := d + 9) Try.underlying26 (by kernel_rfl) (f_more rfl (p_one Try.underlying3 rfl rfl) (p_one Try.underlying3 rfl rfl) (q_int Try.underlying3) (f_more rfl (p_one Try.underlying3 rfl rfl) (p_one Try.underlying3 rfl rfl) (q_int Try.underlying3) (f_more rfl (p_one Try.underlying3 rfl rfl) (p_one Try.underlying3 rfl rfl) (q_int Try.underlying3) (f_more rfl (p_one Try.underlying3 rfl rfl) (p_one Try.underlying3 rfl rfl) (q_int Try.underlying3) (f_one rfl (p_one Try.underlying3 rfl rfl) (p_one Try.underlying3 rfl rfl) (q_int Try.underlying3))))))
end Go.Proofs.Ytndhbfkahbbkaaa
