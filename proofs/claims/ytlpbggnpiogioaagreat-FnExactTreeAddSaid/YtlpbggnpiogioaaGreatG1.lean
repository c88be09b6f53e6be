import Derived.Calls
import Derived.AtR
import Derived.RangeFuncRecord
import Derived.Tactics
import Derived.Below
import Derived.WalkKit
import Derived.Laws.FloatArith
import Derived.OwnWalk
import Derived.Deep.MidRow
import Derived.Maps.AppendAt
import Derived.ArgAppend
import Derived.Orders
import Derived.Lib.AppendZerosOnto
import Derived.Laws.BytesString
import Derived.ChangeArms
import Derived.DataReads
import Derived.WideShapes
import Derived.Laws.StructEq
set_option linter.unusedVariables false
set_option linter.unusedSimpArgs false
namespace Go.Proofs.YtlpbggnpiogioaaGreat.V
open Go
abbrev E3 {α0 α1 α2 : Type} (a0 b0 : α0) (a1 b1 : α1) (a2 b2 : α2) : Prop := (a0, a1, a2) = (b0, b1, b2)
theorem e3_ {α0 α1 α2 : Type} {a0 b0 : α0} {a1 b1 : α1} {a2 b2 : α2} (t : E3 a0 b0 a1 b1 a2 b2) : a0 = b0 ∧ a1 = b1 ∧ a2 = b2 := ⟨congrArg (fun x => x.1) t, congrArg (fun x => x.2.1) t, congrArg (fun x => x.2.2) t⟩
abbrev E4 {α0 α1 α2 α3 : Type} (a0 b0 : α0) (a1 b1 : α1) (a2 b2 : α2) (a3 b3 : α3) : Prop := (a0, a1, a2, a3) = (b0, b1, b2, b3)
theorem e4_ {α0 α1 α2 α3 : Type} {a0 b0 : α0} {a1 b1 : α1} {a2 b2 : α2} {a3 b3 : α3} (t : E4 a0 b0 a1 b1 a2 b2 a3 b3) : a0 = b0 ∧ a1 = b1 ∧ a2 = b2 ∧ a3 = b3 := ⟨congrArg (fun x => x.1) t, congrArg (fun x => x.2.1) t, congrArg (fun x => x.2.2.1) t, congrArg (fun x => x.2.2.2) t⟩
abbrev E5 {α0 α1 α2 α3 α4 : Type} (a0 b0 : α0) (a1 b1 : α1) (a2 b2 : α2) (a3 b3 : α3) (a4 b4 : α4) : Prop := (a0, a1, a2, a3, a4) = (b0, b1, b2, b3, b4)
theorem e5_ {α0 α1 α2 α3 α4 : Type} {a0 b0 : α0} {a1 b1 : α1} {a2 b2 : α2} {a3 b3 : α3} {a4 b4 : α4} (t : E5 a0 b0 a1 b1 a2 b2 a3 b3 a4 b4) : a0 = b0 ∧ a1 = b1 ∧ a2 = b2 ∧ a3 = b3 ∧ a4 = b4 := ⟨congrArg (fun x => x.1) t, congrArg (fun x => x.2.1) t, congrArg (fun x => x.2.2.1) t, congrArg (fun x => x.2.2.2.1) t, congrArg (fun x => x.2.2.2.2) t⟩
abbrev E6 {α0 α1 α2 α3 α4 α5 : Type} (a0 b0 : α0) (a1 b1 : α1) (a2 b2 : α2) (a3 b3 : α3) (a4 b4 : α4) (a5 b5 : α5) : Prop := (a0, a1, a2, a3, a4, a5) = (b0, b1, b2, b3, b4, b5)
theorem e6_ {α0 α1 α2 α3 α4 α5 : Type} {a0 b0 : α0} {a1 b1 : α1} {a2 b2 : α2} {a3 b3 : α3} {a4 b4 : α4} {a5 b5 : α5} (t : E6 a0 b0 a1 b1 a2 b2 a3 b3 a4 b4 a5 b5) : a0 = b0 ∧ a1 = b1 ∧ a2 = b2 ∧ a3 = b3 ∧ a4 = b4 ∧ a5 = b5 := ⟨congrArg (fun x => x.1) t, congrArg (fun x => x.2.1) t, congrArg (fun x => x.2.2.1) t, congrArg (fun x => x.2.2.2.1) t, congrArg (fun x => x.2.2.2.2.1) t, congrArg (fun x => x.2.2.2.2.2) t⟩
abbrev E7 {α0 α1 α2 α3 α4 α5 α6 : Type} (a0 b0 : α0) (a1 b1 : α1) (a2 b2 : α2) (a3 b3 : α3) (a4 b4 : α4) (a5 b5 : α5) (a6 b6 : α6) : Prop := (a0, a1, a2, a3, a4, a5, a6) = (b0, b1, b2, b3, b4, b5, b6)
theorem e7_ {α0 α1 α2 α3 α4 α5 α6 : Type} {a0 b0 : α0} {a1 b1 : α1} {a2 b2 : α2} {a3 b3 : α3} {a4 b4 : α4} {a5 b5 : α5} {a6 b6 : α6} (t : E7 a0 b0 a1 b1 a2 b2 a3 b3 a4 b4 a5 b5 a6 b6) : a0 = b0 ∧ a1 = b1 ∧ a2 = b2 ∧ a3 = b3 ∧ a4 = b4 ∧ a5 = b5 ∧ a6 = b6 := ⟨congrArg (fun x => x.1) t, congrArg (fun x => x.2.1) t, congrArg (fun x => x.2.2.1) t, congrArg (fun x => x.2.2.2.1) t, congrArg (fun x => x.2.2.2.2.1) t, congrArg (fun x => x.2.2.2.2.2.1) t, congrArg (fun x => x.2.2.2.2.2.2) t⟩
abbrev E8 {α0 α1 α2 α3 α4 α5 α6 α7 : Type} (a0 b0 : α0) (a1 b1 : α1) (a2 b2 : α2) (a3 b3 : α3) (a4 b4 : α4) (a5 b5 : α5) (a6 b6 : α6) (a7 b7 : α7) : Prop := (a0, a1, a2, a3, a4, a5, a6, a7) = (b0, b1, b2, b3, b4, b5, b6, b7)
theorem e8_ {α0 α1 α2 α3 α4 α5 α6 α7 : Type} {a0 b0 : α0} {a1 b1 : α1} {a2 b2 : α2} {a3 b3 : α3} {a4 b4 : α4} {a5 b5 : α5} {a6 b6 : α6} {a7 b7 : α7} (t : E8 a0 b0 a1 b1 a2 b2 a3 b3 a4 b4 a5 b5 a6 b6 a7 b7) : a0 = b0 ∧ a1 = b1 ∧ a2 = b2 ∧ a3 = b3 ∧ a4 = b4 ∧ a5 = b5 ∧ a6 = b6 ∧ a7 = b7 := ⟨congrArg (fun x => x.1) t, congrArg (fun x => x.2.1) t, congrArg (fun x => x.2.2.1) t, congrArg (fun x => x.2.2.2.1) t, congrArg (fun x => x.2.2.2.2.1) t, congrArg (fun x => x.2.2.2.2.2.1) t, congrArg (fun x => x.2.2.2.2.2.2.1) t, congrArg (fun x => x.2.2.2.2.2.2.2) t⟩
abbrev E10 {α0 α1 α2 α3 α4 α5 α6 α7 α8 α9 : Type} (a0 b0 : α0) (a1 b1 : α1) (a2 b2 : α2) (a3 b3 : α3) (a4 b4 : α4) (a5 b5 : α5) (a6 b6 : α6) (a7 b7 : α7) (a8 b8 : α8) (a9 b9 : α9) : Prop := (a0, a1, a2, a3, a4, a5, a6, a7, a8, a9) = (b0, b1, b2, b3, b4, b5, b6, b7, b8, b9)
theorem e10_ {α0 α1 α2 α3 α4 α5 α6 α7 α8 α9 : Type} {a0 b0 : α0} {a1 b1 : α1} {a2 b2 : α2} {a3 b3 : α3} {a4 b4 : α4} {a5 b5 : α5} {a6 b6 : α6} {a7 b7 : α7} {a8 b8 : α8} {a9 b9 : α9} (t : E10 a0 b0 a1 b1 a2 b2 a3 b3 a4 b4 a5 b5 a6 b6 a7 b7 a8 b8 a9 b9) : a0 = b0 ∧ a1 = b1 ∧ a2 = b2 ∧ a3 = b3 ∧ a4 = b4 ∧ a5 = b5 ∧ a6 = b6 ∧ a7 = b7 ∧ a8 = b8 ∧ a9 = b9 := ⟨congrArg (fun x => x.1) t, congrArg (fun x => x.2.1) t, congrArg (fun x => x.2.2.1) t, congrArg (fun x => x.2.2.2.1) t, congrArg (fun x => x.2.2.2.2.1) t, congrArg (fun x => x.2.2.2.2.2.1) t, congrArg (fun x => x.2.2.2.2.2.2.1) t, congrArg (fun x => x.2.2.2.2.2.2.2.1) t, congrArg (fun x => x.2.2.2.2.2.2.2.2.1) t, congrArg (fun x => x.2.2.2.2.2.2.2.2.2) t⟩
abbrev iI (x : Int) : Value := .int .i64 x
abbrev pB (b : Nat) : Value := .pointer (some ⟨b, 0, none⟩)
abbrev pO (b o : Nat) : Value := .pointer (some ⟨b, o, none⟩)
abbrev Env := Nat → Value
def upd (e : Env) (d : Nat) (v : Value) : Env := fun t => bif Nat.beq t d then v else e t
def envOf (l : List Value) : Env := fun t => l.getD t undef
structure Fr (N : Nat) (e : Env) (a : Act) : Prop where
 size : a.tmps.size = N
 get : ∀ t, a.tmps.getD t undef = e t
def ev (e : Env) : Operand → Value
 | .tmp t => e t
 | .const v => v
 | .global g => .pointer (some ⟨g, 0, none⟩)
 | .func f => .func (.func f) #[] #[]
theorem Fr.eval {N : Nat} {e : Env} {a : Act} (h : Fr N e a) : a.eval = ev e := by
 funext x
 cases x <;> simp [Act.eval, ev, h.get]
theorem upd_at (e : Env) (d : Nat) (v : Value) : upd e d v d = v := by simp [upd]
theorem upd_ne (e : Env) (d t : Nat) (v : Value) (h : t ≠ d) : upd e d v t = e t := by
 have : Nat.beq t d = false := by cases hb : Nat.beq t d with
  | false => rfl
  | true => exact absurd (Nat.eq_of_beq_eq_true hb) h
 simp [upd, this]
theorem upd_self {e : Env} {d : Nat} {v : Value} (h : e d = v) : upd e d v = e := by
 funext t
 by_cases ht : t = d
 · subst ht; rw [upd_at, h]
 · rw [upd_ne _ _ _ _ ht]
theorem Fr.put {N : Nat} {e : Env} {a : Act} (h : Fr N e a) (d : Nat) (hd : Nat.blt d N = true) (v : Value) : Fr N (upd e d v) (a.put (some d) v) := by
 have hd' : d < N := by
  have := hd
  simp [Nat.blt] at this
  omega
 refine ⟨by simp [Act.put, h.size], fun t => ?_⟩
 have hg := h.get t
 simp only [Act.put]
 by_cases ht : t = d
 · subst ht
   rw [upd_at]
   simp [Array.getD, h.size, hd']
 · rw [upd_ne _ _ _ _ ht, ← hg]
   simp only [Array.getD_eq_getD_getElem?]
   rw [Array.getElem?_setIfInBounds_ne (by omega)]
theorem Fr.put_none {N : Nat} {e : Env} {a : Act} (h : Fr N e a) (v : Value) : Fr N e (a.put none v) := h
theorem Fr.start (args : List Value) (N : Nat) (h : Nat.ble args.length N = true) : Fr N (envOf args) { tmps := args.toArray ++ Array.replicate (N - args.toArray.size) undef, defers := [] } := by
 have h' : args.length ≤ N := by simpa [Nat.ble_eq] using h
 refine ⟨by simp; omega, fun t => ?_⟩
 simp only [Array.getD_eq_getD_getElem?, envOf, List.getD_eq_getElem?_getD]
 by_cases ht : t < args.length
 · simp [Array.getElem?_append, ht]
 · rw [List.getElem?_eq_none (by omega)]
   by_cases ht2 : t < N
   · simp [Array.getElem?_append, ht]
     rw [Array.getElem?_replicate]
     split <;> rfl
   · rw [Array.getElem?_eq_none (by simp; omega)]
def yv (e : Env) (ops : Array Oper) (j : Nat) : Option Bool :=
 match (ops[j]?).bind (·.dst) with
 | some t => match e t with
  | .bool b => some b
  | _ => none
 | none => none
theorem Fr.yielded {N : Nat} {e : Env} {a : Act} (h : Fr N e a) (ops : Array Oper) : yielded ops a.tmps = yv e ops := by
 funext j
 unfold Go.yielded yv
 cases (ops[j]?).bind (·.dst) with
 | none => rfl
 | some t =>
  have hg := h.get t
  simp only [Array.getD_eq_getD_getElem?] at hg
  simp only [Option.bind_some]
  cases hx : a.tmps[t]? with
  | none => rw [hx] at hg; simp at hg; rw [← hg]; rfl
  | some v => rw [hx] at hg; simp at hg; rw [← hg]; cases v <;> rfl
structure Who where
 fn : FuncId
 rd : Option Nat
 df : Option Nat
def dsOf : Option Nat → List Deferred
 | none => []
 | some r => [{ target := .collected r, args := #[] }]
def Gl (P : Program) (f : Who) (R : Ending → World → Prop) (m : Machine) (cs : List Frame) : Prop :=
 match f.rd with
 | none => ∃ en w' fr, R en w' ∧ Comes P m (lone fr cs w') en ∧ fr.fn = f.fn ∧ fr.leaving P w' en
 | some _ => ∀ c cs', cs = c :: cs' → ∃ v w', R (.returned v) w' ∧ Steps P m (lone (c.finish v) cs' w')
theorem Gl.steps {P : Program} {f : Who} {R : Ending → World → Prop} {m m' : Machine} {cs : List Frame} (hs : Steps P m m') (h : Gl P f R m' cs) : Gl P f R m cs := by
 unfold Gl at h ⊢
 cases hr : f.rd with
 | none =>
  rw [hr] at h
  obtain ⟨en, w2, fr, hR, hc, hfr⟩ := h
  exact ⟨en, w2, fr, hR, Comes.of_steps hs hc, hfr⟩
 | some l =>
  rw [hr] at h
  intro c cs' e
  obtain ⟨v, w', hR, h2⟩ := h c cs' e
  exact ⟨v, w', hR, Steps.trans hs h2⟩
def T (P : Program) (f : Who) (N : Nat) (R : Ending → World → Prop) (todo : List Item) (e : Env) (w : World) : Prop :=
 ∀ (b : Frame) (a : Act) (cs : List Frame), b.fn = f.fn → b.kind = .normal → b.roundOf = f.rd → Fr N e a → a.defers = dsOf f.df →
  Gl P f R (lone (b.atR a todo) cs w) cs
section
variable {P : Program} {f : Who} {N : Nat} {R : Ending → World → Prop} {e : Env} {w : World} {k : List Item} {ops : Array Oper}
theorem T.one {todo todo' : List Item} {e' : Env} {w' : World}
    (hs : ∀ (b : Frame) (a : Act) (cs : List Frame), b.fn = f.fn → b.kind = .normal → Fr N e a → ∃ a', Fr N e' a' ∧ a'.defers = a.defers ∧ step P (lone (b.atR a todo) cs w) = .next (lone (b.atR a' todo') cs w'))
    (h : T P f N R todo' e' w') : T P f N R todo e w := by
  intro b a cs hb hk hro ha hd
  obtain ⟨a', ha', hd', hst⟩ := hs b a cs hb hk ha
  exact Gl.steps (Steps.one hst) (h b a' cs hb hk hro ha' (hd'.trans hd))
theorem put_defers (a : Act) (d : Option Tmp) (v : Value) : (a.put d v).defers = a.defers := by cases d <;> rfl
theorem T_seq {x y : Code} (h : T P f N R (.code x :: .code y :: k) e w) : T P f N R (.code (.seq x y) :: k) e w :=
 T.one (fun b a cs _ _ ha => ⟨a, ha, rfl, stepR_seq⟩) h
theorem T_skip (h : T P f N R k e w) : T P f N R (.code .skip :: k) e w := T.one (fun b a cs _ _ ha => ⟨a, ha, rfl, stepR_skip⟩) h
theorem T_inBlock {id : Nat} (h : T P f N R k e w) : T P f N R (.inBlock id :: k) e w := T.one (fun b a cs _ _ ha => ⟨a, ha, rfl, stepR_inBlock⟩) h
theorem T_block {id : Nat} {c : Code} (h : T P f N R (.code c :: .inBlock id :: k) e w) : T P f N R (.code (.block id c) :: k) e w :=
 T.one (fun b a cs _ _ ha => ⟨a, ha, rfl, stepR_block⟩) h
theorem T_loop {c : Code} (h : T P f N R (.code c :: .inLoop c :: k) e w) : T P f N R (.code (.loop c) :: k) e w :=
 T.one (fun b a cs _ _ ha => ⟨a, ha, rfl, stepR_loop⟩) h
theorem T_inLoop {c : Code} (h : T P f N R (.code c :: .inLoop c :: k) e w) : T P f N R (.inLoop c :: k) e w :=
 T.one (fun b a cs _ _ ha => ⟨a, ha, rfl, stepR_inLoop⟩) h
theorem T_cond {c : Operand} {x y : Code} {t : Bool} (hc : ev e c = .bool t) (h : T P f N R (.code (if t then x else y) :: k) e w) : T P f N R (.code (.cond c x y) :: k) e w :=
 T.one (fun b a cs _ _ ha => ⟨a, ha, rfl, stepR_cond (by rw [ha.eval]; exact hc)⟩) h
theorem T_exit {id : Nat} {k' : List Item} (hk : exitTo id k = some k') (h : T P f N R k' e w) : T P f N R (.code (.exit id) :: k) e w :=
 T.one (fun b a cs _ _ ha => ⟨a, ha, rfl, stepR_exit hk⟩) h
theorem T_region {id : Nat} (h : T P f N R (.inRegion ops (List.range ops.size) :: k) e w) : T P f N R (.code (.region id ops false) :: k) e w :=
 T.one (fun b a cs _ _ ha => ⟨a, ha, rfl, stepR_region⟩) h
theorem T_draw {id : Nat} (h : ∀ t, T P f N R (.inRegion ops (Region.schedule (P.follows .mixedOrders) ops t) :: k) e { w with drawn := w.drawn + 1 }) : T P f N R (.code (.region id ops true) :: k) e w := by
 intro b a cs hb hk hro ha hd
 exact Gl.steps (Steps.one stepR_region_draw) (h (w.tape w.drawn (.order b.fn id)) b a cs hb hk hro ha hd)
theorem T_done (h : T P f N R k e w) : T P f N R (.inRegion ops [] :: k) e w := T.one (fun b a cs _ _ ha => ⟨a, ha, rfl, stepR_region_end⟩) h
theorem T_unwanted {i d : Nat} {rest : List Nat} {o : Oper} (ho : ops[i]? = some o) (hd : o.dst = some d) (hN : Nat.blt d N = true) (hw : Region.wanted o (yv e ops) = false)
    (h : T P f N R (.inRegion ops rest :: k) (upd e d undef) w) : T P f N R (.inRegion ops (i :: rest) :: k) e w :=
  T.one (fun b a cs _ _ ha => ⟨_, ha.put d hN undef, rfl, by
    have := stepR_op_skip (P := P) (b := b) (a := a) (k := k) (cs := cs) (w := w) (ops := ops) (i := i) (rest := rest) (by simp [ho, ha.yielded, hw])
    rw [this]; simp [ho, hd]⟩) h
theorem not_defer {ρ : Operand → Value} {o : Oper} {n : Next} {w' : World} (h : (execOp ρ o).run P w = .ok n w') (hn : ∀ d, n ≠ .defer d) : ∀ c, o.op ≠ .defer c := by
 intro c hc
 unfold execOp at h
 rw [hc] at h
 simp only [Sem.run_bind] at h
 cases hr : (resolve ρ c o.type).run P w with
 | ok d w1 => rw [hr] at h; simp [Result.andThen] at h; exact hn d h.1.symm
 | halt x w1 => rw [hr] at h; simp [Result.andThen] at h
theorem step_at_value {b : Frame} {a : Act} {cs : List Frame} {i : Nat} {rest : List Nat} {o : Oper} (ho : ops[i]? = some o) (hw : Region.wanted o (yielded ops a.tmps) = true) {v : Value} {w' : World}
    (hr : (execOp a.eval o).run P w = .ok (.value v) w') : step P (lone (b.atR a (.inRegion ops (i :: rest) :: k)) cs w) = .next (lone (b.atR (a.put o.dst v) (.inRegion ops rest :: k)) cs w') := by
  have hg := stepGR_op (P := P) (b := b) (k := k) (cs := cs) (w := w) (rest := rest) ho hw
  rw [Oper.semAt_eq _ _ _ (not_defer hr fun d h => by cases h)] at hg
  have hfin : (b.atR a (.inRegion ops (i :: rest) :: k)).finish v = b.atR (a.put o.dst v) (.inRegion ops rest :: k) := by rw [Frame.finish_atR, ho]; rfl
  exact step_lone_go (by rw [hg, ← hfin]; simp [stepG.apply, hr])
theorem step_at_skip {b : Frame} {a : Act} {cs : List Frame} {i : Nat} {rest : List Nat} {o : Oper} (ho : ops[i]? = some o) (hw : Region.wanted o (yielded ops a.tmps) = true) {w' : World}
    (hr : (execOp a.eval o).run P w = .ok .skip w') : step P (lone (b.atR a (.inRegion ops (i :: rest) :: k)) cs w) = .next (lone (b.atR (a.put o.dst undef) (.inRegion ops rest :: k)) cs w') := by
  have hg := stepGR_op (P := P) (b := b) (k := k) (cs := cs) (w := w) (rest := rest) ho hw
  rw [Oper.semAt_eq _ _ _ (not_defer hr fun d h => by cases h)] at hg
  have hfin : (b.atR a (.inRegion ops (i :: rest) :: k)).finish undef = b.atR (a.put o.dst undef) (.inRegion ops rest :: k) := by rw [Frame.finish_atR, ho]; rfl
  exact step_lone_go (by rw [hg, ← hfin]; simp [stepG.apply, hr])
theorem T_value {i d : Nat} {rest : List Nat} {o : Oper} {v : Value} {w' : World} (ho : ops[i]? = some o) (hd : o.dst = some d) (hN : Nat.blt d N = true) (hw : Region.wanted o (yv e ops) = true)
    (hr : (execOp (ev e) o).run P w = .ok (.value v) w') (h : T P f N R (.inRegion ops rest :: k) (upd e d v) w') : T P f N R (.inRegion ops (i :: rest) :: k) e w :=
  T.one (fun b a cs _ _ ha => ⟨_, ha.put d hN v, rfl, by
    rw [← hd]
    exact step_at_value ho (by rw [ha.yielded]; exact hw) (by rw [ha.eval]; exact hr)⟩) h
theorem T_void {i : Nat} {rest : List Nat} {o : Oper} {w' : World} (ho : ops[i]? = some o) (hd : o.dst = none) (hw : Region.wanted o (yv e ops) = true)
    (hr : (execOp (ev e) o).run P w = .ok .skip w') (h : T P f N R (.inRegion ops rest :: k) e w') : T P f N R (.inRegion ops (i :: rest) :: k) e w :=
  T.one (fun b a cs _ _ ha => ⟨_, ha.put_none undef, rfl, by
    rw [← hd]
    exact step_at_skip ho (by rw [ha.yielded]; exact hw) (by rw [ha.eval]; exact hr)⟩) h
theorem T.call_core {i : Nat} {rest : List Nat} {o : Oper} {g : FuncId} {args : Array Value} {w1 : World} {R' : Ending → World → Prop} {E : Value → Env}
    (ho : ops[i]? = some o) (hw : Region.wanted o (yv e ops) = true) (hput : ∀ a, Fr N e a → ∀ v, Fr N (E v) (a.put o.dst v))
    (hr : (execOp (ev e) o).run P w = .ok (.enter g args) w1) (hc : Calls P g args w1 R')
    (h : ∀ en w', R' en w' → ∃ v, en = .returned v ∧ T P f N R (.inRegion ops rest :: k) (E v) w') : T P f N R (.inRegion ops (i :: rest) :: k) e w := by
  intro b a cs hb hk hro ha hd
  have hg := stepGR_op (P := P) (b := b) (k := k) (cs := cs) (w := w) (rest := rest) ho (show Region.wanted o (yielded ops a.tmps) = true by rw [ha.yielded]; exact hw)
  have hr' : (execOp a.eval o).run P w = .ok (.enter g args) w1 := by rw [ha.eval]; exact hr
  rw [Oper.semAt_eq _ _ _ (not_defer hr' fun d h => by cases h)] at hg
  have henter : step P (lone (b.atR a (.inRegion ops (i :: rest) :: k)) cs w) = .next (lone (Frame.enter P g args .normal) (b.atR a (.inRegion ops (i :: rest) :: k) :: cs) w1) :=
    step_lone_go (by rw [hg]; simp [stepG.apply, hr', Frame.atR])
  obtain ⟨en, w2, fr, hR, hsteps, _, hleave⟩ := hc (b.atR a (.inRegion ops (i :: rest) :: k) :: cs)
  obtain ⟨v, rfl, hT⟩ := h _ _ hR
  refine Gl.steps (.head henter (Steps.trans hsteps (.one ?_))) (hT b (a.put o.dst v) cs hb hk hro (hput a ha v) ((put_defers _ _ _).trans hd))
  have hfin : (b.atR a (.inRegion ops (i :: rest) :: k)).finish v = b.atR (a.put o.dst v) (.inRegion ops rest :: k) := by rw [Frame.finish_atR, ho]; rfl
  rw [← hfin]; exact step_leave_returned hleave
theorem T_ret {fn : Func} {v : Value} (hf : P.funcs[f.fn]? = some fn) (hr : ∀ a, Fr N e a → (results fn a.tmps).run P w = .ok v w) (hR : R (.returned v) w) (h0 : f.rd = none) (h1 : f.df = none) : T P f N R (.code .ret :: k) e w := by
 intro b a cs hb hk hro ha hd
 unfold Gl
 rw [h0] at hro ⊢
 rw [h1] at hd
 exact ⟨.returned v, w, _, hR, Steps.one (stepR_ret hro), hb, rfl, hd, hk, fn, by rw [← hf]; exact congrArg (P.funcs[·]?) hb, hr a ha⟩
theorem T_end {fn : Func} {v : Value} (hf : P.funcs[f.fn]? = some fn) (hr : ∀ a, Fr N e a → (results fn a.tmps).run P w = .ok v w) (hR : R (.returned v) w) (h0 : f.rd = none) (h1 : f.df = none) : T P f N R [] e w := by
 intro b a cs hb hk hro ha hd
 unfold Gl
 rw [h0] at hro ⊢
 rw [h1] at hd
 exact ⟨.returned v, w, _, hR, Steps.one (stepR_end hro), hb, rfl, hd, hk, fn, by rw [← hf]; exact congrArg (P.funcs[·]?) hb, hr a ha⟩
theorem Sem.run_bind' {α β : Type} (P : Program) (s : Sem α) (g : α → Sem β) (w : World) : (s >>= g).run P w = (s.run P w).andThen fun a w' => (g a).run P w' := by simp
end
theorem calls_of_T {P : Program} {f : FuncId} {fn : Func} {c : Code} {args : List Value} {w : World} {R : Ending → World → Prop}
    (hf : P.funcs[f]? = some fn) (hb : fn.body = some c) (hn : Nat.ble args.length fn.ntmps = true) (h : T P ⟨f, none, none⟩ fn.ntmps R [.code c] (envOf args) w) : Calls P f args.toArray w R := by
  intro cs
  let b : Frame := { (default : Frame) with fn := f, kind := .normal, roundOf := none }
  have henter : Frame.enter P f args.toArray .normal = b.atR { tmps := args.toArray ++ Array.replicate (fn.ntmps - args.toArray.size) undef, defers := [] } [.code c] := by
    simp [Frame.enter, Frame.atR, hf, hb, b]
  rw [henter]
  exact h b _ cs rfl rfl rfl (Fr.start args fn.ntmps hn) rfl
end Go.Proofs.YtlpbggnpiogioaaGreat.V
set_option linter.unusedVariables false
set_option linter.unusedSimpArgs false
namespace Go.Proofs.YtlpbggnpiogioaaGreat.V
open Go
def iand (k : IntKind) (a b : Int) : Int := k.wrap ((BitVec.ofInt k.bits a &&& BitVec.ofInt k.bits b).toNat : Nat)
def ior (k : IntKind) (a b : Int) : Int := k.wrap ((BitVec.ofInt k.bits a ||| BitVec.ofInt k.bits b).toNat : Nat)
def ixor (k : IntKind) (a b : Int) : Int := k.wrap ((BitVec.ofInt k.bits a ^^^ BitVec.ofInt k.bits b).toNat : Nat)
def iandn (k : IntKind) (a b : Int) : Int := k.wrap ((BitVec.ofInt k.bits a &&& ~~~ BitVec.ofInt k.bits b).toNat : Nat)
def ishl (k : IntKind) (a b : Int) : Int := k.wrap (a * 2 ^ (min b.toNat k.bits))
def ishr (k : IntKind) (a b : Int) : Int := a.fdiv (2 ^ (min b.toNat k.bits))
def fcmp (k : FloatKind) (a b : Nat) : Option Ordering := k.format.order a b
def ibin (op : BinOp) (k : IntKind) (a b : Int) : Option Value :=
 match op with
 | .add => some (.int k (k.wrap (a + b)))
 | .sub => some (.int k (k.wrap (a - b)))
 | .mul => some (.int k (k.wrap (a * b)))
 | .and => some (.int k (iand k a b))
 | .or => some (.int k (ior k a b))
 | .xor => some (.int k (ixor k a b))
 | .andNot => some (.int k (iandn k a b))
 | .eql => some (.bool (a == b))
 | .neq => some (.bool (a != b))
 | .lss => some (.bool (decide (a < b)))
 | .leq => some (.bool (decide (a ≤ b)))
 | .gtr => some (.bool (decide (a > b)))
 | .geq => some (.bool (decide (a ≥ b)))
 | _ => none
def fbin (op : BinOp) (k : FloatKind) (a b : Nat) : Option Value :=
 match op with
 | .eql => some (.bool (fcmp k a b == some .eq))
 | .neq => some (.bool (fcmp k a b != some .eq))
 | .lss => some (.bool (fcmp k a b == some .lt))
 | .leq => some (.bool (fcmp k a b == some .lt || fcmp k a b == some .eq))
 | .gtr => some (.bool (fcmp k a b == some .gt))
 | .geq => some (.bool (fcmp k a b == some .gt || fcmp k a b == some .eq))
 | _ => none
def sbin (op : BinOp) (a b : ByteArray) : Option Value :=
 match op with
 | .eql => some (.bool (a.toList == b.toList))
 | .neq => some (.bool (!(a.toList == b.toList)))
 | _ => none
def kindB : IntKind → IntKind → Bool
 | .i8, .i8 | .i16, .i16 | .i32, .i32 | .i64, .i64 | .u8, .u8 | .u16, .u16 | .u32, .u32 | .u64, .u64 => true
 | _, _ => false
theorem kindB_eq {k k' : IntKind} (h : kindB k k' = true) : k = k' := by cases k <;> cases k' <;> first | rfl | cases h
def fkindB : FloatKind → FloatKind → Bool
 | .f32, .f32 | .f64, .f64 => true
 | _, _ => false
theorem fkindB_eq {k k' : FloatKind} (h : fkindB k k' = true) : k = k' := by cases k <;> cases k' <;> first | rfl | cases h
def binv (op : BinOp) (x y : Value) : Option Value :=
 match x, y with
 | .int k a, .int k' b => bif kindB k k' then ibin op k a b else none
 | .float k a, .float k' b => bif fkindB k k' then fbin op k a b else none
 | .string a, .string b => sbin op a b
 | _, _ => none
def unv (op : UnOp) (x : Value) : Option Value :=
 match op, x with
 | .not, .bool b => some (.bool (!b))
 | .neg, .int k n => some (.int k (k.wrap (0 - n)))
 | .xor, .int k n => some (.int k (ixor k (if k.signed then -1 else k.max) n))
 | _, _ => none
def nrm : Value → Option Value
 | .bool b => some (.bool b)
 | .int k n => some (.int k n)
 | .float k n => some (.float k n)
 | .complex k a b => some (.complex k a b)
 | .string x => some (.string x)
 | .pointer a => some (.pointer a)
 | .slice a l c => some (.slice a l c)
 | .map r => some (.map r)
 | .chan r => some (.chan r)
 | .func f a c => some (.func f a c)
 | .nilFunc => some .nilFunc
 | .iface t v => some (.iface t v)
 | .nilIface => some .nilIface
 | .agg cs => some (.agg cs)
 | .tuple vs => some (.tuple vs)
theorem nrm_eq (v : Value) : nrm v = some v := by cases v <;> rfl
def ex (e : Env) : Op → Option Value
 | .move x => nrm (ev e x)
 | .assign x => nrm (ev e x)
 | .pick c a b => match ev e c with
  | .bool t => bif t then nrm (ev e a) else nrm (ev e b)
  | _ => none
 | .binOp op _ x y _ => binv op (ev e x) (ev e y)
 | .unOp op _ x => unv op (ev e x)
 | .extract x i => match ev e x with
  | .tuple vs => vs[i]?
  | _ => none
 | .nilCheck x => match ev e x with
  | .pointer (some a) => some (.pointer (some a))
  | _ => none
 | _ => none
theorem ibin_run {P : Program} {w : World} {op : BinOp} {t : TypeId} {X Y : Operand} {k : IntKind} {a b : Int} {v : Value} (h : ibin op k a b = some v) :
    (do eqGuard op t X Y (.int k a) (.int k b); binOp op t (.int k a) (.int k b) : Sem Value).run P w = .ok v w := by
  cases op <;> simp only [ibin] at h <;> cases h <;> (rw [Sem.run_bind']; simp [eqGuard, binOp, Op.intArith, Op.intBits, Op.intCmp, iand, ior, ixor, iandn, Result.andThen]; done)
theorem fbin_run {P : Program} {w : World} {op : BinOp} {t : TypeId} {X Y : Operand} {k : FloatKind} {a b : Nat} {v : Value} (h : fbin op k a b = some v) :
    (do eqGuard op t X Y (.float k a) (.float k b); binOp op t (.float k a) (.float k b) : Sem Value).run P w = .ok v w := by
  cases op <;> simp only [fbin] at h <;> cases h <;> (rw [Sem.run_bind']; simp [eqGuard, binOp, Op.floatCmp, fcmp, Result.andThen]; done)
theorem sbin_run {P : Program} {w : World} {op : BinOp} {t : TypeId} {X Y : Operand} {a b : ByteArray} {v : Value} (h : sbin op a b = some v) :
    (do eqGuard op t X Y (.string a) (.string b); binOp op t (.string a) (.string b) : Sem Value).run P w = .ok v w := by
  cases op <;> simp only [sbin] at h <;> cases h <;> (rw [Sem.run_bind']; simp [eqGuard, binOp, Op.stringOp, Result.andThen]; done)
theorem binv_run {P : Program} {w : World} {op : BinOp} {t : TypeId} {X Y : Operand} {x y v : Value} (h : binv op x y = some v) :
    (do eqGuard op t X Y x y; binOp op t x y : Sem Value).run P w = .ok v w := by
  unfold binv at h
  split at h
  · rename_i k a k' b
    cases hk : kindB k k' with
    | false => rw [hk] at h; cases h
    | true => rw [hk] at h; obtain rfl := kindB_eq hk; exact ibin_run h
  · rename_i k a k' b
    cases hk : fkindB k k' with
    | false => rw [hk] at h; cases h
    | true => rw [hk] at h; obtain rfl := fkindB_eq hk; exact fbin_run h
  · exact sbin_run h
  · cases h
theorem ex_run {P : Program} {w : World} {e : Env} {o : Oper} {v : Value} (h : ex e o.op = some v) : (execOp (ev e) o).run P w = .ok (.value v) w := by
 unfold ex at h
 split at h
 · rename_i x hx; rw [nrm_eq] at h; obtain rfl := Option.some.inj h; simp [execOp, hx]
 · rename_i x hx; rw [nrm_eq] at h; obtain rfl := Option.some.inj h; simp [execOp, hx]
 · rename_i c a b hx
   split at h
   · rename_i t ht
     simp only [nrm_eq] at h
     cases t <;> (obtain rfl := Option.some.inj h; simp [execOp, hx, ht, asBool])
   · cases h
 · rename_i op t x y t' hx
   have := binv_run (P := P) (w := w) (t := t) (X := x) (Y := y) h
   simp only [execOp, hx]
   rw [Sem.run_bind', this]; rfl
 · rename_i op t x hx
   unfold unv at h
   split at h
   · rename_i b hb; obtain rfl := Option.some.inj h; simp [execOp, hx, hb, Op.unary]
   · rename_i k n hb; obtain rfl := Option.some.inj h; simp [execOp, hx, hb, Op.unary, Op.intArith]
   · rename_i k n hb; obtain rfl := Option.some.inj h; simp [execOp, hx, hb, Op.unary, Op.intBits, ixor]
   · cases h
 · rename_i x i hx
   split at h
   · rename_i vs hvs; simp [execOp, hx, hvs, Instr.extract, h]
   · cases h
 · rename_i x hx
   split at h
   · rename_i a ha; obtain rfl := Option.some.inj h; simp [execOp, hx, ha]
   · cases h
 · cases h
section
variable {P : Program} {f : Who} {N : Nat} {O ρ : Type} {m : Option O} {G : O → Option ρ} {R : ρ → Ending → World → Prop} {e : Env} {w : World} {k : List Item} {ops : Array Oper}
def TM (P : Program) (f : Who) (N : Nat) {O ρ : Type} (m : Option O) (G : O → Option ρ) (R : ρ → Ending → World → Prop) (todo : List Item) (e : Env) (w : World) : Prop :=
 ∀ o, m = some o → ∀ r, G o = some r → T P f N (R r) todo e w
theorem TM.of {todo todo' : List Item} {e' : Env} {w' : World} (hT : ∀ r, T P f N (R r) todo' e' w' → T P f N (R r) todo e w) (h : TM P f N m G R todo' e' w') : TM P f N m G R todo e w :=
 fun o ho r hr => hT r (h o ho r hr)
theorem sr {id : Nat} {c : Code} (h : TM P f N m G R (.inRegion ops (List.range ops.size) :: .code c :: k) e w) : TM P f N m G R (.code (.seq (.region id ops false) c) :: k) e w :=
 TM.of (fun _ h => T_seq (T_region h)) h
theorem sq {x y : Code} (h : TM P f N m G R (.code x :: .code y :: k) e w) : TM P f N m G R (.code (.seq x y) :: k) e w := TM.of (fun _ h => T_seq h) h
theorem sk (h : TM P f N m G R k e w) : TM P f N m G R (.code .skip :: k) e w := TM.of (fun _ h => T_skip h) h
theorem ib {id : Nat} (h : TM P f N m G R k e w) : TM P f N m G R (.inBlock id :: k) e w := TM.of (fun _ h => T_inBlock h) h
theorem bl {id : Nat} {c : Code} (h : TM P f N m G R (.code c :: .inBlock id :: k) e w) : TM P f N m G R (.code (.block id c) :: k) e w := TM.of (fun _ h => T_block h) h
theorem lp {c : Code} (h : TM P f N m G R (.code c :: .inLoop c :: k) e w) : TM P f N m G R (.code (.loop c) :: k) e w := TM.of (fun _ h => T_loop h) h
theorem xt {id : Nat} {k' : List Item} (hk : exitTo id k = some k') (h : TM P f N m G R k' e w) : TM P f N m G R (.code (.exit id) :: k) e w := TM.of (fun _ h => T_exit hk h) h
theorem rg {id : Nat} (h : TM P f N m G R (.inRegion ops (List.range ops.size) :: k) e w) : TM P f N m G R (.code (.region id ops false) :: k) e w := TM.of (fun _ h => T_region h) h
theorem dn (h : TM P f N m G R k e w) : TM P f N m G R (.inRegion ops [] :: k) e w := TM.of (fun _ h => T_done h) h
theorem mb {α : Type} {x : Option α} {g : α → Option O} (h : ∀ a, x = some a → TM P f N (g a) G R k e w) : TM P f N (x.bind g) G R k e w := by
 intro o ho
 obtain ⟨a, ha, hg⟩ := Option.bind_eq_some_iff.1 ho
 exact h a ha o hg
theorem mg {b : Prop} [Decidable b] {m1 : Option O} (h1 : b → TM P f N m1 G R k e w) : TM P f N (if b then m1 else none) G R k e w := by
 split
 · exact h1 ‹_›
 · intro o ho; cases ho
theorem cd {c : Operand} {x y : Code} {b : Bool} {m1 m2 : Option O} (hc : ev e c = .bool b) (h1 : b = true → TM P f N m1 G R (.code x :: k) e w) (h2 : b = false → TM P f N m2 G R (.code y :: k) e w) :
    TM P f N (if b = true then m1 else m2) G R (.code (.cond c x y) :: k) e w := by
  cases b with
  | true => exact TM.of (fun _ h => T_cond hc h) (by rw [if_pos rfl]; exact h1 rfl)
  | false => exact TM.of (fun _ h => T_cond hc h) (by rw [if_neg (by decide)]; exact h2 rfl)
theorem cdt {c : Operand} {x y : Code} (hc : ev e c = .bool true) (h1 : TM P f N m G R (.code x :: k) e w) : TM P f N m G R (.code (.cond c x y) :: k) e w := TM.of (fun _ h => T_cond hc h) h1
theorem cdf {c : Operand} {x y : Code} (hc : ev e c = .bool false) (h1 : TM P f N m G R (.code y :: k) e w) : TM P f N m G R (.code (.cond c x y) :: k) e w := TM.of (fun _ h => T_cond hc h) h1
theorem pu {i d : Nat} {rest : List Nat} {o : Oper} {v : Value} (ho : ops[i]? = some o) (hd : o.dst = some d) (hN : Nat.blt d N = true) (hw : Region.wanted o (yv e ops) = true) (hx : ex e o.op = some v)
    (h : TM P f N m G R (.inRegion ops rest :: k) (upd e d v) w) : TM P f N m G R (.inRegion ops (i :: rest) :: k) e w :=
  TM.of (fun _ h => T_value ho hd hN hw (ex_run hx) h) h
theorem Xb {i d : Nat} {rest : List Nat} {o : Oper} {v : Value} (t0 : E5 (ops[i]?) (some o) (o.dst) (some d) (Nat.blt d N) (true) (Region.wanted o (yv e ops)) (true) (ex e o.op) (some v)) (h : TM P f N m G R (.inRegion ops rest :: k) (upd e d v) w) : TM P f N m G R (.inRegion ops (i :: rest) :: k) e w := pu (e5_ t0).1 (e5_ t0).2.1 (e5_ t0).2.2.1 (e5_ t0).2.2.2.1 (e5_ t0).2.2.2.2 h
theorem mv (v : Value) {i d : Nat} {rest : List Nat} {o : Oper} {x : Operand} (ho : ops[i]? = some o) (hd : o.dst = some d) (hN : Nat.blt d N = true) (hw : Region.wanted o (yv e ops) = true) (hop : o.op = .move x) (hx : ev e x = v)
    (h : TM P f N m G R (.inRegion ops rest :: k) (upd e d v) w) : TM P f N m G R (.inRegion ops (i :: rest) :: k) e w :=
  TM.of (fun _ h => T_value ho hd hN hw (by simp [execOp, hop, hx]) h) h
theorem Xw (v : Value) {i d : Nat} {rest : List Nat} {o : Oper} {x : Operand} (t1 : E6 (ops[i]?) (some o) (o.dst) (some d) (Nat.blt d N) (true) (Region.wanted o (yv e ops)) (true) (o.op) (.move x) (ev e x) (v)) (h : TM P f N m G R (.inRegion ops rest :: k) (upd e d v) w) : TM P f N m G R (.inRegion ops (i :: rest) :: k) e w := mv v (e6_ t1).1 (e6_ t1).2.1 (e6_ t1).2.2.1 (e6_ t1).2.2.2.1 (e6_ t1).2.2.2.2.1 (e6_ t1).2.2.2.2.2 h
theorem asg (v : Value) {i d : Nat} {rest : List Nat} {o : Oper} {x : Operand} (ho : ops[i]? = some o) (hd : o.dst = some d) (hN : Nat.blt d N = true) (hw : Region.wanted o (yv e ops) = true) (hop : o.op = .assign x) (hx : ev e x = v)
    (h : TM P f N m G R (.inRegion ops rest :: k) (upd e d v) w) : TM P f N m G R (.inRegion ops (i :: rest) :: k) e w :=
  TM.of (fun _ h => T_value ho hd hN hw (by simp [execOp, hop, hx]) h) h
theorem asg' (v : Value) {i d : Nat} {rest : List Nat} {o : Oper} {x : Operand} (t1 : E6 (ops[i]?) (some o) (o.dst) (some d) (Nat.blt d N) (true) (Region.wanted o (yv e ops)) (true) (o.op) (.assign x) (ev e x) (v)) (h : TM P f N m G R (.inRegion ops rest :: k) (upd e d v) w) : TM P f N m G R (.inRegion ops (i :: rest) :: k) e w := asg v (e6_ t1).1 (e6_ t1).2.1 (e6_ t1).2.2.1 (e6_ t1).2.2.2.1 (e6_ t1).2.2.2.2.1 (e6_ t1).2.2.2.2.2 h
theorem uw {i d : Nat} {rest : List Nat} {o : Oper} (ho : ops[i]? = some o) (hd : o.dst = some d) (hN : Nat.blt d N = true) (hw : Region.wanted o (yv e ops) = false)
    (h : TM P f N m G R (.inRegion ops rest :: k) (upd e d undef) w) : TM P f N m G R (.inRegion ops (i :: rest) :: k) e w :=
  TM.of (fun _ h => T_unwanted ho hd hN hw h) h
theorem Xr {i d : Nat} {rest : List Nat} {o : Oper} (t0 : E4 (ops[i]?) (some o) (o.dst) (some d) (Nat.blt d N) (true) (Region.wanted o (yv e ops)) (false)) (h : TM P f N m G R (.inRegion ops rest :: k) (upd e d undef) w) : TM P f N m G R (.inRegion ops (i :: rest) :: k) e w := uw (e4_ t0).1 (e4_ t0).2.1 (e4_ t0).2.2.1 (e4_ t0).2.2.2 h
theorem vl {i d : Nat} {rest : List Nat} {o : Oper} {v : Value} {w' : World} (ho : ops[i]? = some o) (hd : o.dst = some d) (hN : Nat.blt d N = true) (hw : Region.wanted o (yv e ops) = true)
    (hr : (execOp (ev e) o).run P w = .ok (.value v) w') (h : TM P f N m G R (.inRegion ops rest :: k) (upd e d v) w') : TM P f N m G R (.inRegion ops (i :: rest) :: k) e w :=
  TM.of (fun _ h => T_value ho hd hN hw hr h) h
theorem vd {i : Nat} {rest : List Nat} {o : Oper} {w' : World} (ho : ops[i]? = some o) (hd : o.dst = none) (hw : Region.wanted o (yv e ops) = true)
    (hr : (execOp (ev e) o).run P w = .ok .skip w') (h : TM P f N m G R (.inRegion ops rest :: k) e w') : TM P f N m G R (.inRegion ops (i :: rest) :: k) e w :=
  TM.of (fun _ h => T_void ho hd hw hr h) h
theorem rtG {fn : Func} {v : Value} {r : ρ} {o : O} (hG : G o = some r) (hf : P.funcs[f.fn]? = some fn) (hr : ∀ a, Fr N e a → (results fn a.tmps).run P w = .ok v w) (hR : R r (.returned v) w) (h0 : f.rd = none := by rfl) (h1 : f.df = none := by rfl) : TM P f N (some o) G R (.code .ret :: k) e w := by
 intro o' ho r' hr'
 obtain rfl := Option.some.inj ho
 rw [hG] at hr'
 obtain rfl := Option.some.inj hr'
 exact T_ret hf hr hR h0 h1
end
theorem Xf {P : Program} {f : FuncId} {fn : Func} {c : Code} {args : List Value} {w : World} {ρ : Type} {m : Option ρ} {R : ρ → Ending → World → Prop} {N : Nat} {r : ρ}
    (hf : P.funcs[f]? = some fn) (hN : fn.ntmps = N) (hb : fn.body = some c) (hn : Nat.ble args.length N = true) (hm : m = some r) (h : TM P ⟨f, none, none⟩ N m some R [.code c] (envOf args) w) : Calls P f args.toArray w (R r) := by
  subst hN
  exact calls_of_T hf hb hn (h r hm r rfl)
section
variable {P : Program} {f : Who} {N : Nat} {O ρ : Type} {m : Option O} {G : O → Option ρ} {R : ρ → Ending → World → Prop} {e : Env} {w : World} {k : List Item} {ops : Array Oper}
theorem run_call {g : FuncId} {fn : Func} {c : Code} {args : Array Operand} {ts : Array TypeId} {o : Oper} (ho : o.op = .call { callee := .value (.func g), args := args, argTypes := ts }) (hg : P.funcs[g]? = some fn) (hb : fn.body = some c)
    (hn : (fn.name == "runtime.NumGoroutine") = false) : (execOp (ev e) o).run P w = .ok (.enter g (args.map (ev e))) w := by
  have hn' : ¬ fn.name = "runtime.NumGoroutine" := by simpa using hn
  simp [execOp, ho, resolve, ev, Deferred.ofValue, invoke, callFunc, hg, hb, hn']
theorem cl {α : Type} {x : Option α} {km : α → Option O} {i d : Nat} {rest : List Nat} {o : Oper} {g : FuncId} {fn : Func} {c : Code} {args : Array Operand} {ts : Array TypeId} {vs : List Value} {Q : α → Value → World → Prop}
    (ho : ops[i]? = some o) (hd : o.dst = some d) (hN : Nat.blt d N = true) (hw : Region.wanted o (yv e ops) = true)
    (hop : o.op = .call { callee := .value (.func g), args := args, argTypes := ts }) (hg : P.funcs[g]? = some fn) (hb : fn.body = some c) (hn : (fn.name == "runtime.NumGoroutine") = false)
    (hargs : args.toList.map (ev e) = vs) (hc : ∀ a, x = some a → Calls P g vs.toArray w fun en w' => ∃ v, en = .returned v ∧ Q a v w')
    (h : ∀ a v w', x = some a → Q a v w' → TM P f N (km a) G R (.inRegion ops rest :: k) (upd e d v) w') : TM P f N (x.bind km) G R (.inRegion ops (i :: rest) :: k) e w := by
  intro oo hoo r hr
  obtain ⟨a, ha, hkm⟩ := Option.bind_eq_some_iff.1 hoo
  refine T.call_core (E := fun v => upd e d v) ho hw (fun a' ha' v => by rw [hd]; exact ha'.put d hN v) (run_call hop hg hb hn) (by rw [show args.map (ev e) = vs.toArray from by rw [← hargs, ← Array.toList_map]]; exact hc a ha) ?_
  rintro en w' ⟨v, rfl, hQ⟩
  exact ⟨v, rfl, h a v w' ha hQ oo hkm r hr⟩
theorem cl' {α : Type} {x : Option α} {km : α → Option O} {i d : Nat} {rest : List Nat} {o : Oper} {g : FuncId} {fn : Func} {c : Code} {args : Array Operand} {ts : Array TypeId} {vs : List Value} {Q : α → Value → World → Prop} (t0 : E5 (ops[i]?) (some o) (o.dst) (some d) (Nat.blt d N) (true) (Region.wanted o (yv e ops)) (true) (o.op) (.call { callee := .value (.func g), args := args, argTypes := ts })) (hg : P.funcs[g]? = some fn) (t6 : E3 (fn.body) (some c) ((fn.name == "runtime.NumGoroutine")) (false) (args.toList.map (ev e)) (vs)) (hc : ∀ a, x = some a → Calls P g vs.toArray w fun en w' => ∃ v, en = .returned v ∧ Q a v w') (h : ∀ a v w', x = some a → Q a v w' → TM P f N (km a) G R (.inRegion ops rest :: k) (upd e d v) w') : TM P f N (x.bind km) G R (.inRegion ops (i :: rest) :: k) e w := cl (e5_ t0).1 (e5_ t0).2.1 (e5_ t0).2.2.1 (e5_ t0).2.2.2.1 (e5_ t0).2.2.2.2 hg (e3_ t6).1 (e3_ t6).2.1 (e3_ t6).2.2 hc h
end
def appr {S O : Type} (body : S → Option (S ⊕ O)) : Nat → S → Option O
 | 0, _ => none
 | n + 1, s => (body s).bind fun | .inl s' => appr body n s' | .inr r => some r
theorem appr_up {S O : Type} (body : S → Option (S ⊕ O)) : ∀ n s r, appr body n s = some r → appr body (n + 1) s = some r
 | 0, _, _, h => by cases h
 | n + 1, s, r, h => by
  simp only [appr] at h
  obtain ⟨a, ha, h⟩ := Option.bind_eq_some_iff.1 h
  show (body s).bind _ = some r
  rw [ha]
  cases a with
  | inl s' => exact appr_up body n s' r h
  | inr r' => exact h
theorem appr_le {S O : Type} (body : S → Option (S ⊕ O)) {n n' : Nat} (h : n ≤ n') {s : S} {r : O} (hr : appr body n s = some r) : appr body n' s = some r := by
 induction h with
 | refl => exact hr
 | step _ ih => exact appr_up body _ s r ih
noncomputable def iter {S O : Type} (body : S → Option (S ⊕ O)) (s : S) : Option O :=
 open Classical in if h : ∃ n r, appr body n s = some r then some h.choose_spec.choose else none
theorem iter_of {S O : Type} {body : S → Option (S ⊕ O)} {s : S} {n : Nat} {r : O} (h : appr body n s = some r) : iter body s = some r := by
 have hx : ∃ n r, appr body n s = some r := ⟨n, r, h⟩
 unfold iter
 rw [dif_pos hx]
 have h2 := hx.choose_spec.choose_spec
 have h3 := appr_le body (Nat.le_max_left n hx.choose) h
 have h4 := appr_le body (Nat.le_max_right n hx.choose) h2
 rw [h3] at h4
 exact h4.symm
theorem iter_some {S O : Type} {body : S → Option (S ⊕ O)} {s : S} {r : O} (h : iter body s = some r) : ∃ n, appr body n s = some r := by
 unfold iter at h
 split at h
 · rename_i hx
   obtain rfl := Option.some.inj h
   exact ⟨_, hx.choose_spec.choose_spec⟩
 · cases h
theorem iter_eq {S O : Type} (body : S → Option (S ⊕ O)) (s : S) : iter body s = (body s).bind fun | .inl s' => iter body s' | .inr r => some r := by
 apply Option.ext
 intro r
 constructor
 · intro h
   obtain ⟨n, hn⟩ := iter_some h
   cases n with
   | zero => cases hn
   | succ n =>
    simp only [appr] at hn
    obtain ⟨a, ha, hn⟩ := Option.bind_eq_some_iff.1 hn
    rw [ha]
    cases a with
    | inl s' => exact iter_of hn
    | inr r' => exact hn
 · intro h
   obtain ⟨a, ha, h⟩ := Option.bind_eq_some_iff.1 h
   cases a with
   | inl s' =>
    obtain ⟨n, hn⟩ := iter_some h
    exact iter_of (n := n + 1) (by simp only [appr, ha, Option.bind_some]; exact hn)
   | inr r' => exact iter_of (n := 1) (by simp only [appr, ha, Option.bind_some]; exact h)
section
variable {P : Program} {f : Who} {N : Nat} {S O ρ : Type} {G : O → Option ρ} {R : ρ → Ending → World → Prop} {k : List Item}
def SG {S O ρ : Type} (g : S → Option ρ) (G : O → Option ρ) : S ⊕ O → Option ρ
 | .inl s => g s
 | .inr o => G o
theorem lpI {body : S → Option (S ⊕ O)} {c : Code} {s : S} {e : Env} {w : World} (Inv : S → Env → World → Prop) (h0 : Inv s e w)
    (round : ∀ g : S → Option ρ, (∀ s e w r, Inv s e w → g s = some r → T P f N (R r) (.inLoop c :: k) e w) → ∀ s e w, Inv s e w → TM P f N (body s) (SG g G) R (.code c :: .inLoop c :: k) e w) :
    TM P f N (iter body s) G R (.code (.loop c) :: k) e w := by
  have key : ∀ n, ∀ s e w r, Inv s e w → (appr body n s).bind G = some r → T P f N (R r) (.inLoop c :: k) e w := by
    intro n
    induction n with
    | zero => intro s e w r _ h; cases h
    | succ n ih =>
      intro s e w r hI h
      obtain ⟨o, h, hG⟩ := Option.bind_eq_some_iff.1 h
      simp only [appr] at h
      obtain ⟨a, ha, h⟩ := Option.bind_eq_some_iff.1 h
      refine T_inLoop (round (fun s => (appr body n s).bind G) ih s e w hI a ha r ?_)
      cases a with
      | inl s' => exact Option.bind_eq_some_iff.2 ⟨o, h, hG⟩
      | inr o' => obtain rfl := Option.some.inj h; exact hG
  intro o ho r hr
  obtain ⟨n, hn⟩ := iter_some ho
  cases n with
  | zero => cases hn
  | succ n =>
    simp only [appr] at hn
    obtain ⟨a, ha, hn⟩ := Option.bind_eq_some_iff.1 hn
    refine T_loop (round (fun s => (appr body n s).bind G) (key n) s e w h0 a ha r ?_)
    cases a with
    | inl s' => exact Option.bind_eq_some_iff.2 ⟨o, hn, hr⟩
    | inr o' => obtain rfl := Option.some.inj hn; exact hr
theorem lb {g : S → Option ρ} {c : Code} {Inv : S → Env → World → Prop} {s : S} {e : Env} {w : World} (ih : ∀ s e w r, Inv s e w → g s = some r → T P f N (R r) (.inLoop c :: k) e w) (hI : Inv s e w) :
    TM P f N (some (.inl s)) (SG g G) R (.inLoop c :: k) e w := by
  intro o ho r hr
  obtain rfl := Option.some.inj ho
  exact ih s e w r hI hr
end
end Go.Proofs.YtlpbggnpiogioaaGreat.V
set_option linter.unusedVariables false
set_option linter.unusedSimpArgs false
namespace Go.Proofs.YtlpbggnpiogioaaGreat.V
open Go Ieee
abbrev D : Format := double
theorem binD : D.binade = 4503599627370496 := rfl
theorem infD : D.infRung = 9218868437227405312 := rfl
theorem swD : D.signWeight = 9223372036854775808 := rfl
theorem lpD : D.leastPlace = -1074 := rfl
theorem fbD : D.fractionBits = 52 := rfl
theorem readD (w : Nat) : D.read w = if w % 9223372036854775808 < 4503599627370496 then .number (w / 9223372036854775808 % 2 == 1) (w % 9223372036854775808) (-1074)
    else if w % 9223372036854775808 < 9218868437227405312 then .number (w / 9223372036854775808 % 2 == 1) (4503599627370496 + w % 9223372036854775808 % 4503599627370496) (-1074 + ((w % 9223372036854775808 / 4503599627370496 - 1 : Nat) : Int))
    else if w % 9223372036854775808 = 9218868437227405312 then .infinity (w / 9223372036854775808 % 2 == 1) else .nan (w / 9223372036854775808 % 2 == 1) (w % 9223372036854775808 - 9218868437227405312) := rfl
def pw (n : Nat) : Nat := 2 ^ n
theorem pw_add (a b : Nat) : pw (a + b) = pw a * pw b := Nat.pow_add 2 a b
theorem pw_succ (a : Nat) : pw (a + 1) = pw a * 2 := Nat.pow_succ 2 a
theorem pw_pos (a : Nat) : 0 < pw a := Nat.two_pow_pos a
theorem pw_le {a b : Nat} (h : a ≤ b) : pw a ≤ pw b := Nat.pow_le_pow_right (by omega) h
def Rep (u : Nat) : Prop := ∃ M e : Nat, M < 9007199254740992 ∧ (e = 0 ∨ 4503599627370496 ≤ M) ∧ e ≤ 2045 ∧ u = M * pw e
def IsV (w : Nat) (s : Bool) (u : Nat) : Prop := ∃ M e : Nat, M < 9007199254740992 ∧ (e = 0 ∨ 4503599627370496 ≤ M) ∧ e ≤ 2045 ∧ u = M * pw e ∧ w = D.word s (e * 4503599627370496 + M)
theorem word_div (s : Bool) (r : Nat) (h : r < 9223372036854775808) : (D.word s r / 9223372036854775808 % 2 == 1) = s ∧ D.word s r % 9223372036854775808 = r := by
 unfold Format.word
 rw [swD]
 cases s with
 | false => simp only [Bool.false_eq_true, if_false]; exact ⟨by rw [Nat.div_eq_of_lt h]; rfl, Nat.mod_eq_of_lt h⟩
 | true =>
  simp only [if_true]
  refine ⟨?_, ?_⟩
  · rw [show (9223372036854775808 + r) / 9223372036854775808 = 1 by omega]; rfl
  · omega
theorem read_me (s : Bool) (M e : Nat) (h1 : M < 9007199254740992) (h2 : e = 0 ∨ 4503599627370496 ≤ M) (h3 : e ≤ 2045) : D.read (D.word s (e * 4503599627370496 + M)) = .number s M ((e : Int) - 1074) := by
 have hr : e * 4503599627370496 + M < 9218868437227405312 := by omega
 obtain ⟨d1, d2⟩ := word_div s (e * 4503599627370496 + M) (by omega)
 rw [readD, d1, d2]
 by_cases hm : M < 4503599627370496
 · have he : e = 0 := by omega
   subst he
   rw [if_pos (by omega), Nat.zero_mul, Nat.zero_add]
   rfl
 · rw [if_neg (by omega), if_pos hr]
   have e1 : (e * 4503599627370496 + M) % 4503599627370496 = M - 4503599627370496 := by omega
   have e2 : (e * 4503599627370496 + M) / 4503599627370496 - 1 = e := by omega
   rw [e1, e2, show 4503599627370496 + (M - 4503599627370496) = M by omega, show (-1074 : Int) + (e : Int) = (e : Int) - 1074 by omega]
theorem IsV.read {w : Nat} {s : Bool} {u : Nat} (h : IsV w s u) : ∃ M e : Nat, M < 9007199254740992 ∧ (e = 0 ∨ 4503599627370496 ≤ M) ∧ e ≤ 2045 ∧ u = M * 2 ^ e ∧ w = D.word s (e * 4503599627370496 + M) ∧ D.read w = .number s M ((e : Int) - 1074) := by
 obtain ⟨M, e, h1, h2, h3, h4, h5⟩ := h
 exact ⟨M, e, h1, h2, h3, h4, h5, by rw [h5]; exact read_me s M e h1 h2 h3⟩
theorem log2_le52 {M : Nat} (h : M < 9007199254740992) : M.log2 ≤ 52 := by
 by_cases hm : M = 0
 · subst hm; decide
 · have := Nat.log2_self_le hm
   have h2 : 2 ^ M.log2 < 2 ^ 53 := Nat.lt_of_le_of_lt this h
   have := (Nat.pow_lt_pow_iff_right (by omega : 1 < 2)).1 h2
   omega
theorem log2_ge52 {M : Nat} (h : 4503599627370496 ≤ M) : 52 ≤ M.log2 := (Nat.le_log2 (by omega)).2 h
theorem log2_mul_pow {M : Nat} (h : M ≠ 0) (k : Nat) : (M * 2 ^ k).log2 = M.log2 + k := by
 have hp : 0 < 2 ^ k := Nat.two_pow_pos k
 have hne : M * 2 ^ k ≠ 0 := by
  intro h0
  rcases Nat.mul_eq_zero.1 h0 with h0 | h0 <;> omega
 refine (Nat.log2_eq_iff hne).2 ⟨?_, ?_⟩
 · rw [Nat.pow_add]; exact Nat.mul_le_mul_right _ (Nat.log2_self_le h)
 · rw [show M.log2 + k + 1 = (M.log2 + 1) + k by omega, Nat.pow_add]
   exact Nat.mul_lt_mul_of_pos_right Nat.lt_log2_self hp
theorem cut_exact (s : Bool) (M k : Nat) (h : M ≠ 0) : Toward.even.cut s (M * 2 ^ k) k = M := by
 unfold Toward.cut
 have hl := log2_mul_pow h k
 have hmin : min k ((M * 2 ^ k).log2 + 2) = k := by omega
 have hp : 0 < 2 ^ k := Nat.two_pow_pos k
 simp only [hmin, Nat.one_shiftLeft, Nat.mul_div_cancel _ hp, Nat.mul_mod_left]
 have h1 : ¬ (2 ^ k < 2 * 0) := by omega
 have h2 : ((2 ^ k == 2 * 0) && (M % 2 == 1)) = false := by
  have : (2 ^ k == 2 * 0) = false := by simp
  rw [this]; rfl
 simp [h1, h2]
theorem write_me (s : Bool) (mag : Nat) (place : Int) (M e : Nat) (h1 : M < 9007199254740992) (h2 : e = 0 ∨ 4503599627370496 ≤ M) (h3 : e ≤ 2045) (hm : M ≠ 0)
    (h : (∃ k : Nat, mag * 2 ^ k = M ∧ place = (e : Int) - 1074 + k) ∨ (∃ k : Nat, mag = M * 2 ^ k ∧ place = (e : Int) - 1074 - k)) : D.write (.number s mag place) = D.word s (e * 4503599627370496 + M) := by
  have hM := log2_le52 h1
  have hr : e * 4503599627370496 + M < 9218868437227405312 := by omega
  have hlast : ((e : Int) - 1074 + M.log2 - 52 ≤ -1074 ∧ e = 0) ∨ M.log2 = 52 := by
    rcases h2 with h2 | h2
    · left; omega
    · right; have := log2_ge52 h2; omega
  show D.nearest s mag place = _
  unfold Format.nearest
  rw [fbD, lpD, binD, infD]
  rcases h with ⟨k, hk, hp⟩ | ⟨k, hk, hp⟩
  · have hmag : mag ≠ 0 := by intro h0; subst h0; simp at hk; omega
    have hl := log2_mul_pow hmag k
    rw [hk] at hl
    have elast : max (place + (mag.log2 : Int) - (52 : Nat)) (-1074) = (e : Int) - 1074 := by omega
    simp only [if_neg hmag, elast]
    have e1 : (place - ((e : Int) - 1074)).toNat = k := by omega
    have e2 : ((e : Int) - 1074 - place).toNat = 0 := by omega
    rw [e1, e2, Nat.shiftLeft_eq, hk]
    have hc := cut_exact s M 0 hm
    rw [Nat.pow_zero, Nat.mul_one] at hc
    rw [hc]
    have e5 : ((e : Int) - 1074 - -1074).toNat = e := by omega
    rw [e5, Nat.min_eq_left (Nat.le_of_lt hr)]
  · have hp2 : 0 < 2 ^ k := Nat.two_pow_pos k
    have hmag : mag ≠ 0 := by
      intro h0; rw [hk] at h0
      rcases Nat.mul_eq_zero.1 h0 with h0 | h0 <;> omega
    have hl := log2_mul_pow hm k
    rw [← hk] at hl
    have elast : max (place + (mag.log2 : Int) - (52 : Nat)) (-1074) = (e : Int) - 1074 := by omega
    simp only [if_neg hmag, elast]
    have e1 : (place - ((e : Int) - 1074)).toNat = 0 := by omega
    have e2 : ((e : Int) - 1074 - place).toNat = k := by omega
    rw [e1, e2, Nat.shiftLeft_eq, Nat.pow_zero, Nat.mul_one, hk, cut_exact s M k hm]
    have e5 : ((e : Int) - 1074 - -1074).toNat = e := by omega
    rw [e5, Nat.min_eq_left (Nat.le_of_lt hr)]
theorem write_zero (s : Bool) (place : Int) : D.write (.number s 0 place) = D.word s 0 := by
 show D.nearest s 0 place = _
 unfold Format.nearest; simp
theorem write_rep (s : Bool) (mag : Nat) (place : Int) (u : Nat) (hu : Rep u) (h : mag * 2 ^ (place + 1074).toNat = u * 2 ^ (-(place + 1074)).toNat) : IsV (D.write (.number s mag place)) s u := by
 obtain ⟨M, e, h1, h2, h3, hu⟩ := hu
 have hu : u = M * 2 ^ e := hu
 subst hu
 by_cases hM : M = 0
 · subst hM
   have h0 : mag = 0 := by
    rw [Nat.zero_mul, Nat.zero_mul] at h
    rcases Nat.mul_eq_zero.1 h with h | h
    · exact h
    · have := Nat.two_pow_pos (place + 1074).toNat; omega
   subst h0
   refine ⟨0, 0, by decide, .inl rfl, by omega, by simp, ?_⟩
   rw [write_zero]
 · refine ⟨M, e, h1, h2, h3, rfl, write_me s mag place M e h1 h2 h3 hM ?_⟩
   by_cases ht : (e : Int) ≤ place + 1074
   · left
     refine ⟨(place + 1074 - e).toNat, ?_, by omega⟩
     have e0 : (-(place + 1074)).toNat = 0 := by omega
     rw [e0, Nat.pow_zero, Nat.mul_one, show (place + 1074).toNat = (place + 1074 - e).toNat + e by omega, Nat.pow_add, ← Nat.mul_assoc] at h
     exact Nat.eq_of_mul_eq_mul_right (Nat.two_pow_pos e) h
   · right
     refine ⟨(e - (place + 1074)).toNat, ?_, by omega⟩
     by_cases hp : 0 ≤ place + 1074
     · have e0 : (-(place + 1074)).toNat = 0 := by omega
       rw [e0, Nat.pow_zero, Nat.mul_one] at h
       have : e = ((e : Int) - (place + 1074)).toNat + (place + 1074).toNat := by omega
       rw [this, Nat.pow_add, ← Nat.mul_assoc] at h
       exact Nat.eq_of_mul_eq_mul_right (Nat.two_pow_pos _) (by rw [h])
     · have e0 : (place + 1074).toNat = 0 := by omega
       rw [e0, Nat.pow_zero, Nat.mul_one, Nat.mul_assoc, ← Nat.pow_add] at h
       rw [h]
       congr 2
       omega
def IsC (c : Nat) (j : Int) : Prop := D.read c = .number false 4503599627370496 (j - 52)
theorem c_two : IsC 4611686018427387904 1 := rfl
theorem c_one : IsC 4607182418800017408 0 := rfl
theorem c_big : IsC 4841369599423283200 52 := rfl
theorem div_pow {w c : Nat} {s : Bool} {u j : Nat} (hc : IsC c j) (hw : IsV w s (u * 2 ^ j)) (hu : Rep u) : ∃ w', D.div w c = some w' ∧ IsV w' s u := by
 obtain ⟨M, e, h1, h2, h3, h4, h5, h6⟩ := hw.read
 have hq : D.div w c = some (D.write (.number s (2 * (M <<< (54 + 52 - M.log2) / 4503599627370496) + (M <<< (54 + 52 - M.log2) % 4503599627370496 != 0).toNat) ((e : Int) - 1074 - (j - 52) - (54 + 52 - M.log2 : Nat) - 1))) := by
  unfold Format.div
  rw [h6, hc]
  rw [fbD]
  have hlog : (4503599627370496 : Nat).log2 = 52 := by decide
  simp only [Datum.quotient, Option.map_some, hlog]
  simp
 refine ⟨_, hq, ?_⟩
 have hM := log2_le52 h1
 obtain ⟨a, ha⟩ : ∃ a, 54 + 52 - M.log2 = 52 + a := ⟨54 - M.log2, by omega⟩
 have hdiv : M <<< (54 + 52 - M.log2) = (M * 2 ^ a) * 4503599627370496 := by
  rw [Nat.shiftLeft_eq, ha, Nat.pow_add, show (2 : Nat) ^ 52 = 4503599627370496 by decide, Nat.mul_comm 4503599627370496, Nat.mul_assoc]
 rw [hdiv, Nat.mul_div_cancel _ (by decide), Nat.mul_mod_left]
 refine write_rep s _ _ u hu ?_
 simp only [bne_self_eq_false, Bool.toNat_false, Nat.add_zero]
 rw [ha]
 -- 2 M 2^a * 2^(..) = u 2^(..)
 have hpl : (e : Int) - 1074 - ((j : Int) - 52) - ((52 + a : Nat) : Int) - 1 + 1074 = (e : Int) - j - a - 1 := by omega
 rw [hpl]
 have key : ∀ x y : Nat, (x : Int) - y = (e : Int) - j - a - 1 → 2 * (M * 2 ^ a) * 2 ^ x = u * 2 ^ y := by
  intro x y hxy
  refine Nat.eq_of_mul_eq_mul_right (Nat.two_pow_pos j) ?_
  have e1 : u * 2 ^ y * 2 ^ j = M * 2 ^ e * 2 ^ y := by rw [← h4, Nat.mul_assoc, Nat.mul_comm (2 ^ y), ← Nat.mul_assoc]
  rw [e1, show 2 * (M * 2 ^ a) * 2 ^ x * 2 ^ j = M * (2 ^ 1 * 2 ^ a * 2 ^ x * 2 ^ j) by simp [Nat.mul_assoc, Nat.mul_left_comm], ← Nat.pow_add, ← Nat.pow_add, ← Nat.pow_add, Nat.mul_assoc, ← Nat.pow_add]
  congr 2
  omega
 exact key _ _ (by omega)
theorem mul_pow_ {w c : Nat} {s : Bool} {u j : Nat} (hc : IsC c j) (hw : IsV w s u) (hu : Rep (u * 2 ^ j)) : ∃ w', D.mul w c = some w' ∧ IsV w' s (u * 2 ^ j) := by
 obtain ⟨M, e, h1, h2, h3, h4, h5, h6⟩ := hw.read
 have hq : D.mul w c = some (D.write (.number s (M * 4503599627370496) ((e : Int) - 1074 + (j - 52)))) := by
  unfold Format.mul
  rw [h6, hc]
  simp [Datum.product]
 refine ⟨_, hq, write_rep s _ _ _ hu ?_⟩
 have key : ∀ x y : Nat, (x : Int) - y = (e : Int) + j - 52 → M * 4503599627370496 * 2 ^ x = u * 2 ^ j * 2 ^ y := by
  intro x y hxy
  rw [h4, show (4503599627370496 : Nat) = 2 ^ 52 by decide, Nat.mul_assoc, ← Nat.pow_add, Nat.mul_assoc, Nat.mul_assoc, ← Nat.pow_add, ← Nat.pow_add]
  congr 2
  omega
 exact key _ _ (by omega)
theorem signed_f (m k : Nat) : signed false m k = ((m * 2 ^ k : Nat) : Int) := by simp [signed, Nat.shiftLeft_eq]
theorem signed_t (m k : Nat) : signed true m k = -((m * 2 ^ k : Nat) : Int) := by simp [signed, Nat.shiftLeft_eq]
def U1 : Nat := pw 1074
theorem pw_cut (n a b c : Nat) (h : n = a + b) (hc : pw a = c) : pw n = c * pw b := by rw [h, pw_add, hc]
theorem U1_eq : U1 = 4503599627370496 * pw 1022 := by
 show pw 1074 = 4503599627370496 * pw 1022
 exact pw_cut 1074 52 1022 4503599627370496 rfl (by decide)
theorem sub_one {w v : Nat} (hw : IsV w false (U1 + v)) (hv : Rep v) : ∃ w', D.sub w 4607182418800017408 = some w' ∧ IsV w' false v := by
 obtain ⟨M, e, h1, h2, h3, h4, h5, h6⟩ := hw.read
 have hc : D.read 4607182418800017408 = .number false 4503599627370496 (-52) := c_one
 have hU := U1_eq
 unfold pw at hU
 have hbase : ∀ b : Nat, (b : Int) - 1074 = min ((e : Int) - 1074) (-52) → ∃ t : Nat, D.sub w 4607182418800017408 = some (D.write (.number false t ((b : Int) - 1074))) ∧ t * 2 ^ b = v := by
  intro b hb
  have hbe : b ≤ e := by omega
  have hb2 : b ≤ 1022 := by omega
  have e1 : ((e : Int) - 1074 - ((b : Int) - 1074)).toNat = e - b := by omega
  have e2 : ((-52 : Int) - ((b : Int) - 1074)).toNat = 1022 - b := by omega
  have hsum : M * 2 ^ (e - b) * 2 ^ b = 4503599627370496 * 2 ^ (1022 - b) * 2 ^ b + v := by
   rw [Nat.mul_assoc, ← Nat.pow_add, show e - b + b = e by omega, ← h4, hU, Nat.mul_assoc, ← Nat.pow_add, show 1022 - b + b = 1022 by omega]
  have hge : 4503599627370496 * 2 ^ (1022 - b) ≤ M * 2 ^ (e - b) := by
   refine Nat.le_of_mul_le_mul_right ?_ (Nat.two_pow_pos b)
   omega
  refine ⟨M * 2 ^ (e - b) - 4503599627370496 * 2 ^ (1022 - b), ?_, ?_⟩
  · unfold Format.sub
    rw [h6, hc]
    simp only [Datum.opposite, Datum.sum, Option.map_some, ← hb, e1, e2, Bool.not_false, signed_f, signed_t]
    have e3 : (((M * 2 ^ (e - b) : Nat) : Int) + -((4503599627370496 * 2 ^ (1022 - b) : Nat) : Int)).natAbs = M * 2 ^ (e - b) - 4503599627370496 * 2 ^ (1022 - b) := by omega
    rw [e3]
    have e4 : (if ((M * 2 ^ (e - b) : Nat) : Int) + -((4503599627370496 * 2 ^ (1022 - b) : Nat) : Int) = 0 then (false && true) else decide (((M * 2 ^ (e - b) : Nat) : Int) + -((4503599627370496 * 2 ^ (1022 - b) : Nat) : Int) < 0)) = false := by
     split
     · rfl
     · simp only [decide_eq_false_iff_not]; omega
    rw [e4]
  · rw [Nat.sub_mul]; omega
 obtain ⟨b, hb⟩ : ∃ b : Nat, (b : Int) - 1074 = min ((e : Int) - 1074) (-52) := ⟨(min ((e : Int) - 1074) (-52) + 1074).toNat, by omega⟩
 obtain ⟨t, ht, htv⟩ := hbase b hb
 refine ⟨_, ht, write_rep false t _ v hv ?_⟩
 rw [show ((b : Int) - 1074 + 1074).toNat = b by omega, show (-((b : Int) - 1074 + 1074)).toNat = 0 by omega, Nat.pow_zero, Nat.mul_one, htv]
theorem order_v {w w' u u' : Nat} {s t : Bool} (h : IsV w s u) (h' : IsV w' t u') : D.order w w' = some (compare (signed s u 0) (signed t u' 0)) := by
 obtain ⟨M, e, h1, h2, h3, h4, h5, h6⟩ := h.read
 obtain ⟨M', e', h1', h2', h3', h4', h5', h6'⟩ := h'.read
 unfold Format.order
 rw [h6, h6']
 simp only [Datum.order]
 obtain ⟨b, hb⟩ : ∃ b : Nat, (b : Int) - 1074 = min ((e : Int) - 1074) ((e' : Int) - 1074) := ⟨(min ((e : Int) - 1074) ((e' : Int) - 1074) + 1074).toNat, by omega⟩
 have e1 : ((e : Int) - 1074 - ((b : Int) - 1074)).toNat = e - b := by omega
 have e2 : ((e' : Int) - 1074 - ((b : Int) - 1074)).toNat = e' - b := by omega
 rw [← hb, e1, e2]
 congr 1
 have hp : (0 : Int) < ((2 ^ b : Nat) : Int) := by exact_mod_cast Nat.two_pow_pos b
 have k1 : signed s u 0 = signed s M (e - b) * ((2 ^ b : Nat) : Int) := by
  have : u = M * 2 ^ (e - b) * 2 ^ b := by rw [h4, Nat.mul_assoc, ← Nat.pow_add, show e - b + b = e by omega]
  cases s
  · rw [signed_f, signed_f, this, Nat.pow_zero, Nat.mul_one]; push_cast; rfl
  · rw [signed_t, signed_t, this, Nat.pow_zero, Nat.mul_one]; push_cast; rw [Int.neg_mul]
 have k2 : signed t u' 0 = signed t M' (e' - b) * ((2 ^ b : Nat) : Int) := by
  have : u' = M' * 2 ^ (e' - b) * 2 ^ b := by rw [h4', Nat.mul_assoc, ← Nat.pow_add, show e' - b + b = e' by omega]
  cases t
  · rw [signed_f, signed_f, this, Nat.pow_zero, Nat.mul_one]; push_cast; rfl
  · rw [signed_t, signed_t, this, Nat.pow_zero, Nat.mul_one]; push_cast; rw [Int.neg_mul]
 rw [k1, k2]
 generalize signed s M (e - b) = x
 generalize signed t M' (e' - b) = y
 generalize ((2 ^ b : Nat) : Int) = z at hp
 have hlt : x * z < y * z ↔ x < y := ⟨fun h => Int.lt_of_mul_lt_mul_right h (by omega), fun h => Int.mul_lt_mul_of_pos_right h hp⟩
 have heq : x * z = y * z ↔ x = y := ⟨fun h => Int.eq_of_mul_eq_mul_right (by omega) h, fun h => by rw [h]⟩
 simp only [compare, compareOfLessAndEq, hlt, heq]
theorem toInt_v {w n : Nat} (h : IsV w false (n * 2 ^ 1074)) : (D.read w).toInt .zero = some (n : Int) := by
 obtain ⟨M, e, h1, h2, h3, h4, h5, h6⟩ := h.read
 rw [h6]
 simp only [Datum.toInt, Datum.integral]
 have hc : Toward.zero.cut false (M <<< ((e : Int) - 1074).toNat) (-((e : Int) - 1074)).toNat = n := by
  unfold Toward.cut
  simp only [Bool.toNat_false, Nat.add_zero, Nat.one_shiftLeft]
  by_cases he : 1074 ≤ e
  · have e1 : (-((e : Int) - 1074)).toNat = 0 := by omega
    rw [e1, Nat.zero_min, Nat.pow_zero, Nat.div_one, Nat.shiftLeft_eq]
    refine Nat.eq_of_mul_eq_mul_right (Nat.two_pow_pos 1074) ?_
    rw [h4, Nat.mul_assoc, ← Nat.pow_add 2 ((e : Int) - 1074).toNat 1074, show ((e : Int) - 1074).toNat + 1074 = e by omega]
  · have e0 : ((e : Int) - 1074).toNat = 0 := by omega
    have e1 : (-((e : Int) - 1074)).toNat = 1074 - e := by omega
    rw [e0, e1, Nat.shiftLeft_eq, Nat.pow_zero, Nat.mul_one]
    have hM : M = n * 2 ^ (1074 - e) := by
     refine Nat.eq_of_mul_eq_mul_right (Nat.two_pow_pos e) ?_
     rw [← h4, Nat.mul_assoc, ← Nat.pow_add, show 1074 - e + e = 1074 by omega]
    by_cases hn : n = 0
    · subst hn; rw [Nat.zero_mul] at hM; subst hM; simp
    · have hl := log2_mul_pow hn (1074 - e)
      rw [← hM] at hl
      rw [show min (1074 - e) (M.log2 + 2) = 1074 - e by omega, hM, Nat.mul_div_cancel _ (Nat.two_pow_pos _)]
 rw [hc]
 simp [signed]
theorem toInt_p {w n : Nat} (h : IsV w false (n * pw 1074)) : (D.read w).toInt .zero = some (n : Int) := by unfold pw at h; exact toInt_v h
theorem IsV.eq {w w' u : Nat} {s : Bool} (h : IsV w s u) (h' : IsV w' s u) : w = w' := by
 obtain ⟨M, e, h1, h2, h3, h4, h5⟩ := h
 obtain ⟨M', e', h1', h2', h3', h4', h5'⟩ := h'
 have h4 : u = M * 2 ^ e := h4
 have h4' : u = M' * 2 ^ e' := h4'
 have key : ∀ (M e M' e' : Nat), M < 9007199254740992 → (e' = 0 ∨ 4503599627370496 ≤ M') → M * 2 ^ e = M' * 2 ^ e' → e' ≤ e := by
  intro M e M' e' hM hM' h
  rcases hM' with hM' | hM'
  · omega
  · by_cases hlt : e' ≤ e
    · exact hlt
    · exfalso
      have : M * 2 ^ e = M' * 2 ^ (e' - e) * 2 ^ e := by rw [h, Nat.mul_assoc, ← Nat.pow_add, show e' - e + e = e' by omega]
      have := Nat.eq_of_mul_eq_mul_right (Nat.two_pow_pos e) this
      have h2 : 2 ^ 1 ≤ 2 ^ (e' - e) := Nat.pow_le_pow_right (by omega) (by omega)
      have h3 : 4503599627370496 * 2 ≤ M' * 2 ^ (e' - e) := Nat.mul_le_mul hM' h2
      omega
 have he : e = e' := Nat.le_antisymm (key M' e' M e h1' h2 (by rw [← h4', h4])) (key M e M' e' h1 h2' (by rw [← h4, h4']))
 subst he
 have : M = M' := Nat.eq_of_mul_eq_mul_right (Nat.two_pow_pos e) (by rw [← h4, h4'])
 subst this
 rw [h5, h5']
def nanB : Nat := 9221120237041090560
def isN (b : Nat) : Bool := decide (9218868437227405312 < b % 9223372036854775808)
def cn (b : Nat) : Nat := bif isN b then nanB else b
theorem read_nan {b : Nat} (h : isN b = true) : ∃ s f, D.read b = .nan s f := by
 unfold isN at h
 have h : 9218868437227405312 < b % 9223372036854775808 := of_decide_eq_true h
 rw [readD, if_neg (by omega), if_neg (by omega), if_neg (by omega)]
 exact ⟨_, _, rfl⟩
theorem cn_of {b : Nat} (h : isN b = false) : cn b = b := by simp [cn, h]
theorem cn_nan {b : Nat} (h : isN b = true) : cn b = nanB := by simp [cn, h]
theorem isN_nanB : isN nanB = true := by decide
theorem isN_cn (b : Nat) : isN (cn b) = isN b := by
 cases h : isN b with
 | true => rw [cn_nan h, isN_nanB]
 | false => rw [cn_of h, h]
theorem cn_cn (b : Nat) : cn (cn b) = cn b := by
 cases h : isN b with
 | true => rw [cn_nan h]; decide
 | false => rw [cn_of h, cn_of h]
theorem read_cn (b : Nat) : D.read (cn b) = D.read b ∨ (∃ s f s' f', D.read (cn b) = .nan s f ∧ D.read b = .nan s' f') := by
 cases h : isN b with
 | false => left; rw [cn_of h]
 | true =>
  right
  obtain ⟨s, f, h1⟩ := read_nan (b := cn b) (by rw [isN_cn, h])
  obtain ⟨s', f', h2⟩ := read_nan h
  exact ⟨s, f, s', f', h1, h2⟩
theorem order_nan_l {s f} (d : Datum) : Datum.order (.nan s f) d = none := by cases d <;> rfl
theorem order_nan_r {s f} (d : Datum) : Datum.order d (.nan s f) = none := by cases d <;> rfl
theorem order_cn (a b : Nat) : D.order (cn a) (cn b) = D.order a b := by
 unfold Format.order
 rcases read_cn a with ha | ⟨s, f, s', f', ha, ha'⟩
 · rw [ha]
   rcases read_cn b with hb | ⟨s, f, s', f', hb, hb'⟩
   · rw [hb]
   · rw [hb, hb', order_nan_r, order_nan_r]
 · rw [ha, ha', order_nan_l, order_nan_l]
theorem word_notN (s : Bool) (r : Nat) (h : r ≤ 9218868437227405312) : isN (D.word s r) = false := by
 unfold isN
 rw [(word_div s r (by omega)).2]
 simp; omega
theorem write_notN (d : Datum) (h : d.isNaN = false) : isN (D.write d) = false := by
 cases d with
 | number s m p =>
  show isN (D.nearest s m p) = false
  unfold Format.nearest
  split
  · exact word_notN s 0 (by omega)
  · refine word_notN s _ ?_
    rw [infD]; omega
 | infinity s => exact word_notN s _ (by rw [infD]; omega)
 | nan s f => cases h
end Go.Proofs.YtlpbggnpiogioaaGreat.V
set_option linter.unusedVariables false
set_option linter.unusedSimpArgs false
namespace Go.Proofs.YtlpbggnpiogioaaGreat.V
open Go
def Agr (w w' : World) (F : Nat → Prop) : Prop := ∀ b, F b → b < w.heap.size → w'.heap[b]? = w.heap[b]?
theorem Agr.cell {w w' : World} {F : Nat → Prop} (h : Agr w w' F) {a : Addr} {v : Value} (hF : F a.block) (hc : w.cell? a = some v) : w'.cell? a = some v := by
 rw [World.cell?_of_block (h a.block hF (World.block_lt_of_cell? w a hc))]
 exact hc
structure Kd (α : Type) where
 n : Nat
 rd : World → List Value → α → (Nat → Prop) → Prop
 ow : World → List Value → α → List Nat → Prop
 rd_len : ∀ {w cs x F}, rd w cs x F → cs.length = n
 rd_one : ∀ {w cs x F}, rd w cs x F → ∀ v ∈ cs, v.oneCell' = true
 rd_frame : ∀ {w w' cs x F}, rd w cs x F → Agr w w' F → rd w' cs x F
 rd_mono : ∀ {w cs x F F'}, rd w cs x F → (∀ b, F b → b < w.heap.size → F' b) → rd w cs x F'
 ow_frame : ∀ {w w' cs x os}, ow w cs x os → Agr w w' (· ∈ os) → ow w' cs x os
 ow_lt : ∀ {w cs x os}, ow w cs x os → ∀ b ∈ os, b < w.heap.size
 ow_rd : ∀ {w cs x os}, ow w cs x os → rd w cs x (· ∈ os)
def Kd.flat {α : Type} (val : α → Value) (h : ∀ x, (val x).oneCell' = true) : Kd α where
 n := 1
 rd := fun _ cs x _ => cs = [val x]
 ow := fun _ cs x os => cs = [val x] ∧ os = []
 rd_len := fun h => by simp [h]
 rd_one := fun {w cs x F} hr v hv => by subst hr; simp at hv; subst hv; exact h x
 rd_frame := fun h _ => h
 rd_mono := fun h _ => h
 ow_frame := fun h _ => h
 ow_lt := fun h b hb => by rw [h.2] at hb; cases hb
 ow_rd := fun h => h.1
def Kd.int (k : IntKind) : Kd Int := Kd.flat (fun x => .int k x) (fun _ => rfl)
def Kd.bool : Kd Bool := Kd.flat (fun x => .bool x) (fun _ => rfl)
def FL (v : Value) (x : Nat) : Prop := ∃ b, v = .float .f64 b ∧ cn b = x
theorem FL.one {v : Value} {x : Nat} (h : FL v x) : v.oneCell' = true := by obtain ⟨b, rfl, _⟩ := h; rfl
theorem fl_c {b x : Nat} (h : cn b = x) : FL (.float .f64 b) x := ⟨b, rfl, h⟩
def Kd.flt : Kd Nat where
 n := 1
 rd := fun _ cs x _ => ∃ v, cs = [v] ∧ FL v x
 ow := fun _ cs x os => (∃ v, cs = [v] ∧ FL v x) ∧ os = []
 rd_len := fun ⟨v, h, _⟩ => by simp [h]
 rd_one := fun {w cs x F} ⟨v, e, hr⟩ u hu => by subst e; simp at hu; subst hu; exact hr.one
 rd_frame := fun h _ => h
 rd_mono := fun h _ => h
 ow_frame := fun h _ => h
 ow_lt := fun h b hb => by rw [h.2] at hb; cases hb
 ow_rd := fun h => h.1
theorem fl_rd {v : Value} {x : Nat} (h : FL v x) {w : World} {F : Nat → Prop} : Kd.flt.rd w [v] x F := ⟨v, rfl, h⟩
theorem Yj {v : Value} {x : Nat} {w : World} {F : Nat → Prop} (h : Kd.flt.rd w [v] x F) : FL v x := by
 obtain ⟨u, e, h⟩ := h
 obtain rfl : v = u := by simpa using e
 exact h
def Kd.str : Kd ByteArray := Kd.flat (fun x => .string x) (fun _ => rfl)
def Kd.pair {α β : Type} (A : Kd α) (B : Kd β) : Kd (α × β) where
 n := A.n + B.n
 rd := fun w cs x F => ∃ c1 c2, cs = c1 ++ c2 ∧ A.rd w c1 x.1 F ∧ B.rd w c2 x.2 F
 ow := fun w cs x os => ∃ c1 c2 o1 o2, cs = c1 ++ c2 ∧ os = o1 ++ o2 ∧ A.ow w c1 x.1 o1 ∧ B.ow w c2 x.2 o2
 rd_len := fun ⟨c1, c2, e, h1, h2⟩ => by subst e; simp [A.rd_len h1, B.rd_len h2]
 rd_one := fun ⟨c1, c2, e, h1, h2⟩ v hv => by
  subst e
  rcases List.mem_append.1 hv with hv | hv
  · exact A.rd_one h1 v hv
  · exact B.rd_one h2 v hv
 rd_frame := fun ⟨c1, c2, e, h1, h2⟩ h => ⟨c1, c2, e, A.rd_frame h1 h, B.rd_frame h2 h⟩
 rd_mono := fun ⟨c1, c2, e, h1, h2⟩ h => ⟨c1, c2, e, A.rd_mono h1 h, B.rd_mono h2 h⟩
 ow_frame := fun ⟨c1, c2, o1, o2, e, e', h1, h2⟩ h => ⟨c1, c2, o1, o2, e, e', A.ow_frame h1 fun b hb => h b (by subst e'; exact List.mem_append_left _ hb), B.ow_frame h2 fun b hb => h b (by subst e'; exact List.mem_append_right _ hb)⟩
 ow_lt := fun ⟨c1, c2, o1, o2, e, e', h1, h2⟩ b hb => by
  subst e'
  rcases List.mem_append.1 hb with hb | hb
  · exact A.ow_lt h1 b hb
  · exact B.ow_lt h2 b hb
 ow_rd := fun ⟨c1, c2, o1, o2, e, e', h1, h2⟩ => ⟨c1, c2, e, A.rd_mono (A.ow_rd h1) fun b hb _ => by subst e'; exact List.mem_append_left _ hb, B.rd_mono (B.ow_rd h2) fun b hb _ => by subst e'; exact List.mem_append_right _ hb⟩
def Kd.iso {α β : Type} (A : Kd α) (g : β → α) : Kd β where
 n := A.n
 rd := fun w cs x F => A.rd w cs (g x) F
 ow := fun w cs x os => A.ow w cs (g x) os
 rd_len := A.rd_len
 rd_one := A.rd_one
 rd_frame := A.rd_frame
 rd_mono := A.rd_mono
 ow_frame := A.ow_frame
 ow_lt := A.ow_lt
 ow_rd := A.ow_rd
theorem dropA (c1 c2 : List Value) (n : Nat) : (c1 ++ c2).drop (c1.length + n) = c2.drop n := by
 rw [List.drop_append, List.drop_eq_nil_of_le (by omega)]; simp
theorem takeA (c1 c2 : List Value) (n : Nat) : (c1 ++ c2).take (c1.length + n) = c1 ++ c2.take n := by
 rw [List.take_append, List.take_of_length_le (by omega)]; simp
def ElsR {α : Type} (K : Kd α) (w : World) (F : Nat → Prop) : List α → List Value → Prop
 | [], cs => cs = []
 | x :: xs, cs => ∃ c1 c2, cs = c1 ++ c2 ∧ K.rd w c1 x F ∧ ElsR K w F xs c2
def ElsO {α : Type} (K : Kd α) (w : World) : List α → List Value → List Nat → Prop
 | [], cs, os => cs = [] ∧ os = []
 | x :: xs, cs, os => ∃ c1 c2 o1 o2, cs = c1 ++ c2 ∧ os = o1 ++ o2 ∧ K.ow w c1 x o1 ∧ ElsO K w xs c2 o2
section
variable {α : Type} {K : Kd α} {w w' : World} {F F' : Nat → Prop}
theorem ElsR.len : ∀ {xs : List α} {cs : List Value}, ElsR K w F xs cs → cs.length = xs.length * K.n
 | [], cs, h => by simp [ElsR] at h; simp [h]
 | x :: xs, cs, ⟨c1, c2, e, h1, h2⟩ => by subst e; simp [K.rd_len h1, ElsR.len h2, Nat.add_mul, Nat.add_comm]
theorem ElsR.one : ∀ {xs : List α} {cs : List Value}, ElsR K w F xs cs → ∀ v ∈ cs, v.oneCell' = true
 | [], cs, h, v, hv => by simp [ElsR] at h; subst h; cases hv
 | x :: xs, cs, ⟨c1, c2, e, h1, h2⟩, v, hv => by
  subst e
  rcases List.mem_append.1 hv with hv | hv
  · exact K.rd_one h1 v hv
  · exact ElsR.one h2 v hv
theorem ElsR.frame : ∀ {xs : List α} {cs : List Value}, ElsR K w F xs cs → Agr w w' F → ElsR K w' F xs cs
 | [], cs, h, _ => h
 | x :: xs, cs, ⟨c1, c2, e, h1, h2⟩, h => ⟨c1, c2, e, K.rd_frame h1 h, ElsR.frame h2 h⟩
theorem ElsR.mono : ∀ {xs : List α} {cs : List Value}, ElsR K w F xs cs → (∀ b, F b → b < w.heap.size → F' b) → ElsR K w F' xs cs
 | [], cs, h, _ => h
 | x :: xs, cs, ⟨c1, c2, e, h1, h2⟩, h => ⟨c1, c2, e, K.rd_mono h1 h, ElsR.mono h2 h⟩
theorem ElsR.append : ∀ {xs ys : List α} {cs ds : List Value}, ElsR K w F xs cs → ElsR K w F ys ds → ElsR K w F (xs ++ ys) (cs ++ ds)
 | [], ys, cs, ds, h, h' => by simp [ElsR] at h; subst h; exact h'
 | x :: xs, ys, cs, ds, ⟨c1, c2, e, h1, h2⟩, h' => ⟨c1, c2 ++ ds, by subst e; simp, h1, ElsR.append h2 h'⟩
theorem ElsR.at_ : ∀ {xs : List α} {cs : List Value}, ElsR K w F xs cs → ∀ i (hi : i < xs.length), K.rd w ((cs.drop (i * K.n)).take K.n) xs[i] F
 | x :: xs, cs, ⟨c1, c2, e, h1, h2⟩, 0, _ => by
  subst e
  have := K.rd_len h1
  simp [← this]; exact h1
 | x :: xs, cs, ⟨c1, c2, e, h1, h2⟩, i + 1, hi => by
  subst e
  have hl := K.rd_len h1
  have := ElsR.at_ h2 i (by simpa using hi)
  have e2 : (i + 1) * K.n = c1.length + i * K.n := by rw [hl, Nat.add_mul]; omega
  rw [e2, dropA]
  simpa using this
theorem ElsR.drop : ∀ {xs : List α} {cs : List Value}, ElsR K w F xs cs → ∀ i, ElsR K w F (xs.drop i) (cs.drop (i * K.n))
 | [], cs, h, i => by simp [ElsR] at h; subst h; simp [ElsR]
 | x :: xs, cs, h, 0 => by simpa using h
 | x :: xs, cs, ⟨c1, c2, e, h1, h2⟩, i + 1 => by
  subst e
  have hl := K.rd_len h1
  have := ElsR.drop h2 i
  have e2 : (i + 1) * K.n = c1.length + i * K.n := by rw [hl, Nat.add_mul]; omega
  rw [e2, dropA]
  simpa using this
theorem ElsR.take : ∀ {xs : List α} {cs : List Value}, ElsR K w F xs cs → ∀ i, ElsR K w F (xs.take i) (cs.take (i * K.n))
 | [], cs, h, i => by simp [ElsR] at h; subst h; simp [ElsR]
 | x :: xs, cs, h, 0 => by simp [ElsR]
 | x :: xs, cs, ⟨c1, c2, e, h1, h2⟩, i + 1 => by
  subst e
  have hl := K.rd_len h1
  have := ElsR.take h2 i
  have e2 : (i + 1) * K.n = c1.length + i * K.n := by rw [hl, Nat.add_mul]; omega
  rw [e2, takeA]
  exact ⟨c1, c2.take (i * K.n), rfl, h1, this⟩
theorem ElsO.len : ∀ {xs : List α} {cs : List Value} {os : List Nat}, ElsO K w xs cs os → cs.length = xs.length * K.n
 | [], cs, os, h => by simp [ElsO] at h; simp [h.1]
 | x :: xs, cs, os, ⟨c1, c2, o1, o2, e, e', h1, h2⟩ => by subst e; simp [K.rd_len (K.ow_rd h1), ElsO.len h2, Nat.add_mul, Nat.add_comm]
theorem ElsO.frame : ∀ {xs : List α} {cs : List Value} {os : List Nat}, ElsO K w xs cs os → Agr w w' (· ∈ os) → ElsO K w' xs cs os
 | [], cs, os, h, _ => h
 | x :: xs, cs, os, ⟨c1, c2, o1, o2, e, e', h1, h2⟩, h => ⟨c1, c2, o1, o2, e, e', K.ow_frame h1 fun b hb => h b (by subst e'; exact List.mem_append_left _ hb), ElsO.frame h2 fun b hb => h b (by subst e'; exact List.mem_append_right _ hb)⟩
theorem ElsO.lt : ∀ {xs : List α} {cs : List Value} {os : List Nat}, ElsO K w xs cs os → ∀ b ∈ os, b < w.heap.size
 | [], cs, os, h, b, hb => by rw [h.2] at hb; cases hb
 | x :: xs, cs, os, ⟨c1, c2, o1, o2, e, e', h1, h2⟩, b, hb => by
  subst e'
  rcases List.mem_append.1 hb with hb | hb
  · exact K.ow_lt h1 b hb
  · exact ElsO.lt h2 b hb
theorem ElsO.rd : ∀ {xs : List α} {cs : List Value} {os : List Nat}, ElsO K w xs cs os → ElsR K w (· ∈ os) xs cs
 | [], cs, os, h => h.1
 | x :: xs, cs, os, ⟨c1, c2, o1, o2, e, e', h1, h2⟩ => ⟨c1, c2, e, K.rd_mono (K.ow_rd h1) fun b hb _ => by subst e'; exact List.mem_append_left _ hb, ElsR.mono (ElsO.rd h2) fun b hb _ => by subst e'; exact List.mem_append_right _ hb⟩
theorem ElsO.append : ∀ {xs ys : List α} {cs ds : List Value} {os ps : List Nat}, ElsO K w xs cs os → ElsO K w ys ds ps → ElsO K w (xs ++ ys) (cs ++ ds) (os ++ ps)
 | [], ys, cs, ds, os, ps, h, h' => by simp [ElsO] at h; obtain ⟨rfl, rfl⟩ := h; exact h'
 | x :: xs, ys, cs, ds, os, ps, ⟨c1, c2, o1, o2, e, e', h1, h2⟩, h' => ⟨c1, c2 ++ ds, o1, o2 ++ ps, by subst e; simp, by subst e'; simp, h1, ElsO.append h2 h'⟩
theorem ElsO.at_ : ∀ {xs : List α} {cs : List Value} {os : List Nat}, ElsO K w xs cs os → ∀ i (hi : i < xs.length),
    ∃ o1 o2 o3, os = o1 ++ o2 ++ o3 ∧ K.ow w ((cs.drop (i * K.n)).take K.n) xs[i] o2 ∧
      ∀ (w' : World) (c' : List Value) (y : α) (o' : List Nat), K.ow w' c' y o' → Agr w w' (· ∈ o1 ++ o3) → ElsO K w' (xs.set i y) (cs.take (i * K.n) ++ c' ++ cs.drop ((i + 1) * K.n)) (o1 ++ o' ++ o3)
  | x :: xs, cs, os, ⟨c1, c2, o1, o2, e, e', h1, h2⟩, 0, _ => by
    subst e
    have hl := K.rd_len (K.ow_rd h1)
    refine ⟨[], o1, o2, by simp [e'], by simp [← hl]; exact h1, fun w' c' y o' hy ha => ?_⟩
    refine ⟨c', c2, o', o2, ?_, by simp, hy, ElsO.frame h2 fun b hb => ha b (by simp [hb])⟩
    simp [← hl]
  | x :: xs, cs, os, ⟨c1, c2, o1, o2, e, e', h1, h2⟩, i + 1, hi => by
    subst e
    have hl := K.rd_len (K.ow_rd h1)
    obtain ⟨p1, p2, p3, ep, hp, hset⟩ := ElsO.at_ h2 i (by simpa using hi)
    have e2 : (i + 1) * K.n = c1.length + i * K.n := by rw [hl, Nat.add_mul]; omega
    have e3 : (i + 1 + 1) * K.n = c1.length + (i + 1) * K.n := by rw [hl, Nat.add_mul (i + 1)]; omega
    refine ⟨o1 ++ p1, p2, p3, by rw [e', ep]; simp, ?_, fun w' c' y o' hy ha => ?_⟩
    · rw [e2, dropA]; simpa using hp
    · refine ⟨c1, c2.take (i * K.n) ++ c' ++ c2.drop ((i + 1) * K.n), o1, p1 ++ o' ++ p3, ?_, by simp, K.ow_frame h1 fun b hb => ha b (by simp [hb]), hset w' c' y o' hy fun b hb => ha b (by simp at hb ⊢; rcases hb with hb | hb <;> simp [hb])⟩
      rw [e3, dropA, show List.take ((i + 1) * K.n) (c1 ++ c2) = c1 ++ c2.take (i * K.n) by rw [e2, takeA]]
      simp
theorem ElsO.take : ∀ {xs : List α} {cs : List Value} {os : List Nat}, ElsO K w xs cs os → ∀ i, ∃ o1 o2, os = o1 ++ o2 ∧ ElsO K w (xs.take i) (cs.take (i * K.n)) o1 ∧ ElsO K w (xs.drop i) (cs.drop (i * K.n)) o2
 | [], cs, os, h, i => by obtain ⟨rfl, rfl⟩ := h; exact ⟨[], [], rfl, by simp [ElsO], by simp [ElsO]⟩
 | x :: xs, cs, os, h, 0 => ⟨[], os, rfl, by simp [ElsO], by simpa using h⟩
 | x :: xs, cs, os, ⟨c1, c2, o1, o2, e, e', h1, h2⟩, i + 1 => by
  subst e
  have hl := K.rd_len (K.ow_rd h1)
  obtain ⟨p1, p2, ep, ht, hd⟩ := ElsO.take h2 i
  have e2 : (i + 1) * K.n = c1.length + i * K.n := by rw [hl, Nat.add_mul]; omega
  refine ⟨o1 ++ p1, p2, by rw [e', ep]; simp, ⟨c1, c2.take (i * K.n), o1, p1, ?_, rfl, h1, ht⟩, ?_⟩
  · rw [e2, takeA]
  · rw [e2, dropA]; simpa using hd
end
def Hr (w : World) (g : Nat) (cur : Array Value) (e : TypeId) : Prop := ∃ fz : Nat × Nat, w.heap[g]? = some (.cells cur e fz) ∧ (fz = (0, 0) ∨ cur.size ≤ fz.1)
theorem Hr.mk {w : World} {g : Nat} {cur : Array Value} {e : TypeId} (h : w.heap[g]? = some (.cells cur e (0, 0))) : Hr w g cur e := ⟨_, h, .inl rfl⟩
theorem Hr.lt {w : World} {g : Nat} {cur : Array Value} {e : TypeId} (h : Hr w g cur e) : g < w.heap.size := by obtain ⟨fz, h, _⟩ := h; exact (Array.getElem?_eq_some_iff.1 h).1
theorem Hr.eq {w w' : World} {g : Nat} {cur : Array Value} {e : TypeId} (h : Hr w g cur e) (he : w'.heap[g]? = w.heap[g]?) : Hr w' g cur e := by obtain ⟨fz, h, h2⟩ := h; exact ⟨fz, by rw [he]; exact h, h2⟩
theorem Hr.cell {w : World} {g : Nat} {cur : Array Value} {e : TypeId} (h : Hr w g cur e) (o : Nat) : w.cell? ⟨g, o, none⟩ = cur[o]? := by obtain ⟨fz, h, _⟩ := h; simp [World.cell?, h]
theorem Hr.free {w : World} {g : Nat} {cur : Array Value} {e : TypeId} (h : Hr w g cur e) (o : Nat) (ho : o < cur.size) : w.frozen? ⟨g, o, none⟩ = false := by
 obtain ⟨⟨lo, hi⟩, h, h2⟩ := h
 rcases h2 with h2 | h2
 · obtain ⟨rfl, rfl⟩ := Prod.mk.inj h2
   simp [World.frozen?, h]
 · simp only at h2
   simp [World.frozen?, h]
   omega
theorem Hr.set {w : World} {g : Nat} {cur : Array Value} {e : TypeId} (h : Hr w g cur e) (o : Nat) (v : Value) : Hr (w.setCell ⟨g, o, none⟩ v) g (cur.setIfInBounds o v) e := by
 obtain ⟨fz, h, h2⟩ := h
 refine ⟨fz, ?_, by rw [Array.size_setIfInBounds]; exact h2⟩
 simp [World.setCell, Array.getElem?_modify, h]
theorem Hr.row3 {w : World} {g : Nat} {cur : Array Value} {e : TypeId} (h : Hr w g cur e) (o : Nat) (vs : List Value) (ho : o + vs.length ≤ cur.size) : Hr (w.setRow g (cur.toList.take o ++ vs ++ cur.toList.drop (o + vs.length)).toArray) g (cur.toList.take o ++ vs ++ cur.toList.drop (o + vs.length)).toArray e := by
 obtain ⟨fz, h, h2⟩ := h
 refine ⟨fz, setRow_heap w g cur _ e fz h, ?_⟩
 rcases h2 with h2 | h2
 · exact .inl h2
 · right; simp; omega
theorem storeCells_hr (P : Program) (g o : Nat) (t : TypeId) : ∀ (vs : List Value) (i : Nat) (cur : Array Value) (w : World), Hr w g cur t → o + i + vs.length ≤ cur.size → (∀ v ∈ vs, v.oneCell' = true) →
    (storeCells ⟨g, o, none⟩ vs i).run P w = .ok () (w.setRow g (cur.toList.take (o + i) ++ vs ++ cur.toList.drop (o + i + vs.length)).toArray)
  | [], i, cur, w, hg, _, _ => by
    obtain ⟨fz, hg, _⟩ := hg
    simp only [storeCells, List.append_nil, List.length_nil, Nat.add_zero, List.take_append_drop, Array.toArray_toList]
    rw [setRow_self w g cur t fz hg]
    rfl
  | v :: rest, i, cur, w, hH, hl, h1 => by
    have hi : o + i < cur.size := by simp at hl; omega
    have hadd : (⟨g, o, none⟩ : Addr).add i = ⟨g, o + i, none⟩ := by unfold Addr.add; split <;> simp_all
    have hcell : w.cell? ⟨g, o + i, none⟩ = some cur[o + i] := by rw [hH.cell]; simp [hi]
    have hfro : w.frozen? ⟨g, o + i, none⟩ = false := hH.free _ hi
    have h3 := hH.set (o + i) v
    obtain ⟨fz, hg, _⟩ := hH
    have hst : (store ((⟨g, o, none⟩ : Addr).add i) v).run P w = .ok () (w.setRow g (cur.setIfInBounds (o + i) v)) := by
      rw [hadd, run_store P w _ v _ (h1 v (by simp)), hcell]
      simp [hfro, setCell_eq_setRow w g (o + i) cur t fz v hg]
    rw [setCell_eq_setRow w g (o + i) cur t fz v hg] at h3
    have ih := storeCells_hr P g o t rest (i + 1) (cur.setIfInBounds (o + i) v) (w.setRow g (cur.setIfInBounds (o + i) v)) h3 (by simp at hl ⊢; omega) (fun x hx => h1 x (by simp [hx]))
    simp only [storeCells, Sem.run_bind, hst, Result.andThen_ok, ih, setRow_setRow]
    congr 3
    have e := list_seg_step cur.toList (o + i) v rest (by simp at hl ⊢; omega)
    simpa [Array.toList_setIfInBounds, Nat.add_assoc] using e
def RowAt (w : World) (e : TypeId) (size : Nat) (v : Value) (n : Nat) (cells : List Value) (os : List Nat) : Prop :=
  cells.length = n * size ∧ ((v = .slice none 0 0 ∧ n = 0 ∧ os = []) ∨
   ∃ g cap cur, v = .slice (some ⟨g, 0, none⟩) n cap ∧ Hr w g cur e ∧ n ≤ cap ∧ cap ≤ maxLen ∧ cur.size = cap * size ∧ cur.toList.take (n * size) = cells ∧ os = [g])
theorem RowAt.frame {w w' : World} {e : TypeId} {size : Nat} {v : Value} {n : Nat} {cells : List Value} {os : List Nat} (h : RowAt w e size v n cells os) (ha : Agr w w' (· ∈ os)) : RowAt w' e size v n cells os := by
 refine ⟨h.1, ?_⟩
 rcases h.2 with h | ⟨g, cap, cur, e1, e2, e3, e4, e5, e6, e7⟩
 · exact .inl h
 · exact .inr ⟨g, cap, cur, e1, e2.eq (ha g (by simp [e7]) e2.lt), e3, e4, e5, e6, e7⟩
theorem RowAt.lt {w : World} {e : TypeId} {size : Nat} {v : Value} {n : Nat} {cells : List Value} {os : List Nat} (h : RowAt w e size v n cells os) : ∀ b ∈ os, b < w.heap.size := by
 intro b hb
 rcases h.2 with h | ⟨g, cap, cur, e1, e2, e3, e4, e5, e6, e7⟩
 · rw [h.2.2] at hb; cases hb
 · rw [e7] at hb; simp at hb; subst hb; exact e2.lt
theorem RowAt.at_ {w : World} {e : TypeId} {size : Nat} {v : Value} {n : Nat} {cells : List Value} {os : List Nat} (h : RowAt w e size v n cells os) {g cap : Nat} (hv : v = .slice (some ⟨g, 0, none⟩) n cap) : ∀ j u, cells[j]? = some u → w.cell? ((⟨g, 0, none⟩ : Addr).add j) = some u := by
 intro j u hj
 rcases h.2 with ⟨h1, _⟩ | ⟨g', cap', cur, e1, e2, e3, e4, e5, e6, e7⟩
 · rw [h1] at hv; cases hv
 · rw [hv] at e1
   obtain ⟨rfl⟩ : g = g' := by injection e1 with a _ _; injection a with a; injection a
   have : (⟨g, 0, none⟩ : Addr).add j = ⟨g, j, none⟩ := by unfold Addr.add; split <;> simp_all
   rw [this, e2.cell]
   rw [← e6, List.getElem?_take] at hj
   split at hj
   · simpa using hj
   · cases hj
def Value.blk : Value → List Nat
 | .slice (some a) _ _ => [a.block]
 | _ => []
theorem RowAt.of_owns {w : World} {b : Nat} {e : TypeId} {size : Nat} {v : Value} {n : Nat} {cells : List Value} (h : w.ownsRow b e size v n cells) : RowAt w e size v n cells (Value.blk v) := by
 refine ⟨h.1, ?_⟩
 rcases h.2 with ⟨h, h'⟩ | ⟨g, cap, cur, e1, e2, e3, e4, e5, e6, e7⟩
 · exact .inl ⟨h, h', by rw [h]; rfl⟩
 · exact .inr ⟨g, cap, cur, e1, .mk e3, e4, e5, e6, e7, by rw [e1]; rfl⟩
def slRd {α : Type} (K : Kd α) (w : World) (v : Value) (xs : List α) (F : Nat → Prop) : Prop :=
 ∃ A cap cells, v = .slice A xs.length cap ∧ xs.length ≤ cap ∧ ElsR K w F xs cells ∧ (cells ≠ [] → ∃ ad, A = some ad ∧ F ad.block ∧ ∀ j u, cells[j]? = some u → w.cell? (ad.add j) = some u)
theorem add_block (a : Addr) (n : Nat) : (a.add n).block = a.block := by unfold Addr.add; split <;> rfl
theorem Addr.add_add' (a : Addr) (i j : Nat) : (a.add i).add j = a.add (i + j) := by
 unfold Addr.add
 by_cases hi : i = 0
 · simp [hi]
 · by_cases hj : j = 0
   · simp [hj]
   · rw [if_neg hi, if_neg hj, if_neg (by omega)]; simp [Nat.add_assoc]
theorem slRd.frame {α : Type} {K : Kd α} {w w' : World} {v : Value} {xs : List α} {F : Nat → Prop} (h : slRd K w v xs F) (ha : Agr w w' F) : slRd K w' v xs F := by
 obtain ⟨A, cap, cells, e, hc, he, hb⟩ := h
 refine ⟨A, cap, cells, e, hc, he.frame ha, fun hne => ?_⟩
 obtain ⟨ad, e1, hF, hcell⟩ := hb hne
 exact ⟨ad, e1, hF, fun j u hj => ha.cell (by rw [add_block]; exact hF) (hcell j u hj)⟩
theorem slRd.mono {α : Type} {K : Kd α} {w : World} {v : Value} {xs : List α} {F F' : Nat → Prop} (h : slRd K w v xs F) (hm : ∀ b, F b → b < w.heap.size → F' b) : slRd K w v xs F' := by
 obtain ⟨A, cap, cells, e, hc, he, hb⟩ := h
 refine ⟨A, cap, cells, e, hc, he.mono hm, fun hne => ?_⟩
 obtain ⟨ad, e1, hF, hcell⟩ := hb hne
 refine ⟨ad, e1, hm _ hF ?_, hcell⟩
 obtain ⟨u, us, rfl⟩ := List.exists_cons_of_ne_nil hne
 have := World.block_lt_of_cell? w (ad.add 0) (hcell 0 u rfl)
 rwa [add_block] at this
def slOw {α : Type} (e : TypeId) (K : Kd α) (w : World) (v : Value) (xs : List α) (os : List Nat) : Prop :=
 ∃ cells o1 o2, os = o1 ++ o2 ∧ RowAt w e K.n v xs.length cells o1 ∧ ElsO K w xs cells o2
theorem RowAt.cells {w : World} {e : TypeId} {size : Nat} {v : Value} {n : Nat} {cells : List Value} {os : List Nat} (h : RowAt w e size v n cells os) :
    ∃ A cap, v = .slice A n cap ∧ n ≤ cap ∧ (cells ≠ [] → ∃ g, A = some ⟨g, 0, none⟩ ∧ os = [g] ∧ ∀ j u, cells[j]? = some u → w.cell? ((⟨g, 0, none⟩ : Addr).add j) = some u) := by
  rcases h.2 with ⟨rfl, rfl, _⟩ | ⟨g, cap, cur, rfl, e2, e3, e4, e5, e6, e7⟩
  · refine ⟨none, 0, rfl, Nat.le_refl _, fun hne => ?_⟩
    have := h.1
    simp at this
    exact absurd this hne
  · refine ⟨_, cap, rfl, e3, fun hne => ⟨g, rfl, e7, fun j u hj => ?_⟩⟩
    exact RowAt.at_ h rfl j u hj
theorem slOw.rd {α : Type} {e : TypeId} {K : Kd α} {w : World} {v : Value} {xs : List α} {os : List Nat} (h : slOw e K w v xs os) : slRd K w v xs (· ∈ os) := by
 obtain ⟨cells, o1, o2, rfl, hrow, hels⟩ := h
 obtain ⟨A, cap, rfl, hc, hcell⟩ := hrow.cells
 refine ⟨A, cap, cells, rfl, hc, hels.rd.mono fun b hb _ => List.mem_append_right _ hb, fun hne => ?_⟩
 obtain ⟨g, rfl, rfl, hcl⟩ := hcell hne
 exact ⟨_, rfl, by simp, hcl⟩
def Kd.sl {α : Type} (e : TypeId) (K : Kd α) : Kd (List α) where
 n := 1
 rd := fun w cs xs F => ∃ v, cs = [v] ∧ slRd K w v xs F
 ow := fun w cs xs os => ∃ v, cs = [v] ∧ slOw e K w v xs os
 rd_len := fun ⟨v, e, _⟩ => by simp [e]
 rd_one := fun ⟨v, e, A, cap, cells, e', _⟩ u hu => by subst e; simp at hu; subst hu; subst e'; rfl
 rd_frame := fun ⟨v, e, h⟩ ha => ⟨v, e, h.frame ha⟩
 rd_mono := fun ⟨v, e, h⟩ hm => ⟨v, e, h.mono hm⟩
 ow_frame := fun ⟨v, e, cells, o1, o2, e', h1, h2⟩ ha => ⟨v, e, cells, o1, o2, e', h1.frame fun b hb => ha b (by subst e'; exact List.mem_append_left _ hb), h2.frame fun b hb => ha b (by subst e'; exact List.mem_append_right _ hb)⟩
 ow_lt := fun ⟨v, e, cells, o1, o2, e', h1, h2⟩ b hb => by
  subst e'
  rcases List.mem_append.1 hb with hb | hb
  · exact h1.lt b hb
  · exact h2.lt b hb
 ow_rd := fun ⟨v, e, h⟩ => ⟨v, e, h.rd⟩
end Go.Proofs.YtlpbggnpiogioaaGreat.V
set_option linter.unusedVariables false
set_option linter.unusedSimpArgs false
namespace Go.Proofs.YtlpbggnpiogioaaGreat.V
open Go
structure St where
 w : World
 g : Nat → Nat
def memb : List Nat → Nat → Bool
 | [], _ => false
 | c :: C, n => Nat.beq c n || memb C n
theorem memb_iff {C : List Nat} {n : Nat} : memb C n = true ↔ n ∈ C := by
 induction C with
 | nil => simp [memb]
 | cons c C ih =>
  rw [memb, Bool.or_eq_true, ih, List.mem_cons]
  constructor
  · rintro (h | h)
    · exact .inl (Nat.eq_of_beq_eq_true h).symm
    · exact .inr h
  · rintro (h | h)
    · exact .inl (by rw [h]; exact Nat.beq_refl c)
    · exact .inr h
def dj : List Nat → List Nat → Bool
 | [], _ => true
 | c :: C, S => !memb S c && dj C S
theorem dj_out {C S : List Nat} (h : dj C S = true) {n : Nat} (hn : memb C n = true) : memb S n = false := by
 induction C with
 | nil => cases hn
 | cons c C ih =>
  simp only [dj, Bool.and_eq_true, Bool.not_eq_true'] at h
  simp only [memb, Bool.or_eq_true] at hn
  rcases hn with hn | hn
  · have := Nat.eq_of_beq_eq_true hn
    subst this; exact h.1
  · exact ih h.2 hn
def sub : List Nat → List Nat → Bool
 | [], _ => true
 | c :: C, D => memb D c && sub C D
theorem sub_out {C D : List Nat} (h : sub C D = true) {n : Nat} (hn : memb C n = true) : memb D n = true := by
 induction C with
 | nil => cases hn
 | cons c C ih =>
  simp only [sub, Bool.and_eq_true] at h
  simp only [memb, Bool.or_eq_true] at hn
  rcases hn with hn | hn
  · have := Nat.eq_of_beq_eq_true hn
    subst this; exact h.1
  · exact ih h.2 hn
theorem memb_append {S S' : List Nat} {n : Nat} (h : memb (S ++ S') n = false) : memb S n = false ∧ memb S' n = false := by
 induction S with
 | nil => exact ⟨rfl, h⟩
 | cons c S ih =>
  simp only [List.cons_append, memb, Bool.or_eq_false_iff] at h ⊢
  exact ⟨⟨h.1, (ih h.2).1⟩, (ih h.2).2⟩
structure Stp (S : List Nat) (s s' : St) : Prop where
 os : s'.w.os = s.w.os
 tape : s'.w.tape = s.w.tape
 output : s'.w.output = s.w.output
 size : s.w.heap.size ≤ s'.w.heap.size
 low : ∀ b, b < s.w.heap.size → s.g b < 40 → s'.g b = s.g b
 same : ∀ b, b < s.w.heap.size → memb S (s.g b) = false → s'.g b = s.g b ∧ s'.w.heap[b]? = s.w.heap[b]?
theorem Stp.refl (s : St) : Stp [] s s := ⟨rfl, rfl, rfl, Nat.le_refl _, fun _ _ _ => rfl, fun _ _ _ => ⟨rfl, rfl⟩⟩
def RdF {α : Type} (K : Kd α) (s : St) (cs : List Value) (x : α) (C : List Nat) : Prop := K.rd s.w cs x (fun b => memb C (s.g b) = true)
def OwF {α : Type} (K : Kd α) (s : St) (cs : List Value) (x : α) (c : Nat) : Prop := ∃ os, K.ow s.w cs x os ∧ os.Nodup ∧ ∀ b ∈ os, s.g b = c
def RwF {α : Type} (e : TypeId) (K : Kd α) (s : St) (v : Value) (xs : List α) (c : Nat) (C : List Nat) : Prop :=
 ∃ cells os, RowAt s.w e K.n v xs.length cells os ∧ (∀ b ∈ os, s.g b = c) ∧ ElsR K s.w (fun b => memb C (s.g b) = true) xs cells
def BlF (s : St) (b : Nat) (t : TypeId) (cs : List Value) (c : Nat) : Prop := s.w.heap[b]? = some (.cells cs.toArray t (0, 0)) ∧ s.g b = c
section
variable {α : Type} {K : Kd α} {s s' : St} {S C : List Nat} {c : Nat}
theorem Stp.agr (p : Stp S s s') (d : dj C S = true) : Agr s.w s'.w (fun b => b < s.w.heap.size ∧ memb C (s.g b) = true) := fun b hb hl => (p.same b hl (dj_out d hb.2)).2
theorem Stp.col (p : Stp S s s') (d : dj C S = true) {b : Nat} (hb : b < s.w.heap.size ∧ memb C (s.g b) = true) : memb C (s'.g b) = true := by rw [(p.same b hb.1 (dj_out d hb.2)).1]; exact hb.2
theorem RdF.st {cs : List Value} {x : α} (h : RdF K s cs x C) (p : Stp S s s') (d : dj C S = true) : RdF K s' cs x C :=
 K.rd_mono (K.rd_frame (K.rd_mono h fun b hb hl => ⟨hl, hb⟩) (p.agr d)) fun b hb _ => p.col d hb
theorem OwF.st {cs : List Value} {x : α} (h : OwF K s cs x c) (p : Stp S s s') (d : memb S c = false) : OwF K s' cs x c := by
 obtain ⟨os, ho, hn, hc⟩ := h
 refine ⟨os, K.ow_frame ho fun b hb hl => (p.same b hl (by rw [hc b hb]; exact d)).2, hn, fun b hb => ?_⟩
 rw [(p.same b (K.ow_lt ho b hb) (by rw [hc b hb]; exact d)).1, hc b hb]
theorem RwF.st {e : TypeId} {v : Value} {xs : List α} (h : RwF e K s v xs c C) (p : Stp S s s') (d : memb S c = false) (d' : dj C S = true) : RwF e K s' v xs c C := by
 obtain ⟨cells, os, hr, hc, he⟩ := h
 refine ⟨cells, os, hr.frame fun b hb hl => (p.same b hl (by rw [hc b hb]; exact d)).2, fun b hb => ?_, ?_⟩
 · rw [(p.same b (hr.lt b hb) (by rw [hc b hb]; exact d)).1, hc b hb]
 · exact ((he.mono fun b hb hl => ⟨hl, hb⟩).frame (p.agr d')).mono fun b hb _ => p.col d' hb
theorem BlF.st {b : Nat} {t : TypeId} {cs : List Value} (h : BlF s b t cs c) (p : Stp S s s') (d : memb S c = false) : BlF s' b t cs c := by
 have hl : b < s.w.heap.size := (Array.getElem?_eq_some_iff.1 h.1).1
 have := p.same b hl (by rw [h.2]; exact d)
 exact ⟨by rw [this.2]; exact h.1, by rw [this.1]; exact h.2⟩
theorem RdF.sub {cs : List Value} {x : α} (h : RdF K s cs x C) {D : List Nat} (d : sub C D = true) : RdF K s cs x D := K.rd_mono h fun b hb _ => sub_out d hb
theorem OwF.rd {cs : List Value} {x : α} (h : OwF K s cs x c) : RdF K s cs x [c] := by
 obtain ⟨os, ho, hn, hc⟩ := h
 exact K.rd_mono (K.ow_rd ho) fun b hb _ => by rw [hc b hb]; simp [memb]
theorem RwF.rd {e : TypeId} {v : Value} {xs : List α} (h : RwF e K s v xs c C) : RdF (Kd.sl e K) s [v] xs (c :: C) := by
 obtain ⟨cells, os, hr, hc, he⟩ := h
 obtain ⟨A, cap, rfl, hcap, hcell⟩ := hr.cells
 refine ⟨_, rfl, A, cap, cells, rfl, hcap, he.mono fun b hb _ => by simp only [memb, hb, Bool.or_true], fun hne => ?_⟩
 obtain ⟨g, rfl, ho, hcl⟩ := hcell hne
 exact ⟨_, rfl, by simp [memb, hc g (by simp [ho])], hcl⟩
theorem Stp.trans {S' : List Nat} {s'' : St} (p : Stp S s s') (q : Stp S' s' s'') : Stp (S ++ S') s s'' := by
 refine ⟨q.os.trans p.os, q.tape.trans p.tape, q.output.trans p.output, Nat.le_trans p.size q.size, fun b hb hl => ?_, fun b hb hm => ?_⟩
 · have h1 := p.low b hb hl
   rw [q.low b (Nat.lt_of_lt_of_le hb p.size) (by rw [h1]; exact hl), h1]
 · have ⟨h1, h2⟩ := memb_append hm
   have a := p.same b hb h1
   have b' := q.same b (Nat.lt_of_lt_of_le hb p.size) (by rw [a.1]; exact h2)
   exact ⟨b'.1.trans a.1, b'.2.trans a.2⟩
end
structure Ky (M : List Nat) (w w' : World) : Prop where
 os : w'.os = w.os
 tape : w'.tape = w.tape
 output : w'.output = w.output
 size : w.heap.size ≤ w'.heap.size
 same : ∀ b, b < w.heap.size → b ∉ M → w'.heap[b]? = w.heap[b]?
theorem Ky.refl (w : World) : Ky [] w w := ⟨rfl, rfl, rfl, Nat.le_refl _, fun _ _ _ => rfl⟩
theorem Ky.below {w w' : World} (h : Ky [] w w') : Go.RowKit.Below w.heap.size w w' := ⟨h.os, h.tape, h.output, h.size, fun b hb => h.same b hb (by simp)⟩
def FO {α : Type} (K : Kd α) (w w' : World) (cs : List Value) (x : α) : Prop := ∃ os, K.ow w' cs x os ∧ os.Nodup ∧ ∀ b ∈ os, w.heap.size ≤ b
def FR {α : Type} (K : Kd α) (F : Nat → Prop) (w w' : World) (cs : List Value) (x : α) : Prop := K.rd w' cs x (fun b => w.heap.size ≤ b ∨ F b)
def FW {α : Type} (K : Kd α) (os : List Nat) (w w' : World) (cs : List Value) (x : α) : Prop := ∃ os', K.ow w' cs x os' ∧ os'.Nodup ∧ ∀ b ∈ os', b ∈ os ∨ w.heap.size ≤ b
structure Kp (s0 s : St) : Prop where
 os : s.w.os = s0.w.os
 tape : s.w.tape = s0.w.tape
 output : s.w.output = s0.w.output
 size : s0.w.heap.size ≤ s.w.heap.size
 col : ∀ b, b < s0.w.heap.size → s0.g b < 40 → s.g b = s0.g b
 same : ∀ b, b < s0.w.heap.size → s0.g b < 2 → s.w.heap[b]? = s0.w.heap[b]?
theorem Kp.st {s0 s s' : St} {S : List Nat} (h : Kp s0 s) (p : Stp S s s') (d : dj [0, 1] S = true) : Kp s0 s' := by
 refine ⟨p.os.trans h.os, p.tape.trans h.tape, p.output.trans h.output, Nat.le_trans h.size p.size, fun b hb hlt => ?_, fun b hb h2 => ?_⟩
 · have := h.col b hb hlt
   rw [p.low b (Nat.lt_of_lt_of_le hb h.size) (by rw [this]; exact hlt)]
   exact this
 · have hc := h.col b hb (by omega)
   have : memb [0, 1] (s.g b) = true := by rw [hc, memb_iff]; simp; omega
   rw [(p.same b (Nat.lt_of_lt_of_le hb h.size) (dj_out d this)).2]
   exact h.same b hb h2
theorem Kp.refl (s : St) (h : ∀ b, b < s.w.heap.size → s.g b < 40) : Kp s s := ⟨rfl, rfl, rfl, Nat.le_refl _, fun b hb _ => rfl, fun _ _ _ => rfl⟩
noncomputable def st0 (w : World) (F : Nat → Prop) : St := ⟨w, fun b => open Classical in if F b then 0 else 1⟩
theorem st0_kp (w : World) (F : Nat → Prop) : Kp (st0 w F) (st0 w F) := Kp.refl _ fun b _ => by unfold st0; dsimp only; split <;> omega
theorem RdF.kp {α : Type} {K : Kd α} {s0 s : St} {cs : List Value} {x : α} (h : RdF K s0 cs x [0]) (p : Kp s0 s) : RdF K s cs x [0] := by
 refine K.rd_mono (K.rd_frame (F := fun b => b < s0.w.heap.size ∧ memb [0] (s0.g b) = true) (K.rd_mono h fun b hb hl => ⟨hl, hb⟩) fun b hb _ => p.same b hb.1 ?_) fun b hb _ => ?_
 · have := memb_iff.1 hb.2; simp at this; omega
 · have h0 := memb_iff.1 hb.2; simp at h0
   rw [p.col b hb.1 (by omega)]; exact hb.2
theorem Kp.ky {w : World} {F : Nat → Prop} {s : St} (p : Kp (st0 w F) s) : Ky [] w s.w :=
 ⟨p.os, p.tape, p.output, p.size, fun b hb _ => p.same b hb (by unfold st0; dsimp only; split <;> omega)⟩
theorem OwF.fo {α : Type} {K : Kd α} {s0 s : St} {cs : List Value} {x : α} {c : Nat} (h : OwF K s cs x c) (p : Kp s0 s) (hc : Nat.ble 40 c = true) (hz : ∀ b, s0.g b < 40) : FO K s0.w s.w cs x := by
 obtain ⟨os, ho, hn, hcol⟩ := h
 refine ⟨os, ho, hn, fun b hb => ?_⟩
 by_cases hl : b < s0.w.heap.size
 · have := p.col b hl (hz b)
   have h3 := hz b
   have h2 := hcol b hb
   have := Nat.le_of_ble_eq_true hc
   omega
 · omega
def okC : List Nat → Bool
 | [] => true
 | c :: C => (Nat.beq c 0 || Nat.ble 40 c) && okC C
theorem okC_out {C : List Nat} (h : okC C = true) {n : Nat} (hn : memb C n = true) : n = 0 ∨ 40 ≤ n := by
 induction C with
 | nil => cases hn
 | cons c C ih =>
  simp only [okC, Bool.and_eq_true, Bool.or_eq_true] at h
  simp only [memb, Bool.or_eq_true] at hn
  rcases hn with hn | hn
  · have := Nat.eq_of_beq_eq_true hn
    subst this
    rcases h.1 with h | h
    · exact .inl (Nat.eq_of_beq_eq_true h)
    · exact .inr (Nat.le_of_ble_eq_true h)
  · exact ih h.2 hn
structure Nw (s s' : St) (c : Nat) : Prop where
 old : ∀ b, b < s.w.heap.size → s'.g b = s.g b
 new : ∀ b, s.w.heap.size ≤ b → s'.g b = c
theorem nwx (s : St) (w' : World) (c : Nat) (h : Ky [] s.w w') : ∃ s' : St, s'.w = w' ∧ Stp [] s s' ∧ Nw s s' c := by
 refine ⟨⟨w', fun b => if b < s.w.heap.size then s.g b else c⟩, rfl, ⟨h.os, h.tape, h.output, h.size, fun b hb _ => ?_, fun b hb _ => ⟨?_, h.same b hb (by simp)⟩⟩, ⟨fun b hb => ?_, fun b hb => ?_⟩⟩
 · simp [hb]
 · simp [hb]
 · simp [hb]
 · have : ¬ b < s.w.heap.size := by omega
   simp [this]
theorem FO.c {α : Type} {K : Kd α} {s s' : St} {cs : List Value} {x : α} {c : Nat} (h : FO K s.w s'.w cs x) (n : Nw s s' c) : OwF K s' cs x c := by
 obtain ⟨os, ho, hn, hf⟩ := h
 exact ⟨os, ho, hn, fun b hb => n.new b (hf b hb)⟩
theorem FR.c {α : Type} {K : Kd α} {s s' : St} {cs : List Value} {x : α} {c : Nat} {C : List Nat} (h : FR K (fun b => memb C (s.g b) = true) s.w s'.w cs x) (n : Nw s s' c) : RdF K s' cs x (c :: C) := by
 refine K.rd_mono h fun b hb _ => ?_
 by_cases hl : b < s.w.heap.size
 · rcases hb with hb | hb
   · omega
   · rw [n.old b hl]; simp only [memb, hb, Bool.or_true]
 · rw [n.new b (by omega)]; simp [memb]
theorem Xo {S0 S1 : List Nat} {s0 s1 s2 : St} (p0 : Stp S0 s0 s1) (p1 : Stp S1 s1 s2) : Stp (S0 ++ S1) s0 s2 := (p0.trans p1)
theorem Ye {S0 S1 S2 : List Nat} {s0 s1 s2 s3 : St} (p0 : Stp S0 s0 s1) (p1 : Stp S1 s1 s2) (p2 : Stp S2 s2 s3) : Stp ((S0 ++ S1) ++ S2) s0 s3 := ((p0.trans p1).trans p2)
theorem Yf {S0 S1 S2 S3 : List Nat} {s0 s1 s2 s3 s4 : St} (p0 : Stp S0 s0 s1) (p1 : Stp S1 s1 s2) (p2 : Stp S2 s2 s3) (p3 : Stp S3 s3 s4) : Stp (((S0 ++ S1) ++ S2) ++ S3) s0 s4 := (((p0.trans p1).trans p2).trans p3)
theorem tr5 {S0 S1 S2 S3 S4 : List Nat} {s0 s1 s2 s3 s4 s5 : St} (p0 : Stp S0 s0 s1) (p1 : Stp S1 s1 s2) (p2 : Stp S2 s2 s3) (p3 : Stp S3 s3 s4) (p4 : Stp S4 s4 s5) : Stp ((((S0 ++ S1) ++ S2) ++ S3) ++ S4) s0 s5 := ((((p0.trans p1).trans p2).trans p3).trans p4)
theorem tr6 {S0 S1 S2 S3 S4 S5 : List Nat} {s0 s1 s2 s3 s4 s5 s6 : St} (p0 : Stp S0 s0 s1) (p1 : Stp S1 s1 s2) (p2 : Stp S2 s2 s3) (p3 : Stp S3 s3 s4) (p4 : Stp S4 s4 s5) (p5 : Stp S5 s5 s6) : Stp (((((S0 ++ S1) ++ S2) ++ S3) ++ S4) ++ S5) s0 s6 := (((((p0.trans p1).trans p2).trans p3).trans p4).trans p5)
theorem tr7 {S0 S1 S2 S3 S4 S5 S6 : List Nat} {s0 s1 s2 s3 s4 s5 s6 s7 : St} (p0 : Stp S0 s0 s1) (p1 : Stp S1 s1 s2) (p2 : Stp S2 s2 s3) (p3 : Stp S3 s3 s4) (p4 : Stp S4 s4 s5) (p5 : Stp S5 s5 s6) (p6 : Stp S6 s6 s7) : Stp ((((((S0 ++ S1) ++ S2) ++ S3) ++ S4) ++ S5) ++ S6) s0 s7 := ((((((p0.trans p1).trans p2).trans p3).trans p4).trans p5).trans p6)
theorem tr8 {S0 S1 S2 S3 S4 S5 S6 S7 : List Nat} {s0 s1 s2 s3 s4 s5 s6 s7 s8 : St} (p0 : Stp S0 s0 s1) (p1 : Stp S1 s1 s2) (p2 : Stp S2 s2 s3) (p3 : Stp S3 s3 s4) (p4 : Stp S4 s4 s5) (p5 : Stp S5 s5 s6) (p6 : Stp S6 s6 s7) (p7 : Stp S7 s7 s8) : Stp (((((((S0 ++ S1) ++ S2) ++ S3) ++ S4) ++ S5) ++ S6) ++ S7) s0 s8 := (((((((p0.trans p1).trans p2).trans p3).trans p4).trans p5).trans p6).trans p7)
theorem tr9 {S0 S1 S2 S3 S4 S5 S6 S7 S8 : List Nat} {s0 s1 s2 s3 s4 s5 s6 s7 s8 s9 : St} (p0 : Stp S0 s0 s1) (p1 : Stp S1 s1 s2) (p2 : Stp S2 s2 s3) (p3 : Stp S3 s3 s4) (p4 : Stp S4 s4 s5) (p5 : Stp S5 s5 s6) (p6 : Stp S6 s6 s7) (p7 : Stp S7 s7 s8) (p8 : Stp S8 s8 s9) : Stp ((((((((S0 ++ S1) ++ S2) ++ S3) ++ S4) ++ S5) ++ S6) ++ S7) ++ S8) s0 s9 := ((((((((p0.trans p1).trans p2).trans p3).trans p4).trans p5).trans p6).trans p7).trans p8)
theorem tr10 {S0 S1 S2 S3 S4 S5 S6 S7 S8 S9 : List Nat} {s0 s1 s2 s3 s4 s5 s6 s7 s8 s9 s10 : St} (p0 : Stp S0 s0 s1) (p1 : Stp S1 s1 s2) (p2 : Stp S2 s2 s3) (p3 : Stp S3 s3 s4) (p4 : Stp S4 s4 s5) (p5 : Stp S5 s5 s6) (p6 : Stp S6 s6 s7) (p7 : Stp S7 s7 s8) (p8 : Stp S8 s8 s9) (p9 : Stp S9 s9 s10) : Stp (((((((((S0 ++ S1) ++ S2) ++ S3) ++ S4) ++ S5) ++ S6) ++ S7) ++ S8) ++ S9) s0 s10 := (((((((((p0.trans p1).trans p2).trans p3).trans p4).trans p5).trans p6).trans p7).trans p8).trans p9)
theorem tr11 {S0 S1 S2 S3 S4 S5 S6 S7 S8 S9 S10 : List Nat} {s0 s1 s2 s3 s4 s5 s6 s7 s8 s9 s10 s11 : St} (p0 : Stp S0 s0 s1) (p1 : Stp S1 s1 s2) (p2 : Stp S2 s2 s3) (p3 : Stp S3 s3 s4) (p4 : Stp S4 s4 s5) (p5 : Stp S5 s5 s6) (p6 : Stp S6 s6 s7) (p7 : Stp S7 s7 s8) (p8 : Stp S8 s8 s9) (p9 : Stp S9 s9 s10) (p10 : Stp S10 s10 s11) : Stp ((((((((((S0 ++ S1) ++ S2) ++ S3) ++ S4) ++ S5) ++ S6) ++ S7) ++ S8) ++ S9) ++ S10) s0 s11 := ((((((((((p0.trans p1).trans p2).trans p3).trans p4).trans p5).trans p6).trans p7).trans p8).trans p9).trans p10)
theorem Xy {S0 S1 S2 S3 S4 S5 S6 S7 S8 S9 S10 S11 : List Nat} {s0 s1 s2 s3 s4 s5 s6 s7 s8 s9 s10 s11 s12 : St} (p0 : Stp S0 s0 s1) (p1 : Stp S1 s1 s2) (p2 : Stp S2 s2 s3) (p3 : Stp S3 s3 s4) (p4 : Stp S4 s4 s5) (p5 : Stp S5 s5 s6) (p6 : Stp S6 s6 s7) (p7 : Stp S7 s7 s8) (p8 : Stp S8 s8 s9) (p9 : Stp S9 s9 s10) (p10 : Stp S10 s10 s11) (p11 : Stp S11 s11 s12) : Stp (((((((((((S0 ++ S1) ++ S2) ++ S3) ++ S4) ++ S5) ++ S6) ++ S7) ++ S8) ++ S9) ++ S10) ++ S11) s0 s12 := (((((((((((p0.trans p1).trans p2).trans p3).trans p4).trans p5).trans p6).trans p7).trans p8).trans p9).trans p10).trans p11)
theorem bft (b : Bool) : b = true ∨ b = false := by cases b <;> simp
abbrev mm (C : List Nat) (s : St) : Nat → Prop := fun b => memb C (s.g b) = true
end Go.Proofs.YtlpbggnpiogioaaGreat.V
set_option linter.unusedVariables false
set_option linter.unusedSimpArgs false
namespace Go.Proofs.YtlpbggnpiogioaaGreat.V
open Go
def IxA (v : Value) (n : Nat) (i : Int) (ad : Addr) : Prop := ∃ A l cap, v = .slice (some A) l cap ∧ ad = A.add (i.toNat * n)
def CeF (s : St) (ad : Addr) (es : List Value) (C : List Nat) : Prop := memb C (s.g ad.block) = true ∧ ∀ j u, es[j]? = some u → s.w.cell? (ad.add j) = some u
theorem CeF.st {s s' : St} {S C : List Nat} {ad : Addr} {es : List Value} (h : CeF s ad es C) (p : Stp S s s') (d : dj C S = true) (hne : Nat.ble 1 es.length = true) : CeF s' ad es C := by
 obtain ⟨u, us, rfl⟩ := List.exists_cons_of_ne_nil (l := es) (by intro h; subst h; cases hne)
 have hl : ad.block < s.w.heap.size := by
  have := World.block_lt_of_cell? s.w (ad.add 0) (h.2 0 u rfl)
  rwa [add_block] at this
 have hs := p.same ad.block hl (dj_out d h.1)
 refine ⟨by rw [hs.1]; exact h.1, fun j u hj => ?_⟩
 have := h.2 j u hj
 rw [World.cell?_of_block (w := s.w) (by rw [add_block]; exact hs.2)]
 exact this
def at_ {α : Type} [Inhabited α] (xs : List α) (i : Int) : α := xs.getD i.toNat default
theorem at_eq {α : Type} [Inhabited α] (xs : List α) (i : Int) (h : i.toNat < xs.length) : at_ xs i = xs[i.toNat] := by simp [at_, List.getD, List.getElem?_eq_getElem h]
def Lim : Nat := 4294967296
section runs
variable {P : Program} {w : World}
theorem size_run {t n : Nat} (h : (P.info? t).map (·.size) = some n) : (sizeOf t).run P w = .ok n w := by
 obtain ⟨i, hi, hs⟩ := Option.map_eq_some_iff.1 h
 simp [sizeOf, typeInfo, hi, hs]
theorem zero_run {t : Nat} {z : Value} (h : (P.info? t).bind (·.zero) = some z) : (zeroValue t).run P w = .ok z w := by
 obtain ⟨i, hi, hs⟩ := Option.bind_eq_some_iff.1 h
 simp [zeroValue, typeInfo, hi, hs]
theorem agg_run {t : Nat} {d : TypeDesc} (h : P.underlying t = some d) : (isAgg t).run P w = .ok d.isRow w := by
 unfold isAgg
 rw [Sem.run_bind', run_underlying h w]
 cases d <;> simp [TypeDesc.isRow, Result.andThen]
theorem box_run {t : TypeId} {v : Value} : (Instr.box t v).run P w = .ok (.pointer (some ⟨w.heap.size, 0, none⟩)) (w.alloc (.cells v.cells t)) := by
 simp [Instr.box, newVar, newRow, newObj]; rfl
theorem alloc_run {t : TypeId} {z : Value} (h : (P.info? t).bind (·.zero) = some z) : (Instr.alloc t true (.tuple #[])).run P w = .ok (.pointer (some ⟨w.heap.size, 0, none⟩)) (w.alloc (.cells z.cells t)) := by
 unfold Instr.alloc
 rw [Sem.run_bind', zero_run h]
 simp [Result.andThen, newVar, newRow, newObj]; rfl
theorem load_run {t : TypeId} {d : TypeDesc} {ad : Addr} {v : Value} (hu : P.underlying t = some d) (hd : d.isRow = false) (hc : w.cell? ad = some v) : (Instr.loadAt t (.pointer (some ad))).run P w = .ok v w := by
 unfold Instr.loadAt
 rw [Sem.run_bind']
 simp only [Instr.sureAddr, Sem.run_pure, Result.andThen]
 unfold loadVar
 rw [Sem.run_bind', agg_run hu, hd]
 simp [Result.andThen, hc]
theorem loadAgg_run {t : TypeId} {d : TypeDesc} {ad : Addr} {es : List Value} (hu : P.underlying t = some d) (hd : d.isRow = true) (hs : (P.info? t).map (·.size) = some es.length) (hc : ∀ j u, es[j]? = some u → w.cell? (ad.add j) = some u) :
    (Instr.loadAt t (.pointer (some ad))).run P w = .ok (.agg es.toArray) w := by
  unfold Instr.loadAt
  rw [Sem.run_bind']
  simp only [Instr.sureAddr, Sem.run_pure, Result.andThen]
  unfold loadVar
  rw [Sem.run_bind', agg_run hu, hd]
  simp only [Result.andThen, if_true]
  rw [Sem.run_bind', size_run hs]
  simp only [Result.andThen]
  rw [Sem.run_bind', run_loadCells_list (P := P) w ad es hc]
  simp [Result.andThen]
theorem store_run {t : TypeId} {g o : Nat} {e : TypeId} {cur : Array Value} {v : Value} (hs : (P.info? t).map (·.size) = some 1) (hv : v.oneCell' = true) (hg : Hr w g cur e) (ho : o < cur.size) :
    (Instr.storeAt t (.pointer (some ⟨g, o, none⟩)) v).run P w = .ok () (w.setCell ⟨g, o, none⟩ v) := by
  unfold Instr.storeAt
  rw [Sem.run_bind']
  simp only [Instr.sureAddr, Sem.run_pure, Result.andThen]
  unfold storeVar
  rw [Sem.run_bind', size_run hs]
  have hc : v.cells = #[v] := by cases v <;> first | rfl | cases hv
  have hcell : w.cell? ⟨g, o, none⟩ = some cur[o] := by rw [hg.cell]; simp [ho]
  have hfr : w.frozen? ⟨g, o, none⟩ = false := hg.free o ho
  have hst : (storeCells ⟨g, o, none⟩ [v]).run P w = .ok () (w.setCell ⟨g, o, none⟩ v) := by
    have ha : (⟨g, o, none⟩ : Addr).add 0 = ⟨g, o, none⟩ := by simp [Addr.add]
    cases v <;> first | (cases hv; done) | simp [storeCells, store, Sem.run, ha, hcell, hfr, Sem.bind, Bind.bind]
  simp [Result.andThen, hc, hst]
end runs
section
variable {P : Program} {f : Who} {N : Nat} {O ρ : Type} {m : Option O} {G : O → Option ρ} {R : ρ → Ending → World → Prop} {e : Env} {s : St} {k : List Item} {ops : Array Oper} {i d : Nat} {rest : List Nat} {o : Oper}
theorem St.made (s : St) (ob : Obj) (c : Nat) : ∃ s' : St, s'.w = s.w.alloc ob ∧ Stp [] s s' ∧ Nw s s' c := nwx s _ c ⟨rfl, rfl, rfl, by simp, fun b hb _ => heap_alloc_old s.w ob hb⟩
theorem new_bl {s s' : St} {t : TypeId} {cs : List Value} {c : Nat} {C : Array Value} (hw : s'.w = s.w.alloc (.cells C t)) (n : Nw s s' c) (hC : C = cs.toArray) : BlF s' s.w.heap.size t cs c :=
 ⟨by rw [hw, hC]; exact heap_alloc_new s.w _, n.new _ (Nat.le_refl _)⟩
theorem bx (c : Nat) {t : TypeId} {x : Operand} {cs : List Value} (ho : ops[i]? = some o) (hd : o.dst = some d) (hN : Nat.blt d N = true) (hw : Region.wanted o (yv e ops) = true) (hop : o.op = .box t x) (hx : (ev e x).cells = cs.toArray)
    (h : ∀ b s', Stp [] s s' → BlF s' b t cs c → TM P f N m G R (.inRegion ops rest :: k) (upd e d (.pointer (some ⟨b, 0, none⟩))) s'.w) : TM P f N m G R (.inRegion ops (i :: rest) :: k) e s.w := by
  obtain ⟨s', hs', p, n⟩ := s.made (.cells (ev e x).cells t) c
  refine vl (v := .pointer (some ⟨s.w.heap.size, 0, none⟩)) (w' := s'.w) ho hd hN hw ?_ (h _ s' p (new_bl hs' n hx))
  rw [hs']; simp [execOp, hop, box_run, Result.andThen]
theorem bx' (c : Nat) {t : TypeId} {x : Operand} {cs : List Value} (t1 : E5 (ops[i]?) (some o) (o.dst) (some d) (Nat.blt d N) (true) (Region.wanted o (yv e ops)) (true) (o.op) (.box t x)) (hx : (ev e x).cells = cs.toArray) (h : ∀ b s', Stp [] s s' → BlF s' b t cs c → TM P f N m G R (.inRegion ops rest :: k) (upd e d (.pointer (some ⟨b, 0, none⟩))) s'.w) : TM P f N m G R (.inRegion ops (i :: rest) :: k) e s.w := bx c (e5_ t1).1 (e5_ t1).2.1 (e5_ t1).2.2.1 (e5_ t1).2.2.2.1 (e5_ t1).2.2.2.2 hx h
theorem al (c : Nat) {t : TypeId} {z : Value} {cs : List Value} (ho : ops[i]? = some o) (hd : o.dst = some d) (hN : Nat.blt d N = true) (hw : Region.wanted o (yv e ops) = true) (hop : o.op = .alloc t) (hz : (P.info? t).bind (·.zero) = some z) (hx : z.cells = cs.toArray)
    (h : ∀ b s', Stp [] s s' → BlF s' b t cs c → TM P f N m G R (.inRegion ops rest :: k) (upd e d (.pointer (some ⟨b, 0, none⟩))) s'.w) : TM P f N m G R (.inRegion ops (i :: rest) :: k) e s.w := by
  obtain ⟨s', hs', p, n⟩ := s.made (.cells z.cells t) c
  refine vl (v := .pointer (some ⟨s.w.heap.size, 0, none⟩)) (w' := s'.w) ho hd hN hw ?_ (h _ s' p (new_bl hs' n hx))
  rw [hs']; simp [execOp, hop, alloc_run hz, Result.andThen]
theorem al' (c : Nat) {t : TypeId} {z : Value} {cs : List Value} (t1 : E5 (ops[i]?) (some o) (o.dst) (some d) (Nat.blt d N) (true) (Region.wanted o (yv e ops)) (true) (o.op) (.alloc t)) (hz : (P.info? t).bind (·.zero) = some z) (hx : z.cells = cs.toArray) (h : ∀ b s', Stp [] s s' → BlF s' b t cs c → TM P f N m G R (.inRegion ops rest :: k) (upd e d (.pointer (some ⟨b, 0, none⟩))) s'.w) : TM P f N m G R (.inRegion ops (i :: rest) :: k) e s.w := al c (e5_ t1).1 (e5_ t1).2.1 (e5_ t1).2.2.1 (e5_ t1).2.2.2.1 (e5_ t1).2.2.2.2 hz hx h
theorem fa {t j q : Nat} {x : Operand} {ad : Addr} (hf : ∀ (a : Addr) (w : World), (Instr.fieldAt t (.pointer (some a)) j).run P w = .ok (.pointer (some (a.add q))) w)
    (ho : ops[i]? = some o) (hd : o.dst = some d) (hN : Nat.blt d N = true) (hw : Region.wanted o (yv e ops) = true) (hop : o.op = .fieldAddr t x j) (hx : ev e x = .pointer (some ad))
    (h : TM P f N m G R (.inRegion ops rest :: k) (upd e d (.pointer (some (ad.add q)))) s.w) : TM P f N m G R (.inRegion ops (i :: rest) :: k) e s.w :=
  vl ho hd hN hw (by simp [execOp, hop, hx, hf, Result.andThen]) h
theorem Xs {t j q : Nat} {x : Operand} {ad : Addr} (hf : ∀ (a : Addr) (w : World), (Instr.fieldAt t (.pointer (some a)) j).run P w = .ok (.pointer (some (a.add q))) w) (t1 : E6 (ops[i]?) (some o) (o.dst) (some d) (Nat.blt d N) (true) (Region.wanted o (yv e ops)) (true) (o.op) (.fieldAddr t x j) (ev e x) (.pointer (some ad))) (h : TM P f N m G R (.inRegion ops rest :: k) (upd e d (.pointer (some (ad.add q)))) s.w) : TM P f N m G R (.inRegion ops (i :: rest) :: k) e s.w := fa hf (e6_ t1).1 (e6_ t1).2.1 (e6_ t1).2.2.1 (e6_ t1).2.2.2.1 (e6_ t1).2.2.2.2.1 (e6_ t1).2.2.2.2.2 h
theorem bl_cell {b q : Nat} {t : TypeId} {cs : List Value} {c : Nat} {v : Value} (h : BlF s b t cs c) (hv : cs[q]? = some v) : s.w.cell? ⟨b, q, none⟩ = some v := by
 simp [World.cell?, h.1, hv]
theorem ld {t b q : Nat} {tb : TypeId} {dd : TypeDesc} {x : Operand} {cs : List Value} {c : Nat} {v : Value} (hB : BlF s b tb cs c) (hu : P.underlying t = some dd)
    (ho : ops[i]? = some o) (hd : o.dst = some d) (hN : Nat.blt d N = true) (hw : Region.wanted o (yv e ops) = true) (hop : o.op = .load t x) (hr : dd.isRow = false) (hx : ev e x = .pointer (some ⟨b, q, none⟩)) (hv : cs[q]? = some v)
    (h : TM P f N m G R (.inRegion ops rest :: k) (upd e d v) s.w) : TM P f N m G R (.inRegion ops (i :: rest) :: k) e s.w :=
  vl ho hd hN hw (by simp [execOp, hop, hx, load_run hu hr (bl_cell hB hv), Result.andThen]) h
theorem Yb {t b q : Nat} {tb : TypeId} {dd : TypeDesc} {x : Operand} {cs : List Value} {c : Nat} {v : Value} (hB : BlF s b tb cs c) (hu : P.underlying t = some dd) (t2 : E8 (ops[i]?) (some o) (o.dst) (some d) (Nat.blt d N) (true) (Region.wanted o (yv e ops)) (true) (o.op) (.load t x) (dd.isRow) (false) (ev e x) (.pointer (some ⟨b, q, none⟩)) (cs[q]?) (some v)) (h : TM P f N m G R (.inRegion ops rest :: k) (upd e d v) s.w) : TM P f N m G R (.inRegion ops (i :: rest) :: k) e s.w := ld hB hu (e8_ t2).1 (e8_ t2).2.1 (e8_ t2).2.2.1 (e8_ t2).2.2.2.1 (e8_ t2).2.2.2.2.1 (e8_ t2).2.2.2.2.2.1 (e8_ t2).2.2.2.2.2.2.1 (e8_ t2).2.2.2.2.2.2.2 h
theorem lda {t b q : Nat} {tb : TypeId} {dd : TypeDesc} {x : Operand} {cs es : List Value} {c : Nat} (hB : BlF s b tb cs c) (hu : P.underlying t = some dd) (hs : (P.info? t).map (·.size) = some es.length)
    (ho : ops[i]? = some o) (hd : o.dst = some d) (hN : Nat.blt d N = true) (hw : Region.wanted o (yv e ops) = true) (hop : o.op = .load t x) (hr : dd.isRow = true) (hx : ev e x = .pointer (some ⟨b, q, none⟩)) (hv : (cs.drop q).take es.length = es)
    (h : TM P f N m G R (.inRegion ops rest :: k) (upd e d (.agg es.toArray)) s.w) : TM P f N m G R (.inRegion ops (i :: rest) :: k) e s.w :=
  vl ho hd hN hw (by
    have := loadAgg_run (P := P) (w := s.w) (ad := ⟨b, q, none⟩) hu hr hs fun j u hj => by
      rw [Addr.add_mid]
      refine bl_cell hB ?_
      rw [← hv, List.getElem?_take] at hj
      split at hj
      · rw [List.getElem?_drop] at hj; exact hj
      · cases hj
    simp [execOp, hop, hx, this, Result.andThen]) h
theorem Yl {t b q : Nat} {tb : TypeId} {dd : TypeDesc} {x : Operand} {cs es : List Value} {c : Nat} (hB : BlF s b tb cs c) (hu : P.underlying t = some dd) (hs : (P.info? t).map (·.size) = some es.length) (t3 : E8 (ops[i]?) (some o) (o.dst) (some d) (Nat.blt d N) (true) (Region.wanted o (yv e ops)) (true) (o.op) (.load t x) (dd.isRow) (true) (ev e x) (.pointer (some ⟨b, q, none⟩)) ((cs.drop q).take es.length) (es)) (h : TM P f N m G R (.inRegion ops rest :: k) (upd e d (.agg es.toArray)) s.w) : TM P f N m G R (.inRegion ops (i :: rest) :: k) e s.w := lda hB hu hs (e8_ t3).1 (e8_ t3).2.1 (e8_ t3).2.2.1 (e8_ t3).2.2.2.1 (e8_ t3).2.2.2.2.1 (e8_ t3).2.2.2.2.2.1 (e8_ t3).2.2.2.2.2.2.1 (e8_ t3).2.2.2.2.2.2.2 h
theorem Stp.set {b q : Nat} {tb : TypeId} {cs : List Value} {c : Nat} (hB : BlF s b tb cs c) (v : Value) : ∃ s' : St, s'.w = s.w.setCell ⟨b, q, none⟩ v ∧ Stp [c] s s' ∧ BlF s' b tb (cs.set q v) c := by
  refine ⟨⟨s.w.setCell ⟨b, q, none⟩ v, s.g⟩, rfl, ⟨rfl, rfl, rfl, by simp [World.setCell], fun _ _ _ => rfl, fun b' hb hm => ⟨rfl, ?_⟩⟩, ⟨?_, hB.2⟩⟩
  · have hne : b' ≠ b := by
      intro h; subst h; rw [hB.2] at hm; simp [memb] at hm
    exact heap_setCell_other s.w ⟨b, q, none⟩ b' v (fun e => hne e)
  · have := heap_setCell_same s.w b q cs.toArray tb v hB.1
    simpa using this
theorem sv {t b q : Nat} {tb : TypeId} {x y : Operand} {cs : List Value} {c : Nat} {v : Value} (hB : BlF s b tb cs c) (hs : (P.info? t).map (·.size) = some 1)
    (ho : ops[i]? = some o) (hd : o.dst = none) (hw : Region.wanted o (yv e ops) = true) (hop : o.op = .store t x y) (hx : ev e x = .pointer (some ⟨b, q, none⟩)) (hy : ev e y = v) (hv : v.oneCell' = true) (hq : Nat.blt q cs.length = true)
    (h : ∀ s', Stp [c] s s' → BlF s' b tb (cs.set q v) c → TM P f N m G R (.inRegion ops rest :: k) e s'.w) : TM P f N m G R (.inRegion ops (i :: rest) :: k) e s.w := by
  obtain ⟨s', hs', p, hB'⟩ := Stp.set (q := q) hB v
  refine vd (w' := s'.w) ho hd hw ?_ (h s' p hB')
  have hq' : q < cs.toArray.size := by have := hq; simp [Nat.blt] at this; simp; omega
  rw [hs']; simp [execOp, hop, hx, hy, store_run hs hv (.mk hB.1) hq', Result.andThen]
theorem sv' {t b q : Nat} {tb : TypeId} {x y : Operand} {cs : List Value} {c : Nat} {v : Value} (hB : BlF s b tb cs c) (hs : (P.info? t).map (·.size) = some 1) (t2 : E6 (ops[i]?) (some o) (o.dst) (none) (Region.wanted o (yv e ops)) (true) (o.op) (.store t x y) (ev e x) (.pointer (some ⟨b, q, none⟩)) (ev e y) (v)) (hv : v.oneCell' = true) (hq : Nat.blt q cs.length = true) (h : ∀ s', Stp [c] s s' → BlF s' b tb (cs.set q v) c → TM P f N m G R (.inRegion ops rest :: k) e s'.w) : TM P f N m G R (.inRegion ops (i :: rest) :: k) e s.w := sv hB hs (e6_ t2).1 (e6_ t2).2.1 (e6_ t2).2.2.1 (e6_ t2).2.2.2.1 (e6_ t2).2.2.2.2.1 (e6_ t2).2.2.2.2.2 hv hq h
theorem rd_elem {α : Type} [Inhabited α] {te : TypeId} {K : Kd α} {v : Value} {xs : List α} {C : List Nat} {i : Int} (hF : RdF (Kd.sl te K) s [v] xs C) (hn : Nat.ble 1 K.n = true) (h0 : 0 ≤ i) (h1 : i < xs.length) :
    ∃ A cap es, v = .slice (some A) xs.length cap ∧ K.rd s.w es (at_ xs i) (fun b => memb C (s.g b) = true) ∧ CeF s (A.add (i.toNat * K.n)) es C := by
  obtain ⟨v', e1, A, cap, cells, e2, hcap, hels, hc⟩ := hF
  obtain rfl : v = v' := by simpa using e1
  have hi : i.toNat < xs.length := by omega
  have hlen := hels.len
  have hK := Nat.le_of_ble_eq_true hn
  have hpos : 0 < cells.length := by rw [hlen]; exact Nat.mul_pos (by omega) hK
  obtain ⟨ad, rfl, hF, hcell⟩ := hc (fun h => by rw [h] at hpos; simp at hpos)
  refine ⟨ad, cap, _, e2, (by rw [at_eq xs i hi]; exact hels.at_ i.toNat hi), ?_, fun j u hj => ?_⟩
  · show memb C (s.g (ad.add _).block) = true
    rw [add_block]; exact hF
  · rw [Addr.add_add']
    refine hcell _ _ ?_
    rw [List.getElem?_take] at hj
    split at hj
    · rw [List.getElem?_drop] at hj; exact hj
    · cases hj
theorem ix {α : Type} [Inhabited α] {te t : TypeId} {K : Kd α} {v : Value} {xs : List α} {C : List Nat} {kk : IntKind} {ii : Int} {X I : Operand} (hF : RdF (Kd.sl te K) s [v] xs C) (hu : P.underlying t = some (.slice te)) (hs : (P.info? te).map (·.size) = some K.n) (hn : Nat.ble 1 K.n = true)
    (ho : ops[i]? = some o) (hd : o.dst = some d) (hN : Nat.blt d N = true) (hw : Region.wanted o (yv e ops) = true) (hop : o.op = .indexAddr t X I) (hX : ev e X = v) (hI : ev e I = .int kk ii)
    (h : ∀ ad es, 0 ≤ ii → ii < xs.length → RdF K s es (at_ xs ii) C → CeF s ad es C → IxA v K.n ii ad → TM P f N m G R (.inRegion ops rest :: k) (upd e d (.pointer (some ad))) s.w) :
    TM P f N (if 0 ≤ ii ∧ ii < xs.length then m else none) G R (.inRegion ops (i :: rest) :: k) e s.w := by
  refine mg fun hg => ?_
  obtain ⟨A, cap, es, hv, hrd, hce⟩ := rd_elem hF hn hg.1 hg.2
  refine vl (v := .pointer (some (A.add (ii.toNat * K.n)))) ho hd hN hw ?_ (h _ es hg.1 hg.2 hrd hce ⟨A, _, cap, hv, rfl⟩)
  have h1 := hg.1
  have h2 := hg.2
  simp [execOp, hop, hX, hI, Instr.indexAt, asIntOf, run_underlying hu, hv, h1, h2, size_run hs, Result.andThen]
theorem ix' {α : Type} [Inhabited α] {te t : TypeId} {K : Kd α} {v : Value} {xs : List α} {C : List Nat} {kk : IntKind} {ii : Int} {X I : Operand} (hF : RdF (Kd.sl te K) s [v] xs C) (hu : P.underlying t = some (.slice te)) (hs : (P.info? te).map (·.size) = some K.n) (t3 : E8 (Nat.ble 1 K.n) (true) (ops[i]?) (some o) (o.dst) (some d) (Nat.blt d N) (true) (Region.wanted o (yv e ops)) (true) (o.op) (.indexAddr t X I) (ev e X) (v) (ev e I) (.int kk ii)) (h : ∀ ad es, 0 ≤ ii → ii < xs.length → RdF K s es (at_ xs ii) C → CeF s ad es C → IxA v K.n ii ad → TM P f N m G R (.inRegion ops rest :: k) (upd e d (.pointer (some ad))) s.w) : TM P f N (if 0 ≤ ii ∧ ii < xs.length then m else none) G R (.inRegion ops (i :: rest) :: k) e s.w := ix hF hu hs (e8_ t3).1 (e8_ t3).2.1 (e8_ t3).2.2.1 (e8_ t3).2.2.2.1 (e8_ t3).2.2.2.2.1 (e8_ t3).2.2.2.2.2.1 (e8_ t3).2.2.2.2.2.2.1 (e8_ t3).2.2.2.2.2.2.2 h
theorem lc {t q : Nat} {dd : TypeDesc} {x : Operand} {ad : Addr} {es : List Value} {C : List Nat} {v : Value} (hC : CeF s ad es C) (hu : P.underlying t = some dd)
    (ho : ops[i]? = some o) (hd : o.dst = some d) (hN : Nat.blt d N = true) (hw : Region.wanted o (yv e ops) = true) (hop : o.op = .load t x) (hr : dd.isRow = false) (hx : ev e x = .pointer (some (ad.add q))) (hv : es[q]? = some v)
    (h : TM P f N m G R (.inRegion ops rest :: k) (upd e d v) s.w) : TM P f N m G R (.inRegion ops (i :: rest) :: k) e s.w :=
  vl ho hd hN hw (by simp [execOp, hop, hx, load_run hu hr (hC.2 q v hv), Result.andThen]) h
theorem add_zero (a : Addr) : a.add 0 = a := by simp [Addr.add]
theorem lc0 {t : Nat} {dd : TypeDesc} {x : Operand} {ad : Addr} {es : List Value} {C : List Nat} {v : Value} (hC : CeF s ad es C) (hu : P.underlying t = some dd)
    (ho : ops[i]? = some o) (hd : o.dst = some d) (hN : Nat.blt d N = true) (hw : Region.wanted o (yv e ops) = true) (hop : o.op = .load t x) (hr : dd.isRow = false) (hx : ev e x = .pointer (some ad)) (hv : es[0]? = some v)
    (h : TM P f N m G R (.inRegion ops rest :: k) (upd e d v) s.w) : TM P f N m G R (.inRegion ops (i :: rest) :: k) e s.w :=
  vl ho hd hN hw (by have := hC.2 0 v hv; rw [add_zero] at this; simp [execOp, hop, hx, load_run hu hr this, Result.andThen]) h
theorem lca {t : Nat} {dd : TypeDesc} {x : Operand} {ad : Addr} {es : List Value} {C : List Nat} (hC : CeF s ad es C) (hu : P.underlying t = some dd) (hs : (P.info? t).map (·.size) = some es.length)
    (ho : ops[i]? = some o) (hd : o.dst = some d) (hN : Nat.blt d N = true) (hw : Region.wanted o (yv e ops) = true) (hop : o.op = .load t x) (hr : dd.isRow = true) (hx : ev e x = .pointer (some ad))
    (h : TM P f N m G R (.inRegion ops rest :: k) (upd e d (.agg es.toArray)) s.w) : TM P f N m G R (.inRegion ops (i :: rest) :: k) e s.w :=
  vl ho hd hN hw (by simp [execOp, hop, hx, loadAgg_run hu hr hs hC.2, Result.andThen]) h
theorem ln {α : Type} {te t : TypeId} {K : Kd α} {v : Value} {xs : List α} {C : List Nat} {x : Operand} (hF : RdF (Kd.sl te K) s [v] xs C) (hu : P.underlying t = some (.slice te))
    (ho : ops[i]? = some o) (hd : o.dst = some d) (hN : Nat.blt d N = true) (hw : Region.wanted o (yv e ops) = true) (hop : o.op = .call { callee := .builtin .len, args := #[x], argTypes := #[t] }) (hx : ev e x = v)
    (h : TM P f N m G R (.inRegion ops rest :: k) (upd e d (.int .i64 (xs.length : Int))) s.w) : TM P f N m G R (.inRegion ops (i :: rest) :: k) e s.w := by
  obtain ⟨v', e1, A, cap, cells, e2, _⟩ := hF
  obtain rfl : v = v' := by simpa using e1
  exact vl ho hd hN hw (by simp [execOp, hop, resolve, invoke, builtin, Builtin.len_, hx, e2, run_underlying hu, goInt, Result.andThen]) h
theorem ln' {α : Type} {te t : TypeId} {K : Kd α} {v : Value} {xs : List α} {C : List Nat} {x : Operand} (hF : RdF (Kd.sl te K) s [v] xs C) (hu : P.underlying t = some (.slice te)) (t2 : E6 (ops[i]?) (some o) (o.dst) (some d) (Nat.blt d N) (true) (Region.wanted o (yv e ops)) (true) (o.op) (.call { callee := .builtin .len, args := #[x], argTypes := #[t] }) (ev e x) (v)) (h : TM P f N m G R (.inRegion ops rest :: k) (upd e d (.int .i64 (xs.length : Int))) s.w) : TM P f N m G R (.inRegion ops (i :: rest) :: k) e s.w := ln hF hu (e6_ t2).1 (e6_ t2).2.1 (e6_ t2).2.2.1 (e6_ t2).2.2.2.1 (e6_ t2).2.2.2.2.1 (e6_ t2).2.2.2.2.2 h
theorem cv {t1 t2 : TypeId} {k1 k2 k3 : IntKind} {n : Int} {x : Operand} (hu : P.underlying t2 = some (.int k2)) (hu1 : P.underlying t1 = some (.int k1))
    (ho : ops[i]? = some o) (hd : o.dst = some d) (hN : Nat.blt d N = true) (hw : Region.wanted o (yv e ops) = true) (hop : o.op = .convert t1 t2 x) (hx : ev e x = .int k3 n)
    (h : TM P f N m G R (.inRegion ops rest :: k) (upd e d (.int k2 (k2.wrap n))) s.w) : TM P f N m G R (.inRegion ops (i :: rest) :: k) e s.w :=
  vl ho hd hN hw (by simp [execOp, hop, hx, convert, run_underlying hu, run_underlying hu1, Conv.intToInt, Result.andThen]) h
theorem shr_ {t1 t2 : TypeId} {k1 k2 : IntKind} {a b : Int} {x y : Operand}
    (ho : ops[i]? = some o) (hd : o.dst = some d) (hN : Nat.blt d N = true) (hw : Region.wanted o (yv e ops) = true) (hop : o.op = .binOp .shr t1 x y t2) (hx : ev e x = .int k1 a) (hy : ev e y = .int k2 b)
    (h : TM P f N m G R (.inRegion ops rest :: k) (upd e d (.int k1 (ishr k1 a b))) s.w) : TM P f N (if 0 ≤ b then m else none) G R (.inRegion ops (i :: rest) :: k) e s.w :=
  mg fun hg => vl ho hd hN hw (by have : ¬ b < 0 := by omega
                                  simp [execOp, hop, hx, hy, binOp, eqGuard, Op.shift, this, ishr, Result.andThen]) h
theorem shl_ {t1 t2 : TypeId} {k1 k2 : IntKind} {a b : Int} {x y : Operand}
    (ho : ops[i]? = some o) (hd : o.dst = some d) (hN : Nat.blt d N = true) (hw : Region.wanted o (yv e ops) = true) (hop : o.op = .binOp .shl t1 x y t2) (hx : ev e x = .int k1 a) (hy : ev e y = .int k2 b)
    (h : TM P f N m G R (.inRegion ops rest :: k) (upd e d (.int k1 (ishl k1 a b))) s.w) : TM P f N (if 0 ≤ b then m else none) G R (.inRegion ops (i :: rest) :: k) e s.w :=
  mg fun hg => vl ho hd hN hw (by have : ¬ b < 0 := by omega
                                  simp [execOp, hop, hx, hy, binOp, eqGuard, Op.shift, this, ishl, Result.andThen]) h
theorem rem_ {t1 t2 : TypeId} {k1 : IntKind} {a b : Int} {x y : Operand}
    (ho : ops[i]? = some o) (hd : o.dst = some d) (hN : Nat.blt d N = true) (hw : Region.wanted o (yv e ops) = true) (hop : o.op = .binOp .rem t1 x y t2) (hx : ev e x = .int k1 a) (hy : ev e y = .int k1 b)
    (h : TM P f N m G R (.inRegion ops rest :: k) (upd e d (.int k1 (a.tmod b))) s.w) : TM P f N (if b ≠ 0 then m else none) G R (.inRegion ops (i :: rest) :: k) e s.w :=
  mg fun hg => vl ho hd hN hw (by simp [execOp, hop, hx, hy, binOp, eqGuard, Op.intDiv, hg, Result.andThen]) h
end
end Go.Proofs.YtlpbggnpiogioaaGreat.V
set_option linter.unusedVariables false
set_option linter.unusedSimpArgs false
namespace Go.Proofs.YtlpbggnpiogioaaGreat.V
open Go
def FlK {α : Type} (K : Kd α) : Prop := ∀ w cs x F, K.rd w cs x F → ∀ w', K.ow w' cs x []
theorem fl_flat {α : Type} {val : α → Value} {h : ∀ x, (val x).oneCell' = true} : FlK (Kd.flat val h) := fun _ _ _ _ h _ => ⟨h, rfl⟩
theorem Yd {k : IntKind} : FlK (Kd.int k) := fl_flat
theorem FlK.els {α : Type} {K : Kd α} (hK : FlK K) {w : World} {F : Nat → Prop} (w' : World) : ∀ {xs : List α} {cs : List Value}, ElsR K w F xs cs → ElsO K w' xs cs []
 | [], cs, h => ⟨h, rfl⟩
 | x :: xs, cs, ⟨c1, c2, e, h1, h2⟩ => ⟨c1, c2, [], [], e, rfl, hK _ _ _ _ h1 w', hK.els w' h2⟩
theorem FlK.os {α : Type} {K : Kd α} (hK : FlK K) {w : World} : ∀ {xs : List α} {cs : List Value} {os : List Nat}, ElsO K w xs cs os → ElsO K w xs cs [] := fun h => hK.els w h.rd
def SlT (P : Program) (t te n : Nat) : Prop := P.underlying t = some (.slice te) ∧ ∃ z by_, (P.info? te).map (fun i => (i.zero, i.size, i.bytes)) = some (some z, n, by_) ∧ z.cells.size = n ∧ 0 < n ∧ by_ ≤ 32768
theorem SlT.mk {P : Program} {t te n by_ : Nat} {z : Value} (hu : P.underlying t = some (.slice te)) (hi : (P.info? te).map (fun i => (i.zero, i.size, i.bytes)) = some (some z, n, by_)) (hz : z.cells.size = n) (hn : Nat.ble 1 n = true) (hb : Nat.ble by_ 32768 = true) : SlT P t te n :=
 ⟨hu, z, by_, hi, hz, Nat.le_of_ble_eq_true hn, Nat.le_of_ble_eq_true hb⟩
theorem ow_nil {α : Type} (te : TypeId) (K : Kd α) (s : St) (c : Nat) : OwF (Kd.sl te K) s [.slice none 0 0] ([] : List α) c :=
 ⟨[], ⟨_, rfl, [], [], [], rfl, ⟨by simp, .inl ⟨rfl, rfl, rfl⟩⟩, ⟨rfl, rfl⟩⟩, List.nodup_nil, fun b hb => by cases hb⟩
theorem rd_nil {α : Type} (te : TypeId) (K : Kd α) (s : St) (C : List Nat) : RdF (Kd.sl te K) s [.slice none 0 0] ([] : List α) C :=
 ⟨_, rfl, none, 0, [], rfl, Nat.le_refl _, rfl, fun h => absurd rfl h⟩
theorem rw_nil {α : Type} (te : TypeId) (K : Kd α) (s : St) (c : Nat) (C : List Nat) : RwF te K s (.slice none 0 0) ([] : List α) c C :=
 ⟨[], [], ⟨by simp, .inl ⟨rfl, rfl, rfl⟩⟩, (fun b hb => nomatch hb), rfl⟩
section
variable {P : Program} {w : World}
theorem append_none_run (t ty te : TypeId) (v : Value) (n size cap : Nat) (xs : List Value) {os : List Nat} (ht : P.underlying t = some (.slice te)) (hs : (P.info? te).map (·.size) = some size) (hown : RowAt w te size v n xs os) :
    (Builtin.append_ #[t, t] ty #[v, .slice none 0 cap]).run P w = .ok v w := by
  obtain ⟨i, hi, hss⟩ := Option.map_eq_some_iff.1 hs
  rcases hown.2 with ⟨rfl, rfl, _⟩ | ⟨g, cap', cur, rfl, _, hnc, _⟩
  · simp [Builtin.append_, run_underlying ht, sizeOf, typeInfo, hi, Builtin.lenOf, Builtin.firstCells]
  · simp [Builtin.append_, run_underlying ht, sizeOf, typeInfo, hi, Builtin.lenOf, Builtin.firstCells, hnc, storeCells]
theorem setCells_hr (g : Nat) {e : TypeId} : ∀ (vs : List Value) (o : Nat) (w : World) (cur : Array Value), Hr w g cur e → o + vs.length ≤ cur.size → ∃ cur', Hr (w.setCells g o vs) g cur' e ∧ cur'.size = cur.size ∧ cur'.toList.take (o + vs.length) = cur.toList.take o ++ vs ∧ ∀ j, j < o → cur'[j]? = cur[j]?
 | [], o, w, cur, h, _ => ⟨cur, h, rfl, by simp, fun _ _ => rfl⟩
 | v :: vs, o, w, cur, h, hl => by
  simp only [List.length_cons] at hl
  obtain ⟨cur', h2, h3, h4, h5⟩ := setCells_hr g vs (o + 1) (w.setCell ⟨g, o, none⟩ v) _ (h.set o v) (by rw [Array.size_setIfInBounds]; omega)
  refine ⟨cur', h2, by rw [h3]; simp, ?_, fun j hj => ?_⟩
  · rw [List.length_cons, show o + (vs.length + 1) = o + 1 + vs.length by omega, h4]
    have : (cur.setIfInBounds o v).toList.take (o + 1) = cur.toList.take o ++ [v] := by
     rw [Array.toList_setIfInBounds, List.take_set, List.take_succ_eq_append_getElem (by simpa using (show o < cur.size by omega))]
     rw [List.set_append_right _ _ (by simp; omega)]
     simp
     have : o - min o cur.size = 0 := by omega
     rw [this]; rfl
    rw [this]; simp
  · rw [h5 j (by omega), Array.getElem?_setIfInBounds_ne (by omega)]
theorem setCells_grown (g : Nat) : ∀ (vs : List Value) (o : Nat) (w : World), w.grownBy (w.setCells g o vs) (some g)
 | [], o, w => ⟨rfl, rfl, rfl, Nat.le_refl _, fun _ _ _ => rfl⟩
 | v :: vs, o, w => by
  have h := setCells_grown g vs (o + 1) (w.setCell ⟨g, o, none⟩ v)
  have hsz : (w.setCell ⟨g, o, none⟩ v).heap.size = w.heap.size := by simp [World.setCell]
  refine ⟨h.os, h.tape, h.output, by have := h.size; rw [hsz] at this; exact this, fun k hk hne => ?_⟩
  have h2 := h.block k (by rw [hsz]; exact hk) hne
  refine h2.trans (heap_setCell_other w ⟨g, o, none⟩ k v fun e => hne (by rw [e]))
theorem append_room {t te ty n : Nat} {i : TypeInfo} (ht : P.underlying t = some (.slice te)) (hi : P.info? te = some i) (hs : i.size = n) {g cap lx ly c : Nat} {cur : Array Value} {cells cells' : List Value} (hH : Hr w g cur te) (hcm : cap ≤ maxLen) (hcs : cur.size = cap * n) (htk : cur.toList.take (lx * n) = cells) (hlx : cells.length = lx * n)
    (a : Addr) (hl : cells'.length = ly * n) (hnews : ∀ j u, cells'[j]? = some u → w.cell? (a.add j) = some u) (h1 : ∀ u ∈ cells', u.oneCell' = true) (hroom : lx + ly ≤ cap) :
    (Builtin.append_ #[t, t] ty #[.slice (some ⟨g, 0, none⟩) lx cap, .slice (some a) ly c]).run P w = .ok (.slice (some ⟨g, 0, none⟩) (lx + ly) cap) (w.setCells g (lx * n) cells') ∧
      RowAt (w.setCells g (lx * n) cells') te n (.slice (some ⟨g, 0, none⟩) (lx + ly) cap) (lx + ly) (cells ++ cells') [g] := by
  have hmul : (lx + ly) * n ≤ cap * n := Nat.mul_le_mul_right _ hroom
  rw [Nat.add_mul] at hmul
  subst hs
  have hr := run_append_room_cells (P := P) w t ty te i ht hi g 0 lx cap a ly c cells' hl hnews h1 hroom (fun j hj => by
    rw [hH.cell, Array.getElem?_eq_getElem (by rw [hcs]; omega)]; rfl) (fun j hj => hH.free _ (by rw [hcs]; omega))
  rw [Nat.zero_add] at hr
  refine ⟨hr, ?_⟩
  obtain ⟨cur', h2, h3, h4, _⟩ := setCells_hr g cells' (lx * i.size) w cur hH (by omega)
  refine ⟨by rw [List.length_append, hlx, hl, Nat.add_mul], .inr ⟨g, cap, cur', rfl, h2, hroom, hcm, by rw [h3]; exact hcs, ?_, rfl⟩⟩
  rw [show (lx + ly) * i.size = lx * i.size + cells'.length by rw [hl, Nat.add_mul], h4, htk]
def SlV (w : World) (u : Value) (l n : Nat) (cells : List Value) : Prop :=
 ∃ A cap, u = .slice A l cap ∧ cells.length = l * n ∧ (∀ x ∈ cells, x.oneCell' = true) ∧ (cells ≠ [] → ∃ ad, A = some ad ∧ ∀ j u, cells[j]? = some u → w.cell? (ad.add j) = some u)
theorem slRd.slv {α : Type} {K : Kd α} {u : Value} {ys : List α} {F : Nat → Prop} (h : slRd K w u ys F) : ∃ cells, SlV w u ys.length K.n cells ∧ ElsR K w F ys cells := by
 obtain ⟨A, cap, cells, rfl, hcap, hels, hc⟩ := h
 exact ⟨cells, ⟨A, cap, rfl, hels.len, hels.one, fun hne => by obtain ⟨ad, e, _, h⟩ := hc hne; exact ⟨ad, e, h⟩⟩, hels⟩
theorem RowAt.slv {e : TypeId} {size : Nat} {v : Value} {n : Nat} {cells : List Value} {os : List Nat} (h : RowAt w e size v n cells os) (h1 : ∀ x ∈ cells, x.oneCell' = true) : SlV w v n size cells := by
 obtain ⟨A, cap, hu, hcap, hc⟩ := h.cells
 exact ⟨A, cap, hu, h.1, h1, fun hne => by obtain ⟨g, e, _, h⟩ := hc hne; exact ⟨_, e, h⟩⟩
theorem append_core {t te ty : TypeId} {n : Nat} {v u : Value} {lx ly : Nat} {cells cells' : List Value} {os : List Nat} (hT : SlT P t te n) (hR : RowAt w te n v lx cells os) (hS : SlV w u ly n cells') (hl : lx + ly ≤ Lim) :
    ∃ v' w', (Builtin.append_ #[t, t] ty #[v, u]).run P w = .ok v' w' ∧ RowAt w' te n v' (lx + ly) (cells ++ cells') (Value.blk v') ∧ w.grownBy w' v.ownBlock ∧ (∀ b ∈ Value.blk v', b ∈ os ∨ w.heap.size ≤ b) := by
  obtain ⟨hu, z, by_, hi, hz, hn, hb⟩ := hT
  obtain ⟨A, cap, rfl, hlen, hone, hc⟩ := hS
  obtain ⟨ti, hti, hzz⟩ := Option.map_eq_some_iff.1 hi
  simp only [Prod.mk.injEq] at hzz
  have hlim : lx + ly ≤ maxLen := by unfold Lim at hl; simp only [maxLen]; omega
  have hbytes : (lx + ly) * by_ ≤ 140737488355328 := by unfold Lim at hl; have : (lx + ly) * by_ ≤ 4294967296 * 32768 := Nat.mul_le_mul hl hb; omega
  cases A with
  | none =>
    have hnil : cells' = [] := by
      cases cells' with
      | nil => rfl
      | cons u us =>
        obtain ⟨ad, h, _⟩ := hc (by simp)
        cases h
    subst hnil
    have hy : ly = 0 := by
      rcases Nat.mul_eq_zero.1 (show ly * n = 0 from hlen.symm) with h | h
      · exact h
      · omega
    subst hy
    refine ⟨v, w, append_none_run t ty te v _ _ _ _ hu (by rw [hti]; simp [hzz.2.1]) hR, ?_, World.grownBy.refl _ _, ?_⟩
    · rcases hR.2 with ⟨rfl, h2, h3⟩ | ⟨g, cap', cur, rfl, h2, h3, h4, h5, h6, h7⟩
      · exact ⟨by simpa using hR.1, .inl ⟨rfl, by omega, rfl⟩⟩
      · exact ⟨by simpa using hR.1, .inr ⟨g, cap', cur, rfl, h2, h3, h4, h5, by simpa using h6, rfl⟩⟩
    · intro b hb
      rcases hR.2 with ⟨rfl, _⟩ | ⟨g, cap', cur, rfl, _, _, _, _, _, e7⟩
      · cases hb
      · left; rw [e7]; exact hb
  | some ad =>
    have hnews : ∀ j u, cells'[j]? = some u → w.cell? (ad.add j) = some u := fun j u hj => by
      obtain ⟨ad', e, h⟩ := hc (fun h => by rw [h] at hj; simp at hj)
      obtain rfl := Option.some.inj e
      exact h j u hj
    rcases hR.2 with ⟨rfl, h2, h3⟩ | ⟨g, cap', cur, rfl, h2, h3, h4, h5, h6, h7⟩
    · have hx : cells = [] := List.eq_nil_of_length_eq_zero (by rw [hR.1, h2]; simp)
      subst hx
      subst h2
      obtain ⟨v', w', hr, g2, g3, _, g4⟩ := run_append_own_at (P := P) w 0 t ty te ti z n by_ hu hti hzz.1 hzz.2.1 hzz.2.2 hz hn (.slice none 0 0) 0 [] (World.ownsRow_nil w 0 te n) ad ly cap cells' hlen hnews hone hlim hbytes (Nat.zero_le _)
      refine ⟨v', w', hr, RowAt.of_owns g2, g3, fun b hb => ?_⟩
      right
      rcases g2.2 with ⟨rfl, _⟩ | ⟨g, cap', cur, rfl, _⟩
      · cases hb
      · rcases g4 with g4 | g4
        · cases g4
        · simp [Value.blk] at hb; simp [Value.ownBlock] at g4; omega
    · by_cases hroom : lx + ly ≤ cap'
      · obtain ⟨hr, hrow⟩ := append_room (P := P) (ty := ty) (c := cap) hu hti hzz.2.1 h2 h4 h5 h6 hR.1 ad hlen hnews hone hroom
        exact ⟨_, _, hr, hrow, setCells_grown g _ _ _, fun b hb => .inl (by rw [h7]; exact hb)⟩
      · obtain ⟨v', w', hr, g2, g3⟩ := run_append_arg_grows (P := P) w t ty te ti z n by_ hu hti hzz.1 hzz.2.1 hzz.2.2 hz hn ⟨g, 0, none⟩ lx cap' cells hR.1 (RowAt.at_ hR rfl) ad ly cap cells' hlen hnews (by omega) hlim hbytes
        refine ⟨v', w', hr, RowAt.of_owns g2, ⟨g3.os, g3.tape, g3.output, g3.size, fun k hk _ => g3.block k hk (by simp)⟩, fun b hb => ?_⟩
        right
        rcases g2.2 with ⟨rfl, _⟩ | ⟨g', cap'', cur', rfl, hge, _⟩
        · cases hb
        · simp [Value.blk] at hb; omega
end
section
variable {P : Program} {f : Who} {N : Nat} {O ρ : Type} {m : Option O} {G : O → Option ρ} {R : ρ → Ending → World → Prop} {e : Env} {s : St} {k : List Item} {ops : Array Oper} {i d : Nat} {rest : List Nat} {o : Oper}
theorem blk_own {w : World} {e : TypeId} {size : Nat} {v : Value} {n : Nat} {cells : List Value} {os : List Nat} (h : RowAt w e size v n cells os) {b : Nat} (hb : v.ownBlock = some b) : b ∈ os := by
 rcases h.2 with ⟨rfl, _⟩ | ⟨g, cap', cur, rfl, _, _, _, _, _, e7⟩
 · cases hb
 · rw [e7]; simp [Value.ownBlock] at hb; simp [hb]
theorem grown_st {w' : World} {row : Option Nat} (c d : Nat) (hg : s.w.grownBy w' row) (hr : ∀ b, row = some b → s.g b = c) (hd : Nat.ble 40 d = true) :
    ∃ s' : St, s'.w = w' ∧ Stp [c, d] s s' ∧ (∀ b, b < s.w.heap.size → s'.g b = if s.g b = d then c else s.g b) ∧ (∀ b, s.w.heap.size ≤ b → s'.g b = c) := by
  have hd' := Nat.le_of_ble_eq_true hd
  refine ⟨⟨w', fun b => if b < s.w.heap.size then (if s.g b = d then c else s.g b) else c⟩, rfl, ⟨hg.os, hg.tape, hg.output, hg.size, fun b hb hl => ?_, fun b hb hm => ?_⟩, fun b hb => ?_, fun b hb => ?_⟩
  · have : ¬ s.g b = d := by omega
    simp [hb, this]
  · simp only [memb, Bool.or_eq_false_iff] at hm
    have h1 : s.g b ≠ c := fun h => by rw [h] at hm; simp at hm
    have h2 : ¬ s.g b = d := fun h => by rw [h] at hm; simp at hm
    refine ⟨by simp [hb, h2], hg.block b hb fun h => h1 (hr b h.symm)⟩
  · simp [hb]
  · have : ¬ b < s.w.heap.size := by omega
    simp [this]
theorem apF {α : Type} {K : Kd α} {t te : TypeId} {x y : Operand} {v u : Value} {xs ys : List α} {c : Nat} {C : List Nat} (hK : FlK K) (hT : SlT P t te K.n) (hD : OwF (Kd.sl te K) s [v] xs c) (hS : RdF (Kd.sl te K) s [u] ys C)
    (ho : ops[i]? = some o) (hd : o.dst = some d) (hN : Nat.blt d N = true) (hw : Region.wanted o (yv e ops) = true) (hop : o.op = .call { callee := .builtin .append, args := #[x, y], argTypes := #[t, t] }) (hx : ev e x = v) (hy : ev e y = u)
    (h : ∀ v' s', Stp [c] s s' → OwF (Kd.sl te K) s' [v'] (xs ++ ys) c → TM P f N m G R (.inRegion ops rest :: k) (upd e d v') s'.w) :
    TM P f N (if xs.length + ys.length ≤ Lim then m else none) G R (.inRegion ops (i :: rest) :: k) e s.w := by
  refine mg fun hl => ?_
  obtain ⟨os, ⟨v1, e1, cells, o1, o2, rfl, hR, hE⟩, hnd, hcol⟩ := hD
  obtain rfl : v = v1 := by simpa using e1
  obtain ⟨u1, e2, hS⟩ := hS
  obtain rfl : u = u1 := by simpa using e2
  obtain ⟨cells', hSv, hE'⟩ := hS.slv
  obtain ⟨v', w', hr, hR', hg, hb⟩ := append_core (P := P) (ty := o.type) hT hR hSv hl
  refine vl (v := v') (w' := w') ho hd hN hw (by simp [execOp, hop, resolve, invoke, builtin, hx, hy, hr, Result.andThen]) ?_
  have hp : ∃ s' : St, s'.w = w' ∧ Stp [c] s s' ∧ (∀ b, b < s.w.heap.size → s'.g b = s.g b) ∧ (∀ b, s.w.heap.size ≤ b → s'.g b = c) := by
    refine ⟨⟨w', fun b => if b < s.w.heap.size then s.g b else c⟩, rfl, ⟨hg.os, hg.tape, hg.output, hg.size, fun b hb _ => by simp [hb], fun b hb hm => ⟨by simp [hb], hg.block b hb fun h => ?_⟩⟩, fun b hb => by simp [hb], fun b hb => ?_⟩
    · have := hcol b (List.mem_append_left _ (blk_own hR h.symm))
      rw [this] at hm; simp [memb] at hm
    · have : ¬ b < s.w.heap.size := by omega
      simp [this]
  obtain ⟨s', rfl, p, hold, hnew⟩ := hp
  refine h v' s' p ⟨Value.blk v' ++ [], ⟨v', rfl, cells ++ cells', Value.blk v', [], rfl, by rw [List.length_append]; exact hR', hK.els _ (((hE.rd.mono (F' := fun _ => True) fun _ _ _ => trivial)).append (hE'.mono (F' := fun _ => True) fun _ _ _ => trivial))⟩, ?_, fun b hb' => ?_⟩
  · unfold Value.blk; split <;> simp
  · simp at hb'
    rcases hb b hb' with h1 | h1
    · rw [hold b (hR.lt b h1)]; exact hcol b (List.mem_append_left _ h1)
    · exact hnew b h1
theorem apO {α : Type} {K : Kd α} {t te : TypeId} {x y : Operand} {v u : Value} {xs ys : List α} {c d' : Nat} (hT : SlT P t te K.n) (hD : OwF (Kd.sl te K) s [v] xs c) (hS : OwF (Kd.sl te K) s [u] ys d') (hcd : Nat.beq c d' = false) (h10 : Nat.ble 40 d' = true)
    (ho : ops[i]? = some o) (hd : o.dst = some d) (hN : Nat.blt d N = true) (hw : Region.wanted o (yv e ops) = true) (hop : o.op = .call { callee := .builtin .append, args := #[x, y], argTypes := #[t, t] }) (hx : ev e x = v) (hy : ev e y = u)
    (h : ∀ v' s', Stp [c, d'] s s' → OwF (Kd.sl te K) s' [v'] (xs ++ ys) c → TM P f N m G R (.inRegion ops rest :: k) (upd e d v') s'.w) :
    TM P f N (if xs.length + ys.length ≤ Lim then m else none) G R (.inRegion ops (i :: rest) :: k) e s.w := by
  refine mg fun hl => ?_
  have hcd' : c ≠ d' := fun h => by subst h; simp at hcd
  obtain ⟨os, ⟨v1, e1, cells, o1, o2, rfl, hR, hE⟩, hnd, hcol⟩ := hD
  obtain rfl : v = v1 := by simpa using e1
  obtain ⟨ps, ⟨u1, e2, ucells, p1, p2, rfl, hUR, hUE⟩, hnd2, hcol2⟩ := hS
  obtain rfl : u = u1 := by simpa using e2
  obtain ⟨v', w', hr, hR', hg, hb⟩ := append_core (P := P) (ty := o.type) hT hR (hUR.slv hUE.rd.one) hl
  refine vl (v := v') (w' := w') ho hd hN hw (by simp [execOp, hop, resolve, invoke, builtin, hx, hy, hr, Result.andThen]) ?_
  obtain ⟨s', rfl, p, hold, hnew⟩ := grown_st c d' hg (fun b hb => hcol b (List.mem_append_left _ (blk_own hR hb))) h10
  have hdis : ∀ b, b ∈ o1 ++ o2 → b ∉ p1 ++ p2 := fun b h1 h2 => hcd' ((hcol b h1).symm.trans (hcol2 b h2))
  have hlt1 : ∀ b ∈ o2, b < s.w.heap.size := hE.lt
  have hlt2 : ∀ b ∈ p2, b < s.w.heap.size := hUE.lt
  have hnd' := List.nodup_append.1 hnd
  have hnd2' := List.nodup_append.1 hnd2
  have hne : ∀ b, (b ∈ o2 ∨ b ∈ p2) → b < s.w.heap.size → s'.w.heap[b]? = s.w.heap[b]? := by
    intro b hb' hl'
    refine hg.block b hl' fun h => ?_
    have h1 := blk_own hR h.symm
    rcases hb' with hb' | hb'
    · exact hnd'.2.2 b h1 b hb' rfl
    · exact hdis b (List.mem_append_left _ h1) (List.mem_append_right _ hb')
  refine h v' s' p ⟨Value.blk v' ++ (o2 ++ p2), ⟨v', rfl, cells ++ ucells, Value.blk v', o2 ++ p2, rfl, by rw [List.length_append]; exact hR', (hE.frame fun b hb hl => hne b (.inl hb) hl).append (hUE.frame fun b hb hl => hne b (.inr hb) hl)⟩, ?_, fun b hb' => ?_⟩
  · have hvn : (Value.blk v').Nodup := by unfold Value.blk; split <;> simp
    refine List.nodup_append.2 ⟨hvn, List.nodup_append.2 ⟨hnd'.2.1, hnd2'.2.1, fun a ha b hb' hab => ?_⟩, fun a ha b hb' hab => ?_⟩
    · subst hab; exact hdis a (List.mem_append_right _ ha) (List.mem_append_right _ hb')
    · subst hab
      rcases List.mem_append.1 hb' with hb' | hb'
      · rcases hb a ha with h1 | h1
        · exact hnd'.2.2 a h1 a hb' rfl
        · have := hlt1 a hb'; omega
      · rcases hb a ha with h1 | h1
        · exact hdis a (List.mem_append_left _ h1) (List.mem_append_right _ hb')
        · have := hlt2 a hb'; omega
  · rcases List.mem_append.1 hb' with hb' | hb'
    · rcases hb b hb' with h1 | h1
      · rw [hold b (hR.lt b h1), hcol b (List.mem_append_left _ h1), if_neg hcd']
      · exact hnew b h1
    · rcases List.mem_append.1 hb' with hb' | hb'
      · rw [hold b (hlt1 b hb'), hcol b (List.mem_append_right _ hb'), if_neg hcd']
      · rw [hold b (hlt2 b hb'), hcol2 b (List.mem_append_right _ hb'), if_pos rfl]
end
section
variable {P : Program} {f : Who} {N : Nat} {O ρ : Type} {m : Option O} {G : O → Option ρ} {R : ρ → Ending → World → Prop} {e : Env} {s : St} {k : List Item} {ops : Array Oper} {i d : Nat} {rest : List Nat} {o : Oper}
theorem new_row {w' : World} {te n l : Nat} {cells : Array Value} (c : Nat) (hw : w' = s.w.alloc (.cells cells te)) (hl : cells.size = l * n) (hm : l ≤ maxLen) :
    ∃ s' : St, s'.w = w' ∧ Stp [] s s' ∧ Nw s s' c ∧ RowAt s'.w te n (.slice (some ⟨s.w.heap.size, 0, none⟩) l l) l cells.toList [s.w.heap.size] := by
  obtain ⟨s', hs', p, nn⟩ := s.made (.cells cells te) c
  refine ⟨s', hs'.trans hw.symm, p, nn, by simpa using hl, .inr ⟨_, l, cells, rfl, .mk (by rw [hs']; exact heap_alloc_new s.w _), Nat.le_refl _, hm, hl, ?_, rfl⟩⟩
  exact List.take_of_length_le (by simp [hl])
theorem made_succ (z : Array Value) (l : Nat) (hz : 0 < z.size) : (madeCells z ((l + 1) * z.size)).toList = (madeCells z (l * z.size)).toList ++ z.toList := by
 apply List.ext_getElem?
 intro j
 rw [List.getElem?_append]
 have hL : ∀ q, j < q → (madeCells z q).toList[j]? = z[j % z.size]? := by
  intro q hq
  have hmod : j % z.size < z.size := Nat.mod_lt _ hz
  simp [madeCells, hq, getElem!_pos, hmod]
 have hn : ∀ q, ¬ j < q → (madeCells z q).toList[j]? = none := fun q hq => List.getElem?_eq_none (by simp [madeCells]; omega)
 by_cases h1 : j < l * z.size
 · rw [if_pos (by simpa [madeCells] using h1), hL _ h1, hL _ (by rw [Nat.add_mul]; omega)]
 · rw [if_neg (by simpa [madeCells] using h1)]
   have hs : (madeCells z (l * z.size)).toList.length = l * z.size := by simp [madeCells]
   rw [hs]
   by_cases h2 : j < (l + 1) * z.size
   · rw [hL _ h2]
     have : j % z.size = j - l * z.size := by
      have e : j = (j - l * z.size) + l * z.size := by omega
      have h3 : j - l * z.size < z.size := by rw [Nat.add_mul] at h2; omega
      conv => lhs; rw [e]
      rw [Nat.add_mul_mod_self_right, Nat.mod_eq_of_lt h3]
     rw [this]; simp
   · rw [hn _ h2, List.getElem?_eq_none (by rw [Nat.add_mul] at h2; simp; omega)]
theorem made_els {α : Type} {K : Kd α} {z : Array Value} {x0 : α} (hz : z.size = K.n) (hn : 0 < K.n) (h0 : ∀ w, K.ow w z.toList x0 []) (w : World) : ∀ l, ElsO K w (List.replicate l x0) (madeCells z (l * K.n)).toList []
 | 0 => by simp [madeCells, ElsO]
 | l + 1 => by
  rw [← hz, made_succ z l (by omega), List.replicate_succ', hz]
  exact ElsO.append (os := []) (ps := []) (made_els hz hn h0 w l) ⟨_, [], [], [], by simp, rfl, h0 w, rfl, rfl⟩
theorem mk {α : Type} {K : Kd α} {t te : TypeId} {k1 k2 : IntKind} {n : Int} {z : Value} {x0 : α} {x y : Operand} (c : Nat) (hT : SlT P t te K.n) (hz : (P.info? te).bind (·.zero) = some z) (h0 : ∀ w, K.ow w z.cells.toList x0 [])
    (ho : ops[i]? = some o) (hd : o.dst = some d) (hN : Nat.blt d N = true) (hw : Region.wanted o (yv e ops) = true) (hop : o.op = .makeSlice t x y) (hx : ev e x = .int k1 n) (hy : ev e y = .int k2 n)
    (h : ∀ v s', Stp [] s s' → OwF (Kd.sl te K) s' [v] (List.replicate n.toNat x0) c → TM P f N m G R (.inRegion ops rest :: k) (upd e d v) s'.w) :
    TM P f N (if 0 ≤ n ∧ n ≤ (Lim : Int) then m else none) G R (.inRegion ops (i :: rest) :: k) e s.w := by
  refine mg fun hg => ?_
  obtain ⟨hu, z', by_, hi, hz', hn, hb⟩ := hT
  obtain ⟨ti, hti, hzz⟩ := Option.map_eq_some_iff.1 hi
  simp only [Prod.mk.injEq] at hzz
  obtain rfl : z' = z := by rw [hti] at hz; simp [hzz.1] at hz; exact hz
  obtain ⟨l, rfl⟩ := Int.eq_ofNat_of_zero_le hg.1
  have hl : l ≤ 4294967296 := by have := hg.2; unfold Lim at this; omega
  have hlb : ti.bytes * l ≤ 32768 * 4294967296 := Nat.mul_le_mul (by rw [hzz.2.2]; exact hb) hl
  have hlb' : (ti.bytes : Int) * (l : Int) ≤ 281474976710656 := by
    have h : ((ti.bytes * l : Nat) : Int) ≤ 281474976710656 := by omega
    rwa [Int.natCast_mul] at h
  obtain ⟨s', hs', p, nn, hrow⟩ := new_row (s := s) (te := te) (n := K.n) (l := l) (cells := madeCells z'.cells (l * K.n)) c rfl (by simp [madeCells]) (by simp only [maxLen]; omega)
  refine vl (v := .slice (some ⟨s.w.heap.size, 0, none⟩) l l) (w' := s'.w) ho hd hN hw ?_ (h _ s' p ?_)
  · rw [hs']
    have hr := run_make (P := P) s.w t te ti z' hu hti hzz.1 k1 k2 l l (by omega) (Int.le_refl _) hlb' (by omega)
    simp only [Int.toNat_natCast, hzz.2.1] at hr
    simp [execOp, hop, hx, hy, hr, Result.andThen]
  · simp only [Int.toNat_natCast]
    refine ⟨[s.w.heap.size] ++ [], ⟨_, rfl, _, _, [], rfl, by simpa using hrow, made_els hz' hn h0 _ l⟩, by simp, fun b hb => ?_⟩
    simp at hb; subst hb; exact nn.new _ (Nat.le_refl _)
def sets : List Value → Nat → List Value → List Value
 | cs, _, [] => cs
 | cs, q, v :: vs => sets (cs.set q v) (q + 1) vs
theorem sets_fold (vs : List Value) : ∀ (q j : Nat) (cs : List Value), (vs.zipIdx j).foldl (fun (c : Array Value) (x : Value × Nat) => c.setIfInBounds (q + x.2) x.1) cs.toArray = (sets cs (q + j) vs).toArray := by
 induction vs with
 | nil => intro q j cs; rfl
 | cons v vs ih =>
  intro q j cs
  simp only [List.zipIdx_cons, List.foldl_cons, sets]
  rw [show cs.toArray.setIfInBounds (q + j) v = (cs.set (q + j) v).toArray by simp, ih, Nat.add_assoc]
def lfill (place : Nat → Option (Nat × Nat)) : List Value → List (Nat × Value) → Option (List Value)
 | cells, [] => some cells
 | cells, (i, v) :: rest =>
  match place i with
  | none => none
  | some (off, size) => if v.cells.toList.length ≠ size ∨ off + v.cells.toList.length > cells.length then none else lfill place (sets cells off v.cells.toList) rest
theorem lfill_eq (place : Nat → Option (Nat × Nat)) : ∀ (parts : List (Nat × Value)) (cells cells' : List Value), lfill place cells parts = some cells' → Instr.fill place cells.toArray parts = some cells'.toArray
 | [], cells, cells', h => by simp [lfill] at h; subst h; rfl
 | (i, v) :: rest, cells, cells', h => by
  simp only [lfill] at h
  unfold Instr.fill
  cases hp : place i with
  | none => rw [hp] at h; cases h
  | some p =>
   obtain ⟨off, size⟩ := p
   rw [hp] at h
   simp only [] at h ⊢
   split at h
   · cases h
   · rename_i hne
     have h1 : ¬ (v.cells.size ≠ size || decide (off + v.cells.size > cells.toArray.size)) = true := by simpa using hne
     simp only [Array.length_toList, List.size_toArray] at hne h1 ⊢
     have h2 : (decide (v.cells.size ≠ size) || decide (off + v.cells.size > cells.length)) = false := by
      simp only [Bool.or_eq_false_iff, decide_eq_false_iff_not]
      exact ⟨fun h => hne (.inl h), fun h => hne (.inr h)⟩
     have h3 : (v.cells.size ≠ size ∨ off + v.cells.size > cells.length) = False := by simp only [eq_iff_iff, iff_false]; exact hne
     simp only [Bool.or_eq_true, decide_eq_true_eq, h3, if_false]
     have hf := sets_fold v.cells.toList off 0 cells
     rw [Nat.add_zero] at hf
     have hz : v.cells.zipIdx.foldl (fun cs (c, j) => cs.setIfInBounds (off + j) c) cells.toArray = (sets cells off v.cells.toList).toArray := by
      rw [← hf]
      rw [← Array.foldl_toList]
      simp
     rw [hz]
     exact lfill_eq place rest _ _ h
def lfillC (place : Nat → Option (Nat × Nat)) : List Value → List (Nat × List Value) → Option (List Value)
 | cells, [] => some cells
 | cells, (i, us) :: rest =>
  match place i with
  | none => none
  | some (off, size) => if us.length ≠ size ∨ off + us.length > cells.length then none else lfillC place (sets cells off us) rest
def PC : List (Nat × Value) → List (Nat × List Value) → Prop
 | [], ps => ps = []
 | (i, v) :: l, ps => ∃ us qs, ps = (i, us) :: qs ∧ v.cells = us.toArray ∧ PC l qs
theorem pc_n : PC [] [] := rfl
theorem Yh {i : Nat} {v : Value} {us : List Value} {l : List (Nat × Value)} {ps : List (Nat × List Value)} (h : v.cells = us.toArray) (h2 : PC l ps) : PC ((i, v) :: l) ((i, us) :: ps) := ⟨us, ps, rfl, h, h2⟩
theorem oc {v : Value} (h : v.oneCell' = true) : v.cells = [v].toArray := by cases v <;> first | rfl | cases h
theorem Xx {place : Nat → Option (Nat × Nat)} : ∀ {l : List (Nat × Value)} {ps : List (Nat × List Value)} {z cells : List Value}, PC l ps → lfillC place z ps = some cells → lfill place z l = some cells
 | [], ps, z, cells, h, h2 => by
  obtain rfl : ps = [] := h
  exact h2
 | (i, v) :: l, ps, z, cells, h, h2 => by
  obtain ⟨us, qs, rfl, hv, hq⟩ := h
  have hv' : v.cells.toList = us := by rw [hv]
  simp only [lfillC] at h2
  simp only [lfill, hv']
  cases hp : place i with
  | none => rw [hp] at h2; cases h2
  | some p =>
   obtain ⟨off, size⟩ := p
   rw [hp] at h2
   simp only [] at h2 ⊢
   split at h2
   · cases h2
   · rename_i hne
     rw [if_neg hne]
     exact Xx hq h2
theorem made_flat (z : Array Value) (hz : 0 < z.size) : ∀ l, madeCells z (l * z.size) = ((List.replicate l z.toList).flatten).toArray
 | 0 => by simp [madeCells]
 | l + 1 => by
  apply Array.ext'
  rw [made_succ z l hz, made_flat z hz l, List.replicate_succ']
  simp
theorem lit_run {t te l n : Nat} {z : Value} {parts : Array (Nat × Operand)} {cells : List Value} (hu : P.underlying t = some (.slice te)) (hs : (P.info? te).map (·.size) = some n) (hz : (P.info? te).bind (·.zero) = some z) (hln : Nat.ble (l * n) 16777216 = true) (hpos : Nat.ble 1 (l * n) = true)
    (hzn : z.cells.toList.length = n)
    (hfill : lfill (fun i => some (i * n, n)) (List.replicate l z.cells.toList).flatten (parts.toList.map fun (i, x) => (i, ev e x)) = some cells) (hop : o.op = .buildSlice t l parts) :
    (execOp (ev e) o).run P s.w = .ok (.value (.slice (some ⟨s.w.heap.size, 0, none⟩) l l)) (s.w.alloc (.cells cells.toArray te)) := by
  have h1 : ¬ l * n > 2 ^ 24 := by have := Nat.le_of_ble_eq_true hln; omega
  have h2 : ¬ l * n = 0 := by have := Nat.le_of_ble_eq_true hpos; omega
  have hrow : (newRow te cells.toArray).run P s.w = .ok ⟨s.w.heap.size, 0, none⟩ (s.w.alloc (.cells cells.toArray te)) := by simp [newRow, newObj]; rfl
  have hn0 : 0 < z.cells.size := by
    have h4 := Nat.le_of_ble_eq_true hpos
    have : z.cells.size = n := by simpa using hzn
    rw [this]
    exact Nat.pos_of_ne_zero fun h => by rw [h] at h4; simp at h4
  have hfl := lfill_eq _ _ _ _ hfill
  have hmf := made_flat z.cells hn0 l
  rw [← hmf, show z.cells.size = n by simpa using hzn] at hfl
  have : (Instr.buildSlice t l (parts.map fun (i, x) => (i, ev e x))).run P s.w = .ok (.slice (some ⟨s.w.heap.size, 0, none⟩) l l) (s.w.alloc (.cells cells.toArray te)) := by
    unfold Instr.buildSlice
    rw [Sem.run_bind', run_underlying hu]
    simp only [Result.andThen]
    rw [Sem.run_bind', size_run hs]
    simp only [Result.andThen, if_neg h1, if_neg h2]
    rw [Sem.run_bind', zero_run hz]
    simp only [Result.andThen]
    rw [Sem.run_bind']
    simp only [Result.andThen, Sem.run_pure]
    unfold madeCells at hfl
    simp only [] at hfl
    simp only [Array.toList_map, hfl]
    rw [Sem.run_bind', hrow]
    rfl
  simp [execOp, hop, this, Result.andThen]
theorem ltF {α : Type} {K : Kd α} {t te l : Nat} {z : Value} {parts : Array (Nat × Operand)} {cells : List Value} (xs : List α) (c : Nat) (hK : FlK K) (hu : P.underlying t = some (.slice te)) (hs : (P.info? te).map (·.size) = some K.n) (hz : (P.info? te).bind (·.zero) = some z) (hE : ∀ w, ElsR K w (fun _ => True) xs cells)
    (ho : ops[i]? = some o) (hd : o.dst = some d) (hN : Nat.blt d N = true) (hw : Region.wanted o (yv e ops) = true) (hop : o.op = .buildSlice t l parts) (hln : Nat.ble (l * K.n) 16777216 = true) (hpos : Nat.ble 1 (l * K.n) = true) (hl : xs.length = l)
    (hzn : z.cells.toList.length = K.n) (hfill : lfill (fun i => some (i * K.n, K.n)) (List.replicate l z.cells.toList).flatten (parts.toList.map fun (i, x) => (i, ev e x)) = some cells)
    (h : ∀ v s', Stp [] s s' → OwF (Kd.sl te K) s' [v] xs c → TM P f N m G R (.inRegion ops rest :: k) (upd e d v) s'.w) :
    TM P f N m G R (.inRegion ops (i :: rest) :: k) e s.w := by
  have hlen := (hE s.w).len
  have h2 := Nat.le_of_ble_eq_true hln
  have h3 := Nat.le_of_ble_eq_true hpos
  have hn : 0 < K.n := Nat.pos_of_ne_zero fun h => by rw [h] at h3; simp at h3
  obtain ⟨s', hs', p, nn, hrow⟩ := new_row (s := s) (te := te) (n := K.n) (l := l) (cells := cells.toArray) c rfl (by simp [hlen, hl]) (by have : l * 1 ≤ l * K.n := Nat.mul_le_mul_left _ hn; simp only [maxLen]; omega)
  refine vl (w' := s'.w) ho hd hN hw (by rw [hs']; exact lit_run hu hs hz hln hpos hzn hfill hop) (h _ s' p ?_)
  subst hl
  refine ⟨[s.w.heap.size] ++ [], ⟨_, rfl, _, _, [], rfl, by simpa using hrow, by simpa using hK.els _ (hE s.w)⟩, by simp, fun b hb => ?_⟩
  simp at hb; subst hb; exact nn.new _ (Nat.le_refl _)
theorem ltF' {α : Type} {K : Kd α} {t te l : Nat} {z : Value} {parts : Array (Nat × Operand)} {cells : List Value} (xs : List α) (c : Nat) (hK : FlK K) (hu : P.underlying t = some (.slice te)) (hs : (P.info? te).map (·.size) = some K.n) (hz : (P.info? te).bind (·.zero) = some z) (hE : ∀ w, ElsR K w (fun _ => True) xs cells) (t7 : E10 (ops[i]?) (some o) (o.dst) (some d) (Nat.blt d N) (true) (Region.wanted o (yv e ops)) (true) (o.op) (.buildSlice t l parts) (Nat.ble (l * K.n) 16777216) (true) (Nat.ble 1 (l * K.n)) (true) (xs.length) (l) (z.cells.toList.length) (K.n) (lfill (fun i => some (i * K.n, K.n)) (List.replicate l z.cells.toList).flatten (parts.toList.map fun (i, x) => (i, ev e x))) (some cells)) (h : ∀ v s', Stp [] s s' → OwF (Kd.sl te K) s' [v] xs c → TM P f N m G R (.inRegion ops rest :: k) (upd e d v) s'.w) : TM P f N m G R (.inRegion ops (i :: rest) :: k) e s.w := ltF xs c hK hu hs hz hE (e10_ t7).1 (e10_ t7).2.1 (e10_ t7).2.2.1 (e10_ t7).2.2.2.1 (e10_ t7).2.2.2.2.1 (e10_ t7).2.2.2.2.2.1 (e10_ t7).2.2.2.2.2.2.1 (e10_ t7).2.2.2.2.2.2.2.1 (e10_ t7).2.2.2.2.2.2.2.2.1 (e10_ t7).2.2.2.2.2.2.2.2.2 h
theorem ltR {α : Type} {K : Kd α} {t te l : Nat} {z : Value} {parts : Array (Nat × Operand)} {cells : List Value} (xs : List α) (c : Nat) (C : List Nat) (hc : memb C c = false) (hu : P.underlying t = some (.slice te)) (hs : (P.info? te).map (·.size) = some K.n) (hz : (P.info? te).bind (·.zero) = some z) (hE : ElsR K s.w (fun b => memb C (s.g b) = true) xs cells)
    (ho : ops[i]? = some o) (hd : o.dst = some d) (hN : Nat.blt d N = true) (hw : Region.wanted o (yv e ops) = true) (hop : o.op = .buildSlice t l parts) (hln : Nat.ble (l * K.n) 16777216 = true) (hpos : Nat.ble 1 (l * K.n) = true) (hl : xs.length = l)
    (hzn : z.cells.toList.length = K.n) (hfill : lfill (fun i => some (i * K.n, K.n)) (List.replicate l z.cells.toList).flatten (parts.toList.map fun (i, x) => (i, ev e x)) = some cells)
    (h : ∀ v s', Stp [] s s' → RwF te K s' v xs c C → TM P f N m G R (.inRegion ops rest :: k) (upd e d v) s'.w) :
    TM P f N m G R (.inRegion ops (i :: rest) :: k) e s.w := by
  have hlen := hE.len
  have h2 := Nat.le_of_ble_eq_true hln
  have h3 := Nat.le_of_ble_eq_true hpos
  have hn : 0 < K.n := Nat.pos_of_ne_zero fun h => by rw [h] at h3; simp at h3
  obtain ⟨s', hs', p, nn, hrow⟩ := new_row (s := s) (te := te) (n := K.n) (l := l) (cells := cells.toArray) c rfl (by simp [hlen, hl]) (by have : l * 1 ≤ l * K.n := Nat.mul_le_mul_left _ hn; simp only [maxLen]; omega)
  refine vl (w' := s'.w) ho hd hN hw (by rw [hs']; exact lit_run hu hs hz hln hpos hzn hfill hop) (h _ s' p ?_)
  subst hl
  refine ⟨_, _, by simpa using hrow, fun b hb => by simp at hb; subst hb; exact nn.new _ (Nat.le_refl _), ?_⟩
  have := (hE.mono (F' := fun b => b < s.w.heap.size ∧ memb C (s.g b) = true) fun b hb hl => ⟨hl, hb⟩).frame (w' := s'.w) fun b hb hl => (p.same b hl rfl).2
  exact this.mono fun b hb _ => by rw [nn.old b hb.1]; exact hb.2
theorem el_nil {α : Type} {K : Kd α} {w : World} {F : Nat → Prop} : ElsR K w F [] [] := rfl
theorem el_cons {α : Type} {K : Kd α} {s : St} {C : List Nat} {x : α} {xs : List α} {c1 c2 : List Value} (h1 : RdF K s c1 x C) (h2 : ElsR K s.w (fun b => memb C (s.g b) = true) xs c2) : ElsR K s.w (fun b => memb C (s.g b) = true) (x :: xs) (c1 ++ c2) := ⟨c1, c2, rfl, h1, h2⟩
theorem els_flat {α : Type} {val : α → Value} {hv : ∀ x, (val x).oneCell' = true} (w : World) (F : Nat → Prop) : ∀ xs : List α, ElsR (Kd.flat val hv) w F xs (xs.map val)
 | [] => rfl
 | x :: xs => ⟨[val x], xs.map val, rfl, rfl, els_flat w F xs⟩
end
end Go.Proofs.YtlpbggnpiogioaaGreat.V
set_option linter.unusedVariables false
set_option linter.unusedSimpArgs false
namespace Go.Proofs.YtlpbggnpiogioaaGreat.V
open Go
section
variable {P : Program} {w : World}
theorem cut_run {t te n : Nat} {A : Option Addr} {len cap a b : Nat} {lo hi : Option Value} (hu : P.underlying t = some (.slice te)) (hs : (P.info? te).map (·.size) = some n) (hab : a ≤ b) (hb : b ≤ cap)
    (hlo : (lo = none ∧ a = 0) ∨ ∃ k, lo = some (.int k a)) (hhi : (hi = none ∧ b = len) ∨ ∃ k, hi = some (.int k b)) :
    (Instr.sliceAt t (.slice A len cap) lo hi none).run P w = .ok (.slice (if cap = a then A else A.map (·.add (a * n))) (b - a) (cap - a)) w := by
  have hb' : (0 : Int) ≤ (b : Int) ∧ (b : Int) ≤ (cap : Int) := by omega
  have ha' : (0 : Int) ≤ (a : Int) ∧ (a : Int) ≤ (b : Int) := by omega
  have hbounds : (Instr.sliceBounds true len cap lo hi none).run P w = .ok (a, b, cap) w := by
    rcases hlo with ⟨rfl, rfl⟩ | ⟨k1, rfl⟩ <;> rcases hhi with ⟨rfl, rfl⟩ | ⟨k2, rfl⟩ <;> simp [Instr.sliceBounds, Instr.sliceBound, asIntOf, Result.andThen, hab, hb]
  unfold Instr.sliceAt
  rw [Sem.run_bind', run_underlying hu]
  simp only [Result.andThen]
  unfold Instr.slice
  rw [Sem.run_bind', run_underlying hu]
  simp only [Result.andThen]
  rw [Sem.run_bind', hbounds]
  simp only [Result.andThen]
  rw [Sem.run_bind', size_run hs]
  simp [Result.andThen]
theorem cut_rd {α : Type} {K : Kd α} {A : Option Addr} {cap : Nat} {xs : List α} {F : Nat → Prop} (h : slRd K w (.slice A xs.length cap) xs F) {a b : Nat} (hab : a ≤ b) (hb : b ≤ xs.length) :
    slRd K w (.slice (if cap = a then A else A.map (·.add (a * K.n))) (b - a) (cap - a)) ((xs.take b).drop a) F := by
  obtain ⟨A', cap', cells, e, hcap, hels, hc⟩ := h
  simp only [Value.slice.injEq, true_and] at e
  obtain ⟨rfl, rfl⟩ := e
  have hl : ((xs.take b).drop a).length = b - a := by simp; omega
  refine ⟨_, cap - a, (cells.take (b * K.n)).drop (a * K.n), by rw [hl], by rw [hl]; omega, (hels.take b).drop a, fun hne => ?_⟩
  have hcl := hels.len
  have hne' : cells ≠ [] := fun h => hne (by simp [h])
  obtain ⟨ad, rfl, hF, hcell⟩ := hc hne'
  have hlt : a < cap := by
    rcases Nat.lt_or_ge a b with h | h
    · omega
    · exfalso; apply hne
      have : a = b := by omega
      subst this
      simp
  rw [if_neg (by omega)]
  refine ⟨ad.add (a * K.n), rfl, by rw [add_block]; exact hF, fun j u hj => ?_⟩
  rw [Addr.add_add']
  rw [List.getElem?_drop, List.getElem?_take] at hj
  split at hj
  · exact hcell _ _ hj
  · cases hj
end
section
variable {P : Program} {f : Who} {N : Nat} {O ρ : Type} {m : Option O} {G : O → Option ρ} {R : ρ → Ending → World → Prop} {e : Env} {s : St} {k : List Item} {ops : Array Oper} {i d : Nat} {rest : List Nat} {o : Oper}
theorem sl_core {α : Type} {K : Kd α} {t te : TypeId} {v : Value} {xs : List α} {C : List Nat} {x : Operand} {lo hi : Option Operand} {a b : Nat} (hF : RdF (Kd.sl te K) s [v] xs C) (hu : P.underlying t = some (.slice te)) (hs : (P.info? te).map (·.size) = some K.n)
    (ho : ops[i]? = some o) (hd : o.dst = some d) (hN : Nat.blt d N = true) (hw : Region.wanted o (yv e ops) = true) (hop : o.op = .slice t x lo hi none) (hx : ev e x = v) (hab : a ≤ b) (hb : b ≤ xs.length)
    (hlo : (lo.map (ev e) = none ∧ a = 0) ∨ ∃ k, lo.map (ev e) = some (.int k a)) (hhi : (hi.map (ev e) = none ∧ b = xs.length) ∨ ∃ k, hi.map (ev e) = some (.int k b))
    (h : ∀ v', RdF (Kd.sl te K) s [v'] ((xs.take b).drop a) C → TM P f N m G R (.inRegion ops rest :: k) (upd e d v') s.w) : TM P f N m G R (.inRegion ops (i :: rest) :: k) e s.w := by
  obtain ⟨v1, e1, hS⟩ := hF
  obtain rfl : v = v1 := by simpa using e1
  obtain ⟨A, cap, cells, hv, hcap, hels, hc⟩ := hS
  subst hv
  have hcut := cut_run (P := P) (w := s.w) (A := A) (len := xs.length) (cap := cap) hu hs hab (by omega) hlo hhi
  exact vl ho hd hN hw (by simp [execOp, hop, hx, hcut, Result.andThen]) (h _ ⟨_, rfl, cut_rd ⟨A, cap, cells, rfl, hcap, hels, hc⟩ hab hb⟩)
theorem sla {α : Type} {K : Kd α} {t te : TypeId} {v : Value} {xs : List α} {C : List Nat} {x p : Operand} {k1 : IntKind} {a : Int} (hF : RdF (Kd.sl te K) s [v] xs C) (hu : P.underlying t = some (.slice te)) (hs : (P.info? te).map (·.size) = some K.n)
    (ho : ops[i]? = some o) (hd : o.dst = some d) (hN : Nat.blt d N = true) (hw : Region.wanted o (yv e ops) = true) (hop : o.op = .slice t x (some p) none none) (hx : ev e x = v) (hp : ev e p = .int k1 a)
    (h : ∀ v', RdF (Kd.sl te K) s [v'] (xs.drop a.toNat) C → TM P f N m G R (.inRegion ops rest :: k) (upd e d v') s.w) : TM P f N (if 0 ≤ a ∧ a ≤ xs.length then m else none) G R (.inRegion ops (i :: rest) :: k) e s.w := by
  refine mg fun hg => ?_
  obtain ⟨a, rfl⟩ := Int.eq_ofNat_of_zero_le hg.1
  refine sl_core (a := a) (b := xs.length) hF hu hs ho hd hN hw hop hx (by have := hg.2; omega) (Nat.le_refl _) (.inr ⟨k1, by simp [hp]⟩) (.inl ⟨rfl, rfl⟩) fun v' hv' => h v' (by simpa using hv')
theorem slh {α : Type} {K : Kd α} {t te : TypeId} {v : Value} {xs : List α} {C : List Nat} {x q : Operand} {k2 : IntKind} {b : Int} (hF : RdF (Kd.sl te K) s [v] xs C) (hu : P.underlying t = some (.slice te)) (hs : (P.info? te).map (·.size) = some K.n)
    (ho : ops[i]? = some o) (hd : o.dst = some d) (hN : Nat.blt d N = true) (hw : Region.wanted o (yv e ops) = true) (hop : o.op = .slice t x none (some q) none) (hx : ev e x = v) (hq : ev e q = .int k2 b)
    (h : ∀ v', RdF (Kd.sl te K) s [v'] (xs.take b.toNat) C → TM P f N m G R (.inRegion ops rest :: k) (upd e d v') s.w) : TM P f N (if 0 ≤ b ∧ b ≤ xs.length then m else none) G R (.inRegion ops (i :: rest) :: k) e s.w := by
  refine mg fun hg => ?_
  obtain ⟨b, rfl⟩ := Int.eq_ofNat_of_zero_le hg.1
  refine sl_core (a := 0) (b := b) hF hu hs ho hd hN hw hop hx (Nat.zero_le _) (by have := hg.2; omega) (.inl ⟨rfl, rfl⟩) (.inr ⟨k2, by simp [hq]⟩) fun v' hv' => h v' (by simpa using hv')
def CellSet {α : Type} (K : Kd α) (q : Nat) (u : Value) (x x' : α) : Prop := q < K.n ∧ u.oneCell' = true ∧ ∀ w cs os, K.ow w cs x os → K.ow w (cs.set q u) x' os
theorem cs_flat {α : Type} {val : α → Value} {hv : ∀ x, (val x).oneCell' = true} {x x' : α} : CellSet (Kd.flat val hv) 0 (val x') x x' :=
 ⟨Nat.one_pos, hv _, fun w cs os h => by obtain ⟨rfl, rfl⟩ := h; exact ⟨rfl, rfl⟩⟩
theorem cs_left {α β : Type} {A : Kd α} {B : Kd β} {q : Nat} {u : Value} {x x' : α} {y : β} (h : CellSet A q u x x') : CellSet (Kd.pair A B) q u (x, y) (x', y) :=
 ⟨Nat.lt_of_lt_of_le h.1 (Nat.le_add_right _ _), h.2.1, fun w cs os ⟨c1, c2, o1, o2, e, e', h1, h2⟩ => ⟨c1.set q u, c2, o1, o2, by
  subst e; have := A.rd_len (A.ow_rd h1); have := h.1; rw [List.set_append]; simp; omega, e', h.2.2 w c1 o1 h1, h2⟩⟩
theorem cs_right {α β : Type} {A : Kd α} {B : Kd β} {q : Nat} {u : Value} {x : α} {y y' : β} (h : CellSet B q u y y') : CellSet (Kd.pair A B) (A.n + q) u (x, y) (x, y') :=
 ⟨Nat.add_lt_add_left h.1 _, h.2.1, fun w cs os ⟨c1, c2, o1, o2, e, e', h1, h2⟩ => ⟨c1, c2.set q u, o1, o2, by
  subst e; have hl := A.rd_len (A.ow_rd h1); rw [List.set_append, if_neg (by omega), hl]; congr 2; omega, e', h1, h.2.2 w c2 o2 h2⟩⟩
theorem cs_iso {α β : Type} {A : Kd α} {g : β → α} {q : Nat} {u : Value} {x x' : β} (h : CellSet A q u (g x) (g x')) : CellSet (Kd.iso A g) q u x x' := h
theorem so {α : Type} [Inhabited α] {K : Kd α} {t te q : Nat} {x y : Operand} {v u : Value} {xs : List α} {c : Nat} {ii : Int} {ad : Addr} {x' : α} (hO : OwF (Kd.sl te K) s [v] xs c) (hA : IxA v K.n ii ad) (h0 : 0 ≤ ii) (h1 : ii < xs.length) (hC : CellSet K q u (at_ xs ii) x') (hs : (P.info? t).map (·.size) = some 1)
    (ho : ops[i]? = some o) (hd : o.dst = none) (hw : Region.wanted o (yv e ops) = true) (hop : o.op = .store t x y) (hx : ev e x = .pointer (some (ad.add q))) (hy : ev e y = u)
    (h : ∀ s', Stp [c] s s' → OwF (Kd.sl te K) s' [v] (xs.set ii.toNat x') c → TM P f N m G R (.inRegion ops rest :: k) e s'.w) : TM P f N m G R (.inRegion ops (i :: rest) :: k) e s.w := by
  obtain ⟨os, ⟨v1, e1, cells, o1, o2, rfl, hR, hE⟩, hnd, hcol⟩ := hO
  obtain rfl : v = v1 := by simpa using e1
  obtain ⟨A, l, cap, hv, rfl⟩ := hA
  obtain ⟨hl, hR2⟩ := hR
  have hi : ii.toNat < xs.length := by omega
  rcases hR2 with ⟨h2, _⟩ | ⟨g, cap', cur, h2, hg, hlc, hcm, hsz, htk, rfl⟩
  · rw [h2] at hv; cases hv
  · rw [h2] at hv
    simp only [Value.slice.injEq, Option.some.injEq] at hv
    obtain ⟨rfl, rfl, rfl⟩ := hv
    obtain ⟨p1, p2, p3, rfl, hK, hset⟩ := hE.at_ ii.toNat hi
    rw [at_eq xs ii hi] at hC
    have hq := hC.1
    have hmul : (ii.toNat + 1) * K.n ≤ xs.length * K.n := Nat.mul_le_mul_right _ hi
    rw [Nat.add_mul] at hmul
    have hcapm : xs.length * K.n ≤ cap' * K.n := Nat.mul_le_mul_right _ hlc
    have had : ((⟨g, 0, none⟩ : Addr).add (ii.toNat * K.n)).add q = ⟨g, ii.toNat * K.n + q, none⟩ := by rw [Addr.add_add', Addr.add_mid]; simp
    have hgc := hcol g (by simp)
    refine vd (w' := s.w.setCell ⟨g, ii.toNat * K.n + q, none⟩ u) ho hd hw ?_ (h ⟨s.w.setCell ⟨g, ii.toNat * K.n + q, none⟩ u, s.g⟩ ⟨rfl, rfl, rfl, by simp [World.setCell], fun _ _ _ => rfl, fun b' hb hm => ⟨rfl, ?_⟩⟩ ?_)
    · rw [had] at hx
      have hst := store_run (P := P) (w := s.w) (o := ii.toNat * K.n + q) hs hC.2.1 hg (by rw [hsz]; omega)
      simp [execOp, hop, hx, hy, hst, Result.andThen]
    · have hne : b' ≠ g := by
        intro h; subst h; rw [hgc] at hm; simp [memb] at hm
      exact heap_setCell_other s.w ⟨g, _, none⟩ b' u (fun e => hne e)
    · have hnd' := List.nodup_cons.1 (show (g :: (p1 ++ p2 ++ p3)).Nodup from hnd)
      have hagr : ∀ b, b ∈ p1 ++ p2 ++ p3 → (s.w.setCell ⟨g, ii.toNat * K.n + q, none⟩ u).heap[b]? = s.w.heap[b]? := fun b hb => heap_setCell_other s.w ⟨g, _, none⟩ b u (fun e => hnd'.1 (by rw [← show b = g from e]; exact hb))
      have hK' := hC.2.2 _ _ _ (K.ow_frame hK fun b hb _ => hagr b (by simp [hb]))
      have hnew := hset (s.w.setCell ⟨g, ii.toNat * K.n + q, none⟩ u) _ x' p2 hK' fun b hb _ => hagr b (by simp at hb ⊢; rcases hb with hb | hb <;> simp [hb])
      refine ⟨[g] ++ (p1 ++ p2 ++ p3), ⟨v, rfl, _, [g], _, rfl, ?_, hnew⟩, hnd, hcol⟩
      have hcl : cells.length = xs.length * K.n := hl
      have hcells : cells.take (ii.toNat * K.n) ++ ((cells.drop (ii.toNat * K.n)).take K.n).set q u ++ cells.drop ((ii.toNat + 1) * K.n) = cells.set (ii.toNat * K.n + q) u := by
        have e1 : cells = cells.take (ii.toNat * K.n) ++ ((cells.drop (ii.toNat * K.n)).take K.n ++ cells.drop ((ii.toNat + 1) * K.n)) := by
          rw [Nat.add_mul, Nat.one_mul, ← List.drop_drop, List.take_append_drop, List.take_append_drop]
        conv => rhs; rw [e1]
        rw [List.set_append, if_neg (by simp; omega), List.set_append, if_pos (by simp; omega)]
        simp only [List.length_take]
        rw [show ii.toNat * K.n + q - min (ii.toNat * K.n) cells.length = q by omega]
        simp
      refine ⟨by rw [List.length_set, hcells, List.length_set]; exact hl, .inr ⟨g, cap', cur.setIfInBounds (ii.toNat * K.n + q) u, by rw [List.length_set]; exact h2, ?_, by simpa using hlc, hcm, by simpa using hsz, ?_, rfl⟩⟩
      · exact hg.set _ u
      · rw [hcells, ← htk, Array.toList_setIfInBounds, List.take_set, List.length_set]
def PlF (P : Program) (t : Nat) (pl : Array (Nat × Nat)) : Prop := ∃ fs, P.underlying t = some (.struct fs) ∧ ∀ w : World, (fs.mapM fun (f : Field) => do pure (f.offset, ← sizeOf f.type) : Sem (Array (Nat × Nat))).run P w = .ok pl w
theorem bd {t : Nat} {parts : Array (Nat × Operand)} {z : Value} {pl : Array (Nat × Nat)} {cells : List Value} (hpl : PlF P t pl) (hz : (P.info? t).bind (·.zero) = some z)
    (ho : ops[i]? = some o) (hd : o.dst = some d) (hN : Nat.blt d N = true) (hw : Region.wanted o (yv e ops) = true) (hop : o.op = .build t parts) (hfill : lfill (pl[·]?) z.cells.toList (parts.toList.map fun (i, x) => (i, ev e x)) = some cells)
    (h : TM P f N m G R (.inRegion ops rest :: k) (upd e d (.agg cells.toArray)) s.w) : TM P f N m G R (.inRegion ops (i :: rest) :: k) e s.w :=
  vl ho hd hN hw (by
    obtain ⟨fs, hu, hpl⟩ := hpl
    have : (Instr.build t (parts.map fun (i, x) => (i, ev e x))).run P s.w = .ok (.agg cells.toArray) s.w := by
      have hfl := lfill_eq _ _ _ _ hfill
      unfold Instr.build
      rw [Sem.run_bind', zero_run hz]
      simp only [Result.andThen]
      rw [Sem.run_bind', run_underlying hu]
      simp only [Result.andThen]
      rw [Sem.run_bind', hpl]
      simp only [Result.andThen]
      simp only [] at hfl
      simp only [Array.toList_map, hfl]
      rfl
    simp [execOp, hop, this, Result.andThen]) h
def ovr (ds : List Nat) (junk e : Env) : Env := fun t => bif memb ds t then junk t else e t
def Ag (ds : List Nat) (e e' : Env) : Prop := ∀ t, memb ds t = false → e' t = e t
theorem Ag.refl (ds : List Nat) (e : Env) : Ag ds e e := fun _ _ => rfl
theorem Ag.put {ds : List Nat} {e e' : Env} {d : Nat} {v : Value} (h : Ag ds e e') (hd : memb ds d = true) : Ag ds e (upd e' d v) := fun t ht => by
 have : t ≠ d := fun h => by rw [h, hd] at ht; cases ht
 rw [upd_ne _ _ _ _ this]; exact h t ht
theorem Ag.ovr {ds : List Nat} {e e' : Env} (h : Ag ds e e') : e' = V.ovr ds e' e := by
 funext t
 unfold V.ovr
 cases hm : memb ds t with
 | true => rfl
 | false => exact h t hm
theorem jb {α : Type} {x : Option α} {km : α → Option O} {todo : List Item} {w : World} (J : ∀ Gj : α → Option ρ, Gj = (fun a => (km a).bind G) → TM P f N x Gj R todo e w) : TM P f N (x.bind km) G R todo e w := by
 intro o ho r hr
 obtain ⟨a, ha, hk⟩ := Option.bind_eq_some_iff.1 ho
 exact J _ rfl a ha r (by show (km a).bind G = some r; rw [hk]; exact hr)
theorem jn {α : Type} {a : α} {km : α → Option O} {todo : List Item} {w : World} (h : TM P f N (km a) G R todo e w) : TM P f N (some a) (fun a => (km a).bind G) R todo e w := by
 intro o ho r hr
 obtain rfl := Option.some.inj ho
 obtain ⟨o', ho', hr'⟩ := Option.bind_eq_some_iff.1 hr
 exact h o' ho' r hr'
end
end Go.Proofs.YtlpbggnpiogioaaGreat.V
set_option linter.unusedVariables false
set_option linter.unusedSimpArgs false
namespace Go.Proofs.YtlpbggnpiogioaaGreat.V
open Go
def ResL (P : Program) (w : World) (e : Env) : List ResultVar → List Value → Prop
 | [], vs => vs = []
 | .tmp t :: rs, vs => ∃ v vs', vs = v :: vs' ∧ e t = v ∧ ResL P w e rs vs'
 | .cell a t :: rs, vs => ∃ v vs' ad, vs = v :: vs' ∧ e a = .pointer (some ad) ∧ (loadVar t ad).run P w = .ok v w ∧ ResL P w e rs vs'
theorem Xg {P : Program} {w : World} {e : Env} : ResL P w e [] [] := rfl
theorem Xv {P : Program} {w : World} {e : Env} {t : Nat} {v : Value} {rs : List ResultVar} {vs : List Value} (h : e t = v) (h2 : ResL P w e rs vs) : ResL P w e (.tmp t :: rs) (v :: vs) := ⟨v, vs, rfl, h, h2⟩
theorem r_b {P : Program} {s : St} {e : Env} {t a b c tb : Nat} {dd : TypeDesc} {cs : List Value} {rs : List ResultVar} {vs : List Value} (hB : BlF s b tb cs c) (hu : P.underlying t = some dd) (hr : dd.isRow = true) (hs : (P.info? t).map (·.size) = some cs.length) (h : e a = .pointer (some ⟨b, 0, none⟩)) (h2 : ResL P s.w e rs vs) : ResL P s.w e (.cell a t :: rs) (.agg cs.toArray :: vs) :=
 ⟨_, vs, _, rfl, h, run_loadVar_mid s.w b 0 t cs dd (fun j v hv => by rw [Nat.zero_add]; exact bl_cell hB hv) hu hr hs, h2⟩
section
variable {P : Program} {f : Who} {N : Nat} {O ρ : Type} {m : Option O} {G : O → Option ρ} {R : ρ → Ending → World → Prop} {e : Env} {w : World} {k : List Item} {ops : Array Oper}
theorem res_list {fn : Func} {rs : List ResultVar} {vs : List Value} (h : fn.results = rs.toArray) (hL : ResL P w e rs vs) {a : Act} (ha : Fr N e a) :
    (results fn a.tmps).run P w = .ok (match vs with | [v] => v | _ => .tuple vs.toArray) w := by
  have key : ∀ (F : ResultVar → Sem Value) (hF : ∀ r v, (match r with | .tmp t => e t = v | .cell a t => ∃ ad, e a = .pointer (some ad) ∧ (loadVar t ad).run P w = .ok v w) → (F r).run P w = .ok v w) (rs : List ResultVar) (vs : List Value), ResL P w e rs vs → (List.mapM F rs).run P w = .ok vs w := by
    intro F hF rs
    induction rs with
    | nil => intro vs h; simp [ResL] at h; simp [h]
    | cons r rs ih =>
      intro vs h
      rw [List.mapM_cons, Sem.run_bind']
      cases r with
      | tmp t =>
        obtain ⟨v, vs', rfl, h1, h2⟩ := h
        rw [hF (.tmp t) v h1]
        simp only [Result.andThen]
        rw [Sem.run_bind', ih _ h2]
        simp [Result.andThen]
      | cell a t =>
        obtain ⟨v, vs', ad, rfl, h0, h1, h2⟩ := h
        rw [hF (.cell a t) v ⟨ad, h0, h1⟩]
        simp only [Result.andThen]
        rw [Sem.run_bind', ih _ h2]
        simp [Result.andThen]
  unfold results
  rw [h, List.mapM_toArray, Sem.run_bind']
  have h2 : ∀ (s : Sem (List Value)) (l : List Value), s.run P w = .ok l w → (List.toArray <$> s : Sem (Array Value)).run P w = .ok l.toArray w := by
    intro s l hs
    show (s.bind (Sem.pure ∘ List.toArray)).run P w = _
    have := Sem.run_bind' P s (fun l => (Sem.pure l.toArray : Sem (Array Value))) w
    exact this.trans (by rw [hs]; rfl)
  refine (congrArg (fun z => Result.andThen z _) (h2 _ _ (key _ (fun r v hr => ?_) rs vs hL))).trans ?_
  · cases r with
    | tmp t => simp only [] at hr; simp only [ha.get, Sem.run_pure, hr]
    | cell a t =>
      obtain ⟨ad, h1, h2⟩ := hr
      simp only [ha.get, h1]
      rw [Sem.run_bind']
      simp [asAddr, Result.andThen, h2]
  · match vs with
    | [] => simp [Result.andThen]
    | [v] => simp [Result.andThen]
    | v :: v' :: vs => simp [Result.andThen]
theorem re {fn : Func} {rs : List ResultVar} {vs : List Value} {v : Value} {r : ρ} {o : O} (hG : G o = some r) (hf : P.funcs[f.fn]? = some fn) (h : fn.results = rs.toArray) (hL : ResL P w e rs vs) (hv : (match vs with | [v] => v | _ => .tuple vs.toArray) = v) (hR : R r (.returned v) w) (h0 : f.rd = none := by rfl) (h1 : f.df = none := by rfl) : TM P f N (some o) G R (.code .ret :: k) e w :=
 rtG hG hf (fun a ha => by rw [← hv]; exact res_list h hL ha) hR h0 h1
theorem reE {fn : Func} {rs : List ResultVar} {vs : List Value} {v : Value} {r : ρ} {o : O} (hG : G o = some r) (hf : P.funcs[f.fn]? = some fn) (h : fn.results = rs.toArray) (hL : ResL P w e rs vs) (hv : (match vs with | [v] => v | _ => .tuple vs.toArray) = v) (hR : R r (.returned v) w) (h0 : f.rd = none := by rfl) (h1 : f.df = none := by rfl) : TM P f N (some o) G R [] e w := by
 intro o' ho r' hr'
 obtain rfl := Option.some.inj ho
 rw [hG] at hr'
 obtain rfl := Option.some.inj hr'
 exact T_end hf (fun a ha => by rw [← hv]; exact res_list h hL ha) hR h0 h1
theorem sgi {S : Type} {g : S → Option ρ} {o : O} (h : TM P f N (some o) G R k e w) : TM P f N (some (.inr o)) (SG g G) R k e w := by
 intro o' ho r hr
 obtain rfl := Option.some.inj ho
 exact h o rfl r hr
theorem sgb {S : Type} {g : S → Option ρ} (h : TM P f N m G R k e w) : TM P f N (m.bind fun o => some (.inr o)) (SG g G) R k e w := by
 intro o' ho r hr
 obtain ⟨o, hm, ho⟩ := Option.bind_eq_some_iff.1 ho
 obtain rfl := Option.some.inj ho
 exact h o hm r hr
theorem jc {α : Type} {x : Option α} {km : α → Option O} {I : Item} (Inv : α → Env → World → Prop) (H : ∀ Gj : α → Option ρ, (∀ y e w, Inv y e w → TM P f N (some y) Gj R k e w) → TM P f N x Gj R (I :: k) e w)
    (J : ∀ y e w, Inv y e w → TM P f N (km y) G R k e w) : TM P f N (x.bind km) G R (I :: k) e w :=
  jb fun Gj hG => by subst hG; exact H _ fun y e w hI => jn (J y e w hI)
def sel {α β : Type} (f : α → Option β) : α ⊕ β → Option β
 | .inl y => f y
 | .inr o => some o
@[simp] theorem sel_inl {α β : Type} (f : α → Option β) (y : α) : sel f (.inl y) = f y := rfl
@[simp] theorem sel_inr {α β : Type} (f : α → Option β) (o : β) : sel f (.inr o) = some o := rfl
theorem ji {α : Type} {x : Option α} {km : α → Option O} (rest' : List Nat) {l : List Nat} (Inv : α → Env → World → Prop) (H : ∀ Gj : α → Option ρ, (∀ y e w, Inv y e w → TM P f N (some y) Gj R (.inRegion ops rest' :: k) e w) → TM P f N x Gj R (.inRegion ops l :: k) e w)
    (J : ∀ y e w, Inv y e w → TM P f N (km y) G R (.inRegion ops rest' :: k) e w) : TM P f N (x.bind km) G R (.inRegion ops l :: k) e w :=
  jb fun Gj hG => by subst hG; exact H _ fun y e w hI => jn (J y e w hI)
theorem jy (ds : List Nat) (rest' : List Nat) (t : Nat) (v : Value) {l : List Nat} (ht : memb ds t = true) (H : (∀ e', Ag ds e e' → e' t = v → TM P f N m G R (.inRegion ops rest' :: k) e' w) → TM P f N m G R (.inRegion ops l :: k) e w)
    (J : ∀ junk, TM P f N m G R (.inRegion ops rest' :: k) (upd (ovr ds junk e) t v) w) : TM P f N m G R (.inRegion ops l :: k) e w :=
  H fun e' ha hv => by
    have h1 := ha.ovr
    have h2 := upd_self hv
    have := J e'
    rw [← h1] at this
    rwa [h2] at this
theorem sbT {d : Nat} {b c : Bool} {todo : List Item} (hb : b = c) (h : TM P f N m G R todo (upd e d (.bool c)) w) : TM P f N m G R todo (upd e d (.bool b)) w := by subst hb; exact h
theorem Ag.ov {ds ds' : List Nat} {e e' junk : Env} (h : Ag ds e e') (hd : sub ds' ds = true) : Ag ds e (V.ovr ds' junk e') := fun t ht => by
 have : memb ds' t = false := by
  cases hm : memb ds' t with
  | false => rfl
  | true => rw [sub_out hd hm] at ht; cases ht
 simp only [V.ovr, this, cond_false]
 exact h t ht
theorem Ag.base {ds : List Nat} {e : Env} {d : Nat} {v v' : Value} (hd : memb ds d = true) : Ag ds (upd e d v) (upd e d v') := fun t ht => by
 have : t ≠ d := fun h => by rw [h, hd] at ht; cases ht
 rw [upd_ne _ _ _ _ this, upd_ne _ _ _ _ this]
theorem ue {e e' : Env} {d : Nat} {v : Value} (h : e = e') (hv : e d = v) : e = upd e' d v := by subst h; exact (upd_self hv).symm
end
section
variable {P : Program} {f : Who} {N : Nat} {O ρ : Type} {m : Option O} {G : O → Option ρ} {R : ρ → Ending → World → Prop} {e : Env} {s : St} {k : List Item} {ops : Array Oper} {i d : Nat} {rest : List Nat} {o : Oper}
theorem shrK {t1 t2 : TypeId} {k1 k2 : IntKind} {a b : Int} {x y : Operand} (h0 : decide (0 ≤ b) = true)
    (ho : ops[i]? = some o) (hd : o.dst = some d) (hN : Nat.blt d N = true) (hw : Region.wanted o (yv e ops) = true) (hop : o.op = .binOp .shr t1 x y t2) (hx : ev e x = .int k1 a) (hy : ev e y = .int k2 b)
    (h : TM P f N m G R (.inRegion ops rest :: k) (upd e d (.int k1 (ishr k1 a b))) s.w) : TM P f N m G R (.inRegion ops (i :: rest) :: k) e s.w := by
  have := shr_ (m := m) (s := s) ho hd hN hw hop hx hy h
  rwa [if_pos (of_decide_eq_true h0)] at this
theorem shlK {t1 t2 : TypeId} {k1 k2 : IntKind} {a b : Int} {x y : Operand} (h0 : decide (0 ≤ b) = true)
    (ho : ops[i]? = some o) (hd : o.dst = some d) (hN : Nat.blt d N = true) (hw : Region.wanted o (yv e ops) = true) (hop : o.op = .binOp .shl t1 x y t2) (hx : ev e x = .int k1 a) (hy : ev e y = .int k2 b)
    (h : TM P f N m G R (.inRegion ops rest :: k) (upd e d (.int k1 (ishl k1 a b))) s.w) : TM P f N m G R (.inRegion ops (i :: rest) :: k) e s.w := by
  have := shl_ (m := m) (s := s) ho hd hN hw hop hx hy h
  rwa [if_pos (of_decide_eq_true h0)] at this
theorem remK {t1 t2 : TypeId} {k1 : IntKind} {a b : Int} {x y : Operand} (h0 : decide (b ≠ 0) = true)
    (ho : ops[i]? = some o) (hd : o.dst = some d) (hN : Nat.blt d N = true) (hw : Region.wanted o (yv e ops) = true) (hop : o.op = .binOp .rem t1 x y t2) (hx : ev e x = .int k1 a) (hy : ev e y = .int k1 b)
    (h : TM P f N m G R (.inRegion ops rest :: k) (upd e d (.int k1 (a.tmod b))) s.w) : TM P f N m G R (.inRegion ops (i :: rest) :: k) e s.w := by
  have := rem_ (m := m) (s := s) ho hd hN hw hop hx hy h
  rwa [if_pos (of_decide_eq_true h0)] at this
theorem beq_ {t1 t2 : TypeId} {a b : Bool} {x y : Operand} (hu : P.underlying t1 = some .bool)
    (ho : ops[i]? = some o) (hd : o.dst = some d) (hN : Nat.blt d N = true) (hw : Region.wanted o (yv e ops) = true) (hop : o.op = .binOp .eql t1 x y t2) (hx : ev e x = .bool a) (hy : ev e y = .bool b)
    (h : TM P f N m G R (.inRegion ops rest :: k) (upd e d (.bool (a == b))) s.w) : TM P f N m G R (.inRegion ops (i :: rest) :: k) e s.w :=
  vl ho hd hN hw (by
    have : (Op.equal t1 (.bool a) (.bool b)).run P s.w = .ok (a == b) s.w := by
      unfold Op.equal Op.maxDepth Op.equalIn
      rw [Sem.run_bind', run_underlying hu]; simp [Result.andThen]
    simp [execOp, hop, hx, hy, binOp, eqGuard, this, Result.andThen]) h
theorem bne_ {t1 t2 : TypeId} {a b : Bool} {x y : Operand} (hu : P.underlying t1 = some .bool)
    (ho : ops[i]? = some o) (hd : o.dst = some d) (hN : Nat.blt d N = true) (hw : Region.wanted o (yv e ops) = true) (hop : o.op = .binOp .neq t1 x y t2) (hx : ev e x = .bool a) (hy : ev e y = .bool b)
    (h : TM P f N m G R (.inRegion ops rest :: k) (upd e d (.bool (!(a == b)))) s.w) : TM P f N m G R (.inRegion ops (i :: rest) :: k) e s.w :=
  vl ho hd hN hw (by
    have : (Op.equal t1 (.bool a) (.bool b)).run P s.w = .ok (a == b) s.w := by
      unfold Op.equal Op.maxDepth Op.equalIn
      rw [Sem.run_bind', run_underlying hu]; simp [Result.andThen]
    simp [execOp, hop, hx, hy, binOp, eqGuard, this, Result.andThen]) h
end
section
variable {P : Program} {f : Who} {N : Nat} {O ρ : Type} {m : Option O} {G : O → Option ρ} {R : ρ → Ending → World → Prop} {e : Env} {s : St} {k : List Item} {ops : Array Oper} {i d : Nat} {rest : List Nat} {o : Oper}
theorem sva {t b q : Nat} {tb : TypeId} {x y : Operand} {cs vs : List Value} {c : Nat} (hB : BlF s b tb cs c) (hs : (P.info? t).map (·.size) = some vs.length)
    (ho : ops[i]? = some o) (hd : o.dst = none) (hw : Region.wanted o (yv e ops) = true) (hop : o.op = .store t x y) (hx : ev e x = .pointer (some ⟨b, q, none⟩)) (hy : ev e y = .agg vs.toArray) (hv : vs.all (·.oneCell') = true) (hq : Nat.ble (q + vs.length) cs.length = true)
    (h : ∀ s', Stp [c] s s' → BlF s' b tb (sets cs q vs) c → TM P f N m G R (.inRegion ops rest :: k) e s'.w) : TM P f N m G R (.inRegion ops (i :: rest) :: k) e s.w := by
  have key : ∀ (vs : List Value) (j : Nat) (cs : List Value) (s : St), BlF s b tb cs c → vs.all (·.oneCell') = true → q + j + vs.length ≤ cs.length →
      ∃ s' : St, (storeCells ⟨b, q, none⟩ vs j).run P s.w = .ok () s'.w ∧ Stp [c] s s' ∧ BlF s' b tb (sets cs (q + j) vs) c := by
    intro vs
    induction vs with
    | nil => intro j cs s hB _ _; exact ⟨s, by simp [storeCells], ⟨rfl, rfl, rfl, Nat.le_refl _, fun _ _ _ => rfl, fun _ _ _ => ⟨rfl, rfl⟩⟩, hB⟩
    | cons v vs ih =>
      intro j cs s hB hv hq
      simp only [List.all_cons, Bool.and_eq_true] at hv
      obtain ⟨s1, hs1, p1, hB1⟩ := Stp.set (q := q + j) hB v
      obtain ⟨s2, hs2, p2, hB2⟩ := ih (j + 1) (cs.set (q + j) v) s1 hB1 hv.2 (by simp at hq ⊢; omega)
      refine ⟨s2, ?_, ?_, hB2⟩
      · unfold storeCells
        rw [Sem.run_bind']
        have hlt : q + j < cs.length := by simp at hq; omega
        have hcell : s.w.cell? ⟨b, q + j, none⟩ = some cs[q + j] := bl_cell hB (List.getElem?_eq_getElem hlt)
        have hfr : s.w.frozen? ⟨b, q + j, none⟩ = false := by simp [World.frozen?, hB.1]
        have ha : (⟨b, q, none⟩ : Addr).add j = ⟨b, q + j, none⟩ := Addr.add_mid b q j
        have hst : (store ((⟨b, q, none⟩ : Addr).add j) v).run P s.w = .ok () s1.w := by
          rw [ha, hs1]
          have hv1 := hv.1
          cases v <;> first | (cases hv1; done) | simp [store, Sem.run, hcell, hfr]
        rw [hst]
        simp only [Result.andThen]
        exact hs2
      · have := p1.trans p2
        refine ⟨this.os, this.tape, this.output, this.size, this.low, fun b' hb' hm => this.same b' hb' ?_⟩
        simp only [memb, List.cons_append, List.nil_append, Bool.or_eq_false_iff] at hm ⊢
        exact ⟨hm.1, hm.1, trivial⟩
  obtain ⟨s', hs', p, hB'⟩ := key vs 0 cs s hB hv (by have := Nat.le_of_ble_eq_true hq; omega)
  refine vd (w' := s'.w) ho hd hw ?_ (h s' p hB')
  have : (Instr.storeAt t (.pointer (some ⟨b, q, none⟩)) (.agg vs.toArray)).run P s.w = .ok () s'.w := by
    unfold Instr.storeAt
    rw [Sem.run_bind']
    simp only [Instr.sureAddr, Sem.run_pure, Result.andThen]
    unfold storeVar
    rw [Sem.run_bind', size_run hs]
    simp only [Result.andThen, Value.cells]
    simp [hs']
  simp [execOp, hop, hx, hy, this, Result.andThen]
theorem Yk {t b q : Nat} {tb : TypeId} {x y : Operand} {cs vs : List Value} {c : Nat} (hB : BlF s b tb cs c) (hs : (P.info? t).map (·.size) = some vs.length) (t2 : E6 (ops[i]?) (some o) (o.dst) (none) (Region.wanted o (yv e ops)) (true) (o.op) (.store t x y) (ev e x) (.pointer (some ⟨b, q, none⟩)) (ev e y) (.agg vs.toArray)) (hv : vs.all (·.oneCell') = true) (hq : Nat.ble (q + vs.length) cs.length = true) (h : ∀ s', Stp [c] s s' → BlF s' b tb (sets cs q vs) c → TM P f N m G R (.inRegion ops rest :: k) e s'.w) : TM P f N m G R (.inRegion ops (i :: rest) :: k) e s.w := sva hB hs (e6_ t2).1 (e6_ t2).2.1 (e6_ t2).2.2.1 (e6_ t2).2.2.2.1 (e6_ t2).2.2.2.2.1 (e6_ t2).2.2.2.2.2 hv hq h
theorem lt0 {α : Type} {K : Kd α} {t te n : Nat} (c : Nat) (hu : P.underlying t = some (.slice te)) (hs : (P.info? te).map (·.size) = some n)
    (ho : ops[i]? = some o) (hd : o.dst = some d) (hN : Nat.blt d N = true) (hw : Region.wanted o (yv e ops) = true) (hop : o.op = .buildSlice t 0 #[])
    (h : ∀ v s', Stp [] s s' → OwF (Kd.sl te K) s' [v] [] c → TM P f N m G R (.inRegion ops rest :: k) (upd e d v) s'.w) :
    TM P f N m G R (.inRegion ops (i :: rest) :: k) e s.w := by
  obtain ⟨s', hs', p, nn, hrow⟩ := new_row (s := s) (te := te) (n := K.n) (l := 0) (cells := #[]) c rfl (by simp) (Nat.zero_le _)
  have hrow2 : (newRow te #[]).run P s.w = .ok ⟨s.w.heap.size, 0, none⟩ (s.w.alloc (.cells #[] te)) := by simp [newRow, newObj]; rfl
  have : (Instr.buildSlice t 0 #[]).run P s.w = .ok (.slice (some ⟨s.w.heap.size, 0, none⟩) 0 0) (s.w.alloc (.cells #[] te)) := by
    unfold Instr.buildSlice
    rw [Sem.run_bind', run_underlying hu]
    simp only [Result.andThen]
    rw [Sem.run_bind', size_run hs]
    simp only [Result.andThen, Nat.zero_mul]
    have h0 : (Array.range 0).map (fun _ => (default : Value)) = #[] := by simp [Array.range]
    simp [Instr.fill, h0, hrow2, Result.andThen]
  refine vl (v := .slice (some ⟨s.w.heap.size, 0, none⟩) 0 0) (w' := s'.w) ho hd hN hw (by rw [hs']; simp [execOp, hop, this, Result.andThen]) (h _ s' p ?_)
  refine ⟨[s.w.heap.size] ++ [], ⟨_, rfl, _, _, [], rfl, by simpa using hrow, by simp [ElsO]⟩, by simp, fun b hb => ?_⟩
  simp at hb; subst hb; exact nn.new _ (Nat.le_refl _)
end
theorem RdF.one {α : Type} {te : TypeId} {K : Kd α} {s : St} {v : Value} {xs : List α} {C : List Nat} (h : RdF (Kd.sl te K) s [v] xs C) : v.oneCell' = true := (Kd.sl te K).rd_one h v (by simp)
theorem Xt : ([] : List Value).all (·.oneCell') = true := rfl
theorem Xd {v : Value} {vs : List Value} (h : v.oneCell' = true) (h2 : vs.all (·.oneCell') = true) : (v :: vs).all (·.oneCell') = true := by simp only [List.all_cons, h, h2, Bool.and_self]
structure Z0 (F : Nat → Prop) (s : St) : Prop where
 z : ∀ b, F b ↔ s.g b = 0
 lt : ∀ b, s.g b < 2
theorem Xn (w : World) (F : Nat → Prop) : ∃ s : St, s.w = w ∧ Kp s s ∧ Z0 F s := by
 refine ⟨st0 w F, rfl, st0_kp w F, ⟨fun b => ?_, fun b => ?_⟩⟩ <;> unfold st0 <;> dsimp only <;> split <;> simp_all
theorem Z0.rd {F : Nat → Prop} {s : St} (z : Z0 F s) {α : Type} {K : Kd α} {cs : List Value} {x : α} (h : K.rd s.w cs x F) : RdF K s cs x [0] :=
 K.rd_mono h fun b hb _ => by rw [(z.z b).1 hb]; rfl
theorem Z0.ky {F : Nat → Prop} {s s' : St} (z : Z0 F s) (p : Kp s s') : Ky [] s.w s'.w := ⟨p.os, p.tape, p.output, p.size, fun b hb _ => p.same b hb (z.lt b)⟩
theorem Z0.fr {F : Nat → Prop} {s s' : St} (z : Z0 F s) (p : Kp s s') {α : Type} {K : Kd α} {cs : List Value} {x : α} {C : List Nat} (h : RdF K s' cs x C) (hC : okC C = true) : FR K F s.w s'.w cs x := by
 refine K.rd_mono h fun b hb _ => ?_
 by_cases hl : b < s.w.heap.size
 · right
   have h3 : s.g b < 40 := Nat.lt_trans (z.lt b) (by omega)
   have h1 := p.col b hl h3
   have h2 := okC_out hC hb
   rw [h1] at h2
   exact (z.z b).2 (by omega)
 · left; omega
theorem Z0.l {F : Nat → Prop} {s : St} (z : Z0 F s) : ∀ b, s.g b < 40 := fun b => Nat.lt_trans (z.lt b) (by omega)
structure Z1 (F : Nat → Prop) (os : List Nat) (s : St) : Prop where
 z : ∀ b, F b ↔ s.g b = 0
 o : ∀ b, b ∈ os ↔ s.g b = 2
 lt : ∀ b, s.g b < 3
theorem start1 (w : World) (F : Nat → Prop) (os : List Nat) (h : ∀ b, F b → b ∉ os) : ∃ s : St, s.w = w ∧ Kp s s ∧ Z1 F os s := by
 refine ⟨⟨w, fun b => open Classical in if F b then 0 else if b ∈ os then 2 else 1⟩, rfl, Kp.refl _ fun b _ => ?_, ⟨fun b => ?_, fun b => ?_, fun b => ?_⟩⟩
 · dsimp only; split
   · omega
   · split <;> omega
 · dsimp only; split
   · simp_all
   · split <;> simp_all
 · dsimp only; split
   · rename_i hF; have := h b hF; simp_all
   · split <;> simp_all
 · dsimp only; split
   · omega
   · split <;> omega
theorem Z1.l {F : Nat → Prop} {os : List Nat} {s : St} (z : Z1 F os s) : ∀ b, s.g b < 40 := fun b => Nat.lt_trans (z.lt b) (by omega)
theorem Z1.rd {F : Nat → Prop} {os : List Nat} {s : St} (z : Z1 F os s) {α : Type} {K : Kd α} {cs : List Value} {x : α} (h : K.rd s.w cs x F) : RdF K s cs x [0] :=
 K.rd_mono h fun b hb _ => by rw [(z.z b).1 hb]; rfl
theorem Z1.ow {F : Nat → Prop} {os : List Nat} {s : St} (z : Z1 F os s) {α : Type} {K : Kd α} {cs : List Value} {x : α} (h : K.ow s.w cs x os) (hn : os.Nodup) : OwF K s cs x 2 := ⟨os, h, hn, fun b hb => (z.o b).1 hb⟩
theorem Z1.ky {F : Nat → Prop} {os : List Nat} {s s' : St} (z : Z1 F os s) (p : Kp s s') : Ky os s.w s'.w := ⟨p.os, p.tape, p.output, p.size, fun b hb hn => p.same b hb (by
 have := z.lt b
 have h2 : s.g b ≠ 2 := fun h => hn ((z.o b).2 h)
 omega)⟩
theorem Z1.fw {F : Nat → Prop} {os : List Nat} {s s' : St} (z : Z1 F os s) (p : Kp s s') {α : Type} {K : Kd α} {cs : List Value} {x : α} (h : OwF K s' cs x 2) : FW K os s.w s'.w cs x := by
 obtain ⟨os', ho, hn, hc⟩ := h
 refine ⟨os', ho, hn, fun b hb => ?_⟩
 by_cases hl : b < s.w.heap.size
 · left
   have h1 := p.col b hl (Nat.lt_trans (z.lt b) (by omega))
   rw [hc b hb] at h1
   exact (z.o b).2 h1.symm
 · right; omega
theorem Z1.fr {F : Nat → Prop} {os : List Nat} {s s' : St} (z : Z1 F os s) (p : Kp s s') {α : Type} {K : Kd α} {cs : List Value} {x : α} {C : List Nat} (h : RdF K s' cs x C) (hC : okC C = true) : FR K F s.w s'.w cs x := by
 refine K.rd_mono h fun b hb _ => ?_
 by_cases hl : b < s.w.heap.size
 · right
   have h3 : s.g b < 40 := Nat.lt_trans (z.lt b) (by omega)
   have h1 := p.col b hl h3
   have h2 := okC_out hC hb
   rw [h1] at h2
   exact (z.z b).2 (by omega)
 · left; omega
theorem OwF.rc {α : Type} {K : Kd α} {s : St} {cs : List Value} {x : α} {d : Nat} (h : OwF K s cs x d) (c : Nat) (hd : Nat.ble 40 d = true) : ∃ s' : St, s.w = s'.w ∧ Stp [d] s s' ∧ OwF K s' cs x c := by
 have hd' := Nat.le_of_ble_eq_true hd
 obtain ⟨os, ho, hn, hc⟩ := h
 refine ⟨⟨s.w, fun b => if s.g b = d then c else s.g b⟩, rfl, ⟨rfl, rfl, rfl, Nat.le_refl _, fun b hb hl => ?_, fun b hb hm => ⟨?_, rfl⟩⟩, os, ho, hn, fun b hb => ?_⟩
 · have : ¬ s.g b = d := by omega
   simp [this]
 · have : ¬ s.g b = d := fun h => by rw [h] at hm; simp [memb] at hm
   simp [this]
 · simp [hc b hb]
theorem RwF.rc {α : Type} {e : TypeId} {K : Kd α} {s : St} {v : Value} {xs : List α} {d : Nat} {C : List Nat} (h : RwF e K s v xs d C) (c : Nat) (hd : Nat.ble 40 d = true) (hC : memb C d = false) : ∃ s' : St, s.w = s'.w ∧ Stp [d] s s' ∧ RwF e K s' v xs c C := by
 have hd' := Nat.le_of_ble_eq_true hd
 obtain ⟨cells, os, hr, hc, he⟩ := h
 refine ⟨⟨s.w, fun b => if s.g b = d then c else s.g b⟩, rfl, ⟨rfl, rfl, rfl, Nat.le_refl _, fun b hb hl => ?_, fun b hb hm => ⟨?_, rfl⟩⟩, cells, os, hr, fun b hb => ?_, he.mono fun b hb _ => ?_⟩
 · have : ¬ s.g b = d := by omega
   simp [this]
 · have : ¬ s.g b = d := fun h => by rw [h] at hm; simp [memb] at hm
   simp [this]
 · simp [hc b hb]
 · have : ¬ s.g b = d := fun h => by rw [h] at hb; rw [hb] at hC; cases hC
   simp only [this, if_false]; exact hb
theorem nwo {α : Type} {K : Kd α} {s : St} {cs' : List Value} {x' : α} {p : Nat} {os : List Nat} {w' : World} (c : Nat) (hc : ∀ b ∈ os, s.g b = p) (ky : Ky os s.w w') (h : FW K os s.w w' cs' x') :
    ∃ s' : St, s'.w = w' ∧ Stp [p] s s' ∧ OwF K s' cs' x' p := by
  obtain ⟨os', ho, hn, hf⟩ := h
  refine ⟨⟨w', fun b => open Classical in if b < s.w.heap.size then s.g b else if b ∈ os' then p else c⟩, rfl, ⟨ky.os, ky.tape, ky.output, ky.size, fun b hb _ => by simp [hb], fun b hb hm => ⟨by simp [hb], ky.same b hb fun h => ?_⟩⟩, os', ho, hn, fun b hb => ?_⟩
  · rw [hc b h] at hm; simp [memb] at hm
  · dsimp only
    by_cases hl : b < s.w.heap.size
    · rw [if_pos hl]
      rcases hf b hb with h | h
      · exact hc b h
      · omega
    · rw [if_neg hl, if_pos hb]
theorem apart_of {s : St} {os : List Nat} {p : Nat} {C : List Nat} (hc : ∀ b ∈ os, s.g b = p) (h : memb C p = false) : ∀ b, memb C (s.g b) = true → b ∉ os := fun b hb hm => by
 rw [hc b hm] at hb; rw [hb] at h; cases h
end Go.Proofs.YtlpbggnpiogioaaGreat.V
set_option linter.unusedVariables false
set_option linter.unusedSimpArgs false
namespace Go.Proofs.YtlpbggnpiogioaaGreat.V
open Go
theorem map_congr {α β : Type} (xs : Array α) (g h : α → β) (e : ∀ x ∈ xs.toList, g x = h x) : xs.map g = xs.map h := by
 apply Array.ext'
 simp only [Array.toList_map]
 exact List.map_congr_left e
theorem opt_congr {α β : Type} (x : Option α) (g h : α → β) (e : ∀ y ∈ x.toArray.toList, g y = h y) : x.map g = x.map h := by
 cases x with
 | none => rfl
 | some y => simp [e y (by simp)]
def selB (o : Oper) : Bool := match o.op with
 | .select .. => true
 | _ => false
theorem exec_congr (o : Oper) (ρ ρ' : Operand → Value) (hs : selB o = false) (h : ∀ x ∈ o.op.operands.toList, ρ x = ρ' x) : execOp ρ o = execOp ρ' o := by
 obtain ⟨dst, op, type, pos, after, guard⟩ := o
 simp only [] at h
 simp only [selB] at hs
 cases op with
 | alloc _ | ready _ | waits _ => rfl
 | move x | assign x | box _ x | load _ x | nilCheck x | unOp _ _ x | convert _ _ x | sliceToArrayPointer _ x | makeInterface _ x | makeChan _ x | fieldAddr _ x _ | field _ x _ | range _ x | next x _ | entry x | typeAssert x _ _ _ | extract x _ | panic x | recv _ x _ =>
  have := h x (by simp [Op.operands]); simp only [execOp, this]
 | pick c a b =>
  have h1 := h c (by simp [Op.operands]); have h2 := h a (by simp [Op.operands]); have h3 := h b (by simp [Op.operands]); simp only [execOp, h1, h2, h3]
 | store _ a v | binOp _ _ a v _ | makeSlice _ a v | indexAddr _ a v | index _ a v | lookup _ a v _ | mapEntry _ a v | send a v =>
  have h1 := h a (by simp [Op.operands]); have h2 := h v (by simp [Op.operands]); simp only [execOp, h1, h2]
 | mapUpdate _ a b c | entryStore _ a b c | insert _ a b c =>
  have h1 := h a (by simp [Op.operands]); have h2 := h b (by simp [Op.operands]); have h3 := h c (by simp [Op.operands]); simp only [execOp, h1, h2, h3]
 | build t ps =>
  have : (ps.map fun (i, x) => (i, ρ x)) = ps.map fun (i, x) => (i, ρ' x) := map_congr _ _ _ fun x hx => by
   have := h x.2 (by simp [Op.operands]; exact ⟨x.1, by simpa using hx⟩)
   simp [this]
  simp only [execOp, this]
 | buildSlice t l ps =>
  have : (ps.map fun (i, x) => (i, ρ x)) = ps.map fun (i, x) => (i, ρ' x) := map_congr _ _ _ fun x hx => by
   have := h x.2 (by simp [Op.operands]; exact ⟨x.1, by simpa using hx⟩)
   simp [this]
  simp only [execOp, this]
 | makeFunc fn a b =>
  have h1 : a.map ρ = a.map ρ' := map_congr _ _ _ fun x hx => h x (by simp [Op.operands]; left; simpa using hx)
  have h2 : b.map ρ = b.map ρ' := map_congr _ _ _ fun x hx => h x (by simp [Op.operands]; right; simpa using hx)
  simp only [execOp, h1, h2]
 | makeMap t r => have := opt_congr r ρ ρ' (fun y hy => h y (by simpa [Op.operands] using hy)); simp only [execOp, this]
 | slice t x lo hi mx =>
  have h0 := h x (by simp [Op.operands])
  have h1 := opt_congr lo ρ ρ' (fun y hy => h y (by simp [Op.operands] at hy ⊢; simp [hy]))
  have h2 := opt_congr hi ρ ρ' (fun y hy => h y (by simp [Op.operands] at hy ⊢; simp [hy]))
  have h3 := opt_congr mx ρ ρ' (fun y hy => h y (by simp [Op.operands] at hy ⊢; simp [hy]))
  simp only [execOp, h0, h1, h2, h3]
 | call c | go c | defer c =>
  have hargs : c.args.map ρ = c.args.map ρ' := map_congr _ _ _ fun x hx => h x (by simp [Op.operands, Call.operands]; right; simpa using hx)
  have hr : ∀ t, resolve ρ c t = resolve ρ' c t := by
   intro t
   unfold resolve
   rw [hargs]
   cases hc : c.callee with
   | builtin b => rfl
   | value f => have := h f (by simp [Op.operands, Call.operands, hc]); simp only [this]
   | invoke r n => have := h r (by simp [Op.operands, Call.operands, hc]); simp only [this]
  simp only [execOp, hr, hargs]
 | select cs b => cases hs
def tmpOf : Operand → List Nat
 | .tmp t => [t]
 | _ => []
def bnds (m : Region.Mode) (o : Oper) : List Nat := (o.after.toList.filter (Region.binds m)).map (·.on)
def eds (m : Region.Mode) (ops : Array Oper) : List (List Nat) := ops.toList.map (bnds m)
def dss (ops : Array Oper) : List (Option Nat) := ops.toList.map (·.dst)
def lk1 (ops : Array Oper) (o : Oper) : List Nat := o.op.operands.toList.flatMap tmpOf ++ (match o.guard with
 | some (g, _) => ((ops[g]?).bind (·.dst)).toList
 | none => [])
def lks (ops : Array Oper) : List (List Nat) := ops.toList.map (lk1 ops)
def allB : List Nat → (Nat → Bool) → Bool
 | [], _ => true
 | x :: xs, p => p x && allB xs p
theorem allB_out {xs : List Nat} {p : Nat → Bool} (h : allB xs p = true) : ∀ x ∈ xs, p x = true := by
 induction xs with
 | nil => simp
 | cons y ys ih =>
  simp only [allB, Bool.and_eq_true] at h
  intro x hx
  rcases List.mem_cons.1 hx with rfl | hx
  · exact h.1
  · exact ih h.2 x hx
def okR (n : Nat) (rk : Nat → Nat) : Nat → List (List Nat) → Bool
 | _, [] => true
 | i, d :: E => allB d (fun j => Nat.blt j n && Nat.blt (rk j) (rk i)) && okR n rk (i + 1) E
theorem okR_out {n : Nat} {rk : Nat → Nat} {E : List (List Nat)} {i0 : Nat} (h : okR n rk i0 E = true) : ∀ i d, E[i]? = some d → ∀ j ∈ d, j < n ∧ rk j < rk (i0 + i) := by
 induction E generalizing i0 with
 | nil => intro i d h; simp at h
 | cons d0 E ih =>
  simp only [okR, Bool.and_eq_true] at h
  intro i d hi j hj
  cases i with
  | zero =>
   simp at hi; subst hi
   have := allB_out h.1 j hj
   simp [Nat.blt] at this
   rw [Nat.add_zero]; omega
  | succ i =>
   have := ih h.2 i d (by simpa using hi) j hj
   rw [show i0 + (i + 1) = i0 + 1 + i by omega]; exact this
structure Ext (n : Nat) (E : List (List Nat)) (l : List Nat) : Prop where
 nd : l.Nodup
 all : ∀ i, i ∈ l ↔ i < n
 dep : ∀ a i b, l = a ++ i :: b → ∀ j ∈ E.getD i [], j ∈ a
theorem eds_mem {m : Region.Mode} {ops : Array Oper} {i j : Nat} : j ∈ (eds m ops).getD i [] ↔ ∃ o, ops[i]? = some o ∧ ∃ e ∈ o.after.toList, Region.binds m e = true ∧ e.on = j := by
 unfold eds bnds
 rw [List.getD_eq_getElem?_getD, List.getElem?_map, Array.getElem?_toList]
 cases h : ops[i]? with
 | none => simp
 | some o => simp [and_assoc]
theorem go_ext (m : Region.Mode) (ops : Array Oper) (rk : Nat → Nat) (hrk : okR ops.size rk 0 (eds m ops) = true) : ∀ fuel t (listed : Array Bool), listed.size = ops.size →
    ((List.range ops.size).filter fun i => !listed.getD i true).length ≤ fuel →
    (Region.linearise.go m ops fuel t listed []).Nodup ∧ (∀ i, i ∈ Region.linearise.go m ops fuel t listed [] ↔ i < ops.size ∧ listed.getD i true = false) ∧
    ∀ a i b, Region.linearise.go m ops fuel t listed [] = a ++ i :: b → ∀ j ∈ (eds m ops).getD i [], listed.getD j false = true ∨ j ∈ a := by
  intro fuel
  induction fuel with
  | zero =>
    intro t listed hs hf
    have hnil : ((List.range ops.size).filter fun i => !listed.getD i true) = [] := List.length_eq_zero_iff.1 (by omega)
    refine ⟨by simp [Region.linearise.go], fun i => ?_, by simp [Region.linearise.go]⟩
    simp only [Region.linearise.go, List.reverse_nil, List.not_mem_nil, false_iff]
    rintro ⟨h1, h2⟩
    have : i ∈ ((List.range ops.size).filter fun i => !listed.getD i true) := List.mem_filter.2 ⟨List.mem_range.2 h1, by simp [h2]⟩
    rw [hnil] at this
    cases this
  | succ fuel ih =>
    intro t listed hs hf
    simp only [Region.linearise.go]
    change (match (Region.ready m ops listed)[t % (Region.ready m ops listed).length]? with
      | some i => Region.linearise.go m ops fuel (t / (Region.ready m ops listed).length) (listed.setIfInBounds i true) [i]
      | none => [].reverse : List Nat).Nodup ∧ (∀ i, i ∈ (match (Region.ready m ops listed)[t % (Region.ready m ops listed).length]? with
      | some i => Region.linearise.go m ops fuel (t / (Region.ready m ops listed).length) (listed.setIfInBounds i true) [i]
      | none => [].reverse : List Nat) ↔ i < ops.size ∧ listed.getD i true = false) ∧
      ∀ a i b, (match (Region.ready m ops listed)[t % (Region.ready m ops listed).length]? with
      | some i => Region.linearise.go m ops fuel (t / (Region.ready m ops listed).length) (listed.setIfInBounds i true) [i]
      | none => [].reverse : List Nat) = a ++ i :: b → ∀ j ∈ (eds m ops).getD i [], listed.getD j false = true ∨ j ∈ a
    cases hi : (Region.ready m ops listed)[t % (Region.ready m ops listed).length]? with
    | none =>
      have hnil : Region.ready m ops listed = [] := by
        cases hr : Region.ready m ops listed with
        | nil => rfl
        | cons x xs =>
          rw [hr] at hi
          have hlt : t % (x :: xs).length < (x :: xs).length := Nat.mod_lt _ (by simp)
          simp at hi
          simp at hlt
          omega
      simp only [List.reverse_nil, List.not_mem_nil, false_iff]
      refine ⟨by simp, fun i => ?_, by simp⟩
      -- the least rank
      have key : ∀ r, ∀ i, rk i < r → ¬ (i < ops.size ∧ listed.getD i true = false) := by
        intro r
        induction r with
        | zero => intro i h; omega
        | succ r ihr =>
          rintro i hlt ⟨h1, h2⟩
          have hready : i ∈ Region.ready m ops listed := by
            unfold Region.ready
            refine List.mem_filter.2 ⟨List.mem_range.2 h1, ?_⟩
            obtain ⟨o, ho⟩ : ∃ o, ops[i]? = some o := ⟨_, Array.getElem?_eq_getElem h1⟩
            simp only [h2, Bool.not_false, Bool.true_and, ho, Option.map_some, Option.getD_some]
            rw [Array.all_eq_true']
            intro e he
            cases hb : Region.binds m e with
            | false => rfl
            | true =>
              simp only [Bool.not_true, Bool.false_or]
              obtain ⟨d, hd⟩ : ∃ d, (eds m ops)[i]? = some d := by
                refine ⟨bnds m o, ?_⟩
                simp [eds, ho]
              have hmem : e.on ∈ d := by
                have := (eds_mem (m := m) (ops := ops) (i := i) (j := e.on)).2 ⟨o, ho, e, by simpa using he, hb, rfl⟩
                rw [List.getD_eq_getElem?_getD, hd] at this
                exact this
              have hr := okR_out hrk i d hd e.on hmem
              rw [Nat.zero_add] at hr
              cases hl : listed.getD e.on false with
              | true => rfl
              | false =>
                exact absurd ⟨hr.1, by
                  rw [Array.getD_eq_getD_getElem?] at hl ⊢
                  rw [Array.getElem?_eq_getElem (by omega)] at hl ⊢
                  exact hl⟩ (ihr e.on (by omega))
          rw [hnil] at hready
          cases hready
      exact key (rk i + 1) i (by omega)
    | some i =>
      simp only []
      rw [linearise_go_acc, List.reverse_singleton, List.singleton_append]
      have hrd := List.mem_of_getElem? hi
      unfold Region.ready at hrd
      obtain ⟨hlt, hr⟩ := List.mem_filter.1 hrd
      have hlt := List.mem_range.1 hlt
      simp only [Bool.and_eq_true, Bool.not_eq_true'] at hr
      have hset : ∀ j d, (listed.setIfInBounds i true).getD j d = if j = i then true else listed.getD j d := by
        intro j d
        simp only [Array.getD_eq_getD_getElem?, Array.getElem?_setIfInBounds]
        by_cases hj : j = i
        · subst hj; simp [hs, hlt]
        · have : ¬ i = j := fun h => hj h.symm
          simp [hj, this]
      obtain ⟨h1, h2, h3⟩ := ih (t / (Region.ready m ops listed).length) (listed.setIfInBounds i true) (by simp [hs]) (by
        have hsub : ((List.range ops.size).filter fun j => !(listed.setIfInBounds i true).getD j true) = ((List.range ops.size).filter fun j => !listed.getD j true).filter fun j => !(j == i) := by
          rw [List.filter_filter]
          refine List.filter_congr fun j _ => ?_
          rw [hset]
          by_cases hj : j = i
          · simp [hj]
          · simp [hj]
        rw [hsub]
        have hin : i ∈ ((List.range ops.size).filter fun j => !listed.getD j true) := List.mem_filter.2 ⟨List.mem_range.2 hlt, by simp [hr.1]⟩
        have hlt2 : (((List.range ops.size).filter fun j => !listed.getD j true).filter fun j => !(j == i)).length < ((List.range ops.size).filter fun j => !listed.getD j true).length := by
          rw [← List.countP_eq_length_filter]
          refine Nat.lt_of_le_of_ne List.countP_le_length fun h => ?_
          have := List.countP_eq_length.1 h i hin
          simp at this
        omega)
      refine ⟨List.nodup_cons.2 ⟨fun h => ?_, h1⟩, fun j => ?_, fun a j b hab => ?_⟩
      · have := ((h2 i).1 h).2
        rw [hset] at this
        simp at this
      · rw [List.mem_cons, h2 j, hset]
        by_cases hj : j = i
        · subst hj; simp [hlt, hr.1]
        · simp [hj]
      · intro x hx
        cases a with
        | nil =>
          simp only [List.nil_append, List.cons.injEq] at hab
          obtain ⟨rfl, _⟩ := hab
          left
          obtain ⟨o, ho, e, he, hb, rfl⟩ := eds_mem.1 hx
          have := hr.2
          simp only [ho, Option.map_some, Option.getD_some] at this
          rw [Array.all_eq_true'] at this
          have := this e (by simpa using he)
          simpa [hb] using this
        | cons y a =>
          simp only [List.cons_append, List.cons.injEq] at hab
          obtain ⟨rfl, hab⟩ := hab
          rcases h3 a j b hab x hx with h | h
          · rw [hset] at h
            by_cases hj : x = i
            · right; rw [hj]; simp
            · rw [if_neg hj] at h; exact .inl h
          · exact .inr (by simp [h])
theorem lin_ext {m : Region.Mode} {ops : Array Oper} {rk : Nat → Nat} (hrk : okR ops.size rk 0 (eds m ops) = true) (t : Nat) : Ext ops.size (eds m ops) (Region.linearise m ops t) := by
 obtain ⟨h1, h2, h3⟩ := go_ext m ops rk hrk ops.size t (Array.replicate ops.size false) (by simp) (by
  refine Nat.le_trans (List.length_filter_le _ _) (by simp))
 refine ⟨h1, fun i => ?_, fun a i b h j hj => ?_⟩
 · refine (h2 i).trans ⟨fun h => h.1, fun h => ⟨h, ?_⟩⟩
   simp [Array.getD_eq_getD_getElem?, h]
 · rcases h3 a i b h j hj with h | h
   · simp [Array.getD_eq_getD_getElem?, Array.getElem?_replicate] at h
     split at h <;> simp at h
   · exact h
def rkOf (rs : List Nat) (i : Nat) : Nat := rs.getD i 0
def okA (ops : Array Oper) (rs : List Nat) : Bool := okR ops.size id 0 (eds .any ops) && okR ops.size id 0 (eds .text ops) && okR ops.size (rkOf rs) 0 (eds .gc ops)
theorem binds_any {m : Region.Mode} {e : Edge} (h : Region.binds .any e = true) : Region.binds m e = true := by
 unfold Region.binds at *
 split at h
 · cases h
 · cases h
 · rfl
theorem sched_ext {ops : Array Oper} {rs : List Nat} (h : okA ops rs = true) (mixed : Bool) (t : Nat) : Ext ops.size (eds .any ops) (Region.schedule mixed ops t) := by
 simp only [okA, Bool.and_eq_true] at h
 obtain ⟨⟨h1, h2⟩, h3⟩ := h
 have weak : ∀ m l, Ext ops.size (eds m ops) l → Ext ops.size (eds .any ops) l := fun m l hl => ⟨hl.nd, hl.all, fun a i b hab j hj => hl.dep a i b hab j (by
  obtain ⟨o, ho, e, he, hb, he2⟩ := eds_mem.1 hj
  exact eds_mem.2 ⟨o, ho, e, he, binds_any hb, he2⟩)⟩
 unfold Region.schedule
 split
 · exact lin_ext h1 t
 · split
   · exact weak _ _ (lin_ext h2 _)
   · exact weak _ _ (lin_ext h3 _)
end Go.Proofs.YtlpbggnpiogioaaGreat.V
set_option linter.unusedVariables false
set_option linter.unusedSimpArgs false
namespace Go.Proofs.YtlpbggnpiogioaaGreat.V
open Go
def Qv (P : Program) (N : Nat) (ops : Array Oper) (e : Env) (w : World) (i d : Nat) (v : Value) : Prop :=
 ∃ o, ops[i]? = some o ∧ o.dst = some d ∧ Nat.blt d N = true ∧ selB o = false ∧
  ((Region.wanted o (yv e ops) = true ∧ (execOp (ev e) o).run P w = .ok (.value v) w) ∨ (Region.wanted o (yv e ops) = false ∧ v = undef))
def Pq (P : Program) (N : Nat) (ops : Array Oper) (e : Env) (w : World) : List Nat → Prop
 | [] => True
 | i :: L => (∃ d, Qv P N ops e w i d (e d)) ∧ Pq P N ops e w L
theorem Xe {P : Program} {N : Nat} {ops : Array Oper} {e : Env} {w : World} : Pq P N ops e w [] := trivial
theorem Xa {P : Program} {N : Nat} {ops : Array Oper} {e : Env} {w : World} {i d : Nat} {L : List Nat} {v : Value} (h : Qv P N ops e w i d v) (hv : e d = v) (h2 : Pq P N ops e w L) : Pq P N ops e w (i :: L) := ⟨⟨d, by rw [hv]; exact h⟩, h2⟩
theorem Pq.out {P : Program} {N : Nat} {ops : Array Oper} {e : Env} {w : World} {L : List Nat} (h : Pq P N ops e w L) {i : Nat} (hi : i ∈ L) : ∃ d, Qv P N ops e w i d (e d) := by
 induction L with
 | nil => cases hi
 | cons x L ih =>
  rcases List.mem_cons.1 hi with rfl | hi
  · exact h.1
  · exact ih h.2 hi
theorem Qv.congr {P : Program} {N : Nat} {ops : Array Oper} {e e' : Env} {w : World} {i d : Nat} {v : Value} (h : Qv P N ops e w i d v) (ha : ∀ t ∈ (lks ops).getD i [], e' t = e t) : Qv P N ops e' w i d v := by
 obtain ⟨o, ho, hd, hN, hs, h⟩ := h
 have hl : (lks ops).getD i [] = lk1 ops o := by simp [lks, List.getD_eq_getElem?_getD, ho]
 rw [hl] at ha
 have hx : ∀ x ∈ o.op.operands.toList, ev e' x = ev e x := by
  intro x hx
  cases x with
  | tmp t => exact ha t (by simp only [lk1, List.mem_append, List.mem_flatMap]; exact .inl ⟨_, hx, by simp [tmpOf]⟩)
  | const v => rfl
  | global g => rfl
  | func f => rfl
 have hy : Region.wanted o (yv e' ops) = Region.wanted o (yv e ops) := by
  unfold Region.wanted
  cases hg : o.guard with
  | none => rfl
  | some gw =>
   obtain ⟨g, want⟩ := gw
   simp only []
   have : yv e' ops g = yv e ops g := by
    unfold yv
    cases hb : (ops[g]?).bind (·.dst) with
    | none => rfl
    | some t =>
     simp only []
     rw [ha t (by simp [lk1, hg, hb])]
   rw [this]
 refine ⟨o, ho, hd, hN, hs, ?_⟩
 rw [hy, exec_congr o (ev e') (ev e) hs hx]
 exact h
structure Zr (E : List (List Nat)) (Ds : List (Option Nat)) (L D : List Nat) (l : List Nat) (e Ec : Env) : Prop where
 nd : l.Nodup
 lt : ∀ i ∈ l, i < E.length
 dn : ∀ i, i < E.length → i ∉ l → ∀ j ∈ E.getD i [], j ∉ l
 dep : ∀ a i b, l = a ++ i :: b → ∀ j ∈ E.getD i [], j ∉ i :: b
 done : ∀ i ∈ D, i ∉ l
 ld : ∀ i, i < E.length → i ∉ l → i ∈ D ∨ i ∈ L
 env : ∀ t, (∀ j ∈ L, Ds.getD j none = some t → j ∉ l) → e t = Ec t
theorem Zr.start {E : List (List Nat)} {Ds : List (Option Nat)} {l : List Nat} {e : Env} {n : Nat} (h : Ext n E l) (hn : E.length = n) : Zr E Ds [] [] l e e := by
 subst hn
 refine ⟨h.nd, fun i hi => (h.all i).1 hi, fun i h1 h2 => absurd ((h.all i).2 h1) h2, fun a i b hab j hj hm => ?_, by simp, fun i h1 h2 => absurd ((h.all i).2 h1) h2, fun _ _ => rfl⟩
 have h1 := h.dep a i b hab j hj
 have h2 := h.nd
 rw [hab, List.nodup_append] at h2
 exact h2.2.2 j h1 j hm rfl
section
variable {E : List (List Nat)} {Ds : List (Option Nat)} {L D l : List Nat} {e Ec : Env}
def optB (x : Option Nat) (d : Nat) : Bool := match x with
 | some t => Nat.beq t d
 | none => false
theorem optB_iff {x : Option Nat} {d : Nat} : optB x d = true ↔ x = some d := by
 cases x with
 | none => simp [optB]
 | some t => simp only [optB, Option.some.injEq]; exact ⟨Nat.eq_of_beq_eq_true, fun h => by rw [h]; exact Nat.beq_refl d⟩
theorem nmemb {C : List Nat} {n : Nat} (h : memb C n = false) : n ∉ C := fun hm => by rw [memb_iff.2 hm] at h; cases h
theorem Zr.add (z : Zr E Ds L D l e Ec) (i d : Nat) (v : Value) (h : (Nat.blt i E.length && optB (Ds.getD i none) d && !memb L i && !memb D i) = true) : Zr E Ds (i :: L) D l e (upd Ec d v) := by
 simp only [Bool.and_eq_true, Bool.not_eq_true', optB_iff] at h
 obtain ⟨⟨⟨h0, h1⟩, h2⟩, h3⟩ := h
 have h0' : i < E.length := by simp [Nat.blt] at h0; omega
 refine ⟨z.nd, z.lt, z.dn, z.dep, z.done, fun j hj hl => (z.ld j hj hl).imp id fun h => List.mem_cons_of_mem _ h, fun t ht => ?_⟩
 have hne : t ≠ d := by
  rintro rfl
  rcases z.ld i h0' (ht i (by simp) h1) with h | h
  · exact nmemb h3 h
  · exact nmemb h2 h
 rw [upd_ne _ _ _ _ hne]
 exact z.env t fun j hj => ht j (List.mem_cons_of_mem _ hj)
def scan (E : List (List Nat)) : Nat → List Nat → List Nat
 | 0, acc => acc
 | n + 1, acc => scan E n (bif memb acc n then (E.getD n []).filter (fun j => !memb acc j) ++ acc else acc)
theorem scan_out {l : List Nat} (hE : ∀ i, i ∉ l → i < E.length → ∀ j ∈ E.getD i [], j ∉ l) (hlt : ∀ i ∈ l, i < E.length) : ∀ n acc, (∀ x ∈ acc, x ∉ l) → ∀ x ∈ scan E n acc, x ∉ l := by
 intro n
 induction n with
 | zero => intro acc h; exact h
 | succ n ih =>
  intro acc h
  refine ih _ fun x hx => ?_
  cases hm : memb acc n with
  | false => rw [hm] at hx; exact h x hx
  | true =>
   rw [hm] at hx
   simp only [cond_true, List.mem_append, List.mem_filter] at hx
   rcases hx with hx | hx
   · by_cases hn : n < E.length
     · exact hE n (h n (memb_iff.1 hm)) hn x hx.1
     · have : E.getD n [] = [] := by rw [List.getD_eq_getElem?_getD, List.getElem?_eq_none (by omega)]; rfl
       rw [this] at hx; cases hx.1
   · exact h x hx
theorem Zr.scan (z : Zr E Ds L D l e Ec) (n : Nat) : ∀ x ∈ V.scan E n D, x ∉ l := scan_out (fun i h1 h2 => z.dn i h2 h1) z.lt n D z.done
def pend (E : List (List Nat)) (n : Nat) (L D : List Nat) : List Nat := L.filter fun i => !memb (scan E n D) i
theorem scan_mem : ∀ (n : Nat) (acc : List Nat) (x : Nat), x ∈ acc → x ∈ V.scan E n acc := by
 intro n
 induction n with
 | zero => intro acc x h; exact h
 | succ n ih =>
  intro acc x h
  refine ih _ x ?_
  cases memb acc n with
  | false => exact h
  | true => exact List.mem_append.2 (.inr h)
theorem Zr.settle (z : Zr E Ds L D l e Ec) (n : Nat) : Zr E Ds (pend E n L D) (V.scan E n D) l e Ec := by
 have hs := z.scan n
 refine ⟨z.nd, z.lt, z.dn, z.dep, hs, fun i h1 h2 => ?_, fun t ht => z.env t fun j hj hd => ?_⟩
 · rcases z.ld i h1 h2 with h | h
   · exact .inl (scan_mem n D i h)
   · cases hm : memb (V.scan E n D) i with
     | true => exact .inl (memb_iff.1 hm)
     | false => exact .inr (List.mem_filter.2 ⟨h, by simp [hm]⟩)
 · cases hm : memb (V.scan E n D) j with
   | true => exact hs j (memb_iff.1 hm)
   | false => exact ht j (List.mem_filter.2 ⟨hj, by simp [hm]⟩) hd
theorem Zr.run {i d : Nat} (z : Zr E Ds L D (i :: l) e Ec) (hi : i ∈ L) (hd : Ds.getD i none = some d) : Zr E Ds L D l (upd e d (Ec d)) Ec := by
 have hnd := List.nodup_cons.1 z.nd
 refine ⟨hnd.2, fun j hj => z.lt j (List.mem_cons_of_mem _ hj), fun j hj hl x hx hm => ?_, fun a j b hab => z.dep (i :: a) j b (by rw [hab]; rfl), fun j hj hl => z.done j hj (List.mem_cons_of_mem _ hl), fun j hj hl => ?_, fun t ht => ?_⟩
 · by_cases hji : j = i
   · subst hji; exact z.dep [] j l rfl x hx (List.mem_cons_of_mem _ hm)
   · exact z.dn j hj (by simp [hji, hl]) x hx (List.mem_cons_of_mem _ hm)
 · by_cases hji : j = i
   · subst hji; exact .inr hi
   · exact z.ld j hj (by simp [hji, hl])
 · by_cases htd : t = d
   · subst htd; rw [upd_at]
   · rw [upd_ne _ _ _ _ htd]
     refine z.env t fun j hj hjt hm => ?_
     rcases List.mem_cons.1 hm with rfl | hm
     · rw [hd] at hjt; exact htd (Option.some.inj hjt).symm
     · exact ht j hj hjt hm
theorem Zr.eff {c d : Nat} {v : Value} (z : Zr E Ds L D (c :: l) e Ec) (hd : Ds.getD c none = some d) (hc : memb L c = false) : Zr E Ds L (c :: D) l (upd e d v) (upd Ec d v) := by
 have hnd := List.nodup_cons.1 z.nd
 refine ⟨hnd.2, fun j hj => z.lt j (List.mem_cons_of_mem _ hj), fun j hj hl x hx hm => ?_, fun a j b hab => z.dep (c :: a) j b (by rw [hab]; rfl), fun j hj hl => ?_, fun j hj hl => ?_, fun t ht => ?_⟩
 · by_cases hji : j = c
   · subst hji; exact z.dep [] j l rfl x hx (List.mem_cons_of_mem _ hm)
   · exact z.dn j hj (by simp [hji, hl]) x hx (List.mem_cons_of_mem _ hm)
 · rcases List.mem_cons.1 hj with rfl | hj
   · exact hnd.1 hl
   · exact z.done j hj (List.mem_cons_of_mem _ hl)
 · by_cases hji : j = c
   · exact .inl (by simp [hji])
   · exact (z.ld j hj (by simp [hji, hl])).imp (List.mem_cons_of_mem _) id
 · by_cases htd : t = d
   · subst htd; rw [upd_at, upd_at]
   · rw [upd_ne _ _ _ _ htd, upd_ne _ _ _ _ htd]
     refine z.env t fun j hj hjt hm => ?_
     rcases List.mem_cons.1 hm with rfl | hm
     · exact nmemb hc hj
     · exact ht j hj hjt hm
theorem Zr.eff0 {c : Nat} (z : Zr E Ds L D (c :: l) e Ec) (hc : memb L c = false) : Zr E Ds L (c :: D) l e Ec := by
 have hnd := List.nodup_cons.1 z.nd
 refine ⟨hnd.2, fun j hj => z.lt j (List.mem_cons_of_mem _ hj), fun j hj hl x hx hm => ?_, fun a j b hab => z.dep (c :: a) j b (by rw [hab]; rfl), fun j hj hl => ?_, fun j hj hl => ?_, fun t ht => ?_⟩
 · by_cases hji : j = c
   · subst hji; exact z.dep [] j l rfl x hx (List.mem_cons_of_mem _ hm)
   · exact z.dn j hj (by simp [hji, hl]) x hx (List.mem_cons_of_mem _ hm)
 · rcases List.mem_cons.1 hj with rfl | hj
   · exact hnd.1 hl
   · exact z.done j hj (List.mem_cons_of_mem _ hl)
 · by_cases hji : j = c
   · exact .inl (by simp [hji])
   · exact (z.ld j hj (by simp [hji, hl])).imp (List.mem_cons_of_mem _) id
 · refine z.env t fun j hj hjt hm => ?_
   rcases List.mem_cons.1 hm with rfl | hm
   · exact nmemb hc hj
   · exact ht j hj hjt hm
end
structure Tb (ops : Array Oper) (E : List (List Nat)) (Ds : List (Option Nat)) (Us : List (List Nat)) : Prop where
 e : eds .any ops = E
 d : dss ops = Ds
 u : lks ops = Us
def mix (pd : List (Option Nat)) (Ec e : Env) : Env := fun t => bif pd.any (fun x => optB x t) then e t else Ec t
def useB (E : List (List Nat)) (Ds : List (Option Nat)) (Us : List (List Nat)) (L : List Nat) : Bool :=
 allB L fun i => allB L fun j => match Ds.getD j none with
  | some t => !memb (Us.getD i []) t || memb (E.getD i []) j
  | none => true
def rangeB : Nat → (Nat → Bool) → Bool
 | 0, _ => true
 | n + 1, p => p n && rangeB n p
theorem rangeB_out {n : Nat} {p : Nat → Bool} (h : rangeB n p = true) : ∀ i, i < n → p i = true := by
 induction n with
 | zero => intro i hi; omega
 | succ n ih =>
  simp only [rangeB, Bool.and_eq_true] at h
  intro i hi
  by_cases hin : i = n
  · subst hin; exact h.1
  · exact ih h.2 i (by omega)
def anyB : List Nat → (Nat → Bool) → Bool
 | [], _ => false
 | x :: xs, p => p x || anyB xs p
theorem anyB_out {xs : List Nat} {p : Nat → Bool} (h : anyB xs p = true) : ∃ x ∈ xs, p x = true := by
 induction xs with
 | nil => cases h
 | cons y ys ih =>
  simp only [anyB, Bool.or_eq_true] at h
  rcases h with h | h
  · exact ⟨y, by simp, h⟩
  · obtain ⟨x, hx, hp⟩ := ih h; exact ⟨x, by simp [hx], hp⟩
def nextB (E : List (List Nat)) (L D : List Nat) (c : Nat) : Bool :=
 Nat.blt c E.length && !memb L c && !memb D c && rangeB E.length fun i => Nat.beq i c || memb L i || memb D i || anyB (E.getD i []) (fun j => Nat.blt j E.length && !memb L j && !memb D j)
section
variable {P : Program} {f : Who} {N : Nat} {O ρ : Type} {m : Option O} {G : O → Option ρ} {R : ρ → Ending → World → Prop} {k : List Item} {ops : Array Oper}
variable {E : List (List Nat)} {Ds : List (Option Nat)} {Us : List (List Nat)} {L D l : List Nat} {e Ec : Env} {w : World}
theorem quiet (tb : Tb ops E Ds Us) {i : Nat} (z : Zr E Ds L D (i :: l) e Ec) (hq : Pq P N ops Ec w L) (hu : useB E Ds Us L = true) (hi : i ∈ L)
    (h : ∀ e', Zr E Ds L D l e' Ec → TM P f N m G R (.inRegion ops l :: k) e' w) : TM P f N m G R (.inRegion ops (i :: l) :: k) e w := by
  obtain ⟨d, hv⟩ := hq.out hi
  have hv' : Qv P N ops e w i d (Ec d) := hv.congr fun t ht => by
    refine z.env t fun j hj hjt => ?_
    have := allB_out (allB_out hu i hi) j hj
    simp only [hjt] at this
    rw [tb.u] at ht
    rw [memb_iff.2 ht] at this
    simp only [Bool.not_true, Bool.false_or] at this
    intro hm
    exact z.dep [] i l rfl j (memb_iff.1 this) hm
  obtain ⟨o, ho, hd, hN, hs, hr⟩ := hv'
  have hdd : Ds.getD i none = some d := by
    rw [← tb.d]; simp [dss, List.getD_eq_getElem?_getD, ho, hd]
  have z' := z.run hi hdd
  rcases hr with ⟨hw, hr⟩ | ⟨hw, hr⟩
  · exact vl ho hd hN hw hr (h _ z')
  · rw [hr] at z'
    exact uw ho hd hN hw (h _ z')
theorem Xm (c : Nat) (pd : List (Option Nat)) (tb : Tb ops E Ds Us) (z : Zr E Ds L D l e Ec) (hq : Pq P N ops Ec w L) (hb : (useB E Ds Us L && nextB E L D c) = true)
    (hp : ((pend E E.length L [c]).map fun i => Ds.getD i none) = pd)
    (h : ∀ l' e', Zr E Ds L D (c :: l') (mix pd Ec e') Ec → TM P f N m G R (.inRegion ops (c :: l') :: k) (mix pd Ec e') w) : TM P f N m G R (.inRegion ops l :: k) e w := by
  simp only [Bool.and_eq_true] at hb
  obtain ⟨hu, hn⟩ := hb
  simp only [nextB, Bool.and_eq_true, Bool.not_eq_true'] at hn
  obtain ⟨⟨⟨hc, hcL⟩, hcD⟩, hn⟩ := hn
  have hc' : c < E.length := by simp [Nat.blt] at hc; omega
  induction l generalizing e with
  | nil =>
    rcases z.ld c hc' (by simp) with h | h
    · exact absurd h (nmemb hcD)
    · exact absurd h (nmemb hcL)
  | cons i l ih =>
    by_cases hi : i ∈ L
    · exact quiet tb z hq hu hi fun e' z' => ih z'
    · have hD : i ∉ D := fun h => z.done i h (by simp)
      have hlt := z.lt i (by simp)
      have := rangeB_out hn i hlt
      simp only [Bool.or_eq_true] at this
      have hic : i = c := by
        rcases this with ((h | h) | h) | h
        · exact Nat.eq_of_beq_eq_true h
        · exact absurd (memb_iff.1 h) hi
        · exact absurd (memb_iff.1 h) hD
        · obtain ⟨j, hj, hp⟩ := anyB_out h
          simp only [Bool.and_eq_true, Bool.not_eq_true'] at hp
          have hjl : j ∉ i :: l := z.dep [] i l rfl j hj
          have hjlt : j < E.length := by have := hp.1.1; simp [Nat.blt] at this; omega
          rcases z.ld j hjlt hjl with h | h
          · exact absurd h (nmemb hp.2)
          · exact absurd h (nmemb hp.1.2)
      subst hic
      have he : e = mix pd Ec e := by
        funext t
        unfold mix
        cases hm : pd.any (fun x => optB x t) with
        | true => rfl
        | false =>
          refine z.env t fun j hj hjt hm2 => ?_
          have hjp : memb (pend E E.length L [i]) j = false := by
            cases hh : memb (pend E E.length L [i]) j with
            | false => rfl
            | true =>
              have : pd.any (fun x => optB x t) = true := by
                rw [List.any_eq_true]
                refine ⟨some t, ?_, optB_iff.2 rfl⟩
                rw [← hp]
                exact List.mem_map.2 ⟨j, memb_iff.1 hh, hjt⟩
              rw [this] at hm; cases hm
          have hjs : j ∈ scan E E.length [i] := by
            cases hh : memb (scan E E.length [i]) j with
            | true => exact memb_iff.1 hh
            | false => exact absurd (List.mem_filter.2 ⟨hj, by simp [hh]⟩ : j ∈ pend E E.length L [i]) (nmemb hjp)
          have hnd := List.nodup_cons.1 z.nd
          have := scan_out (E := E) (l := l) (fun x hx hlt y hy hm => by
            by_cases hxi : x = i
            · subst hxi; exact z.dep [] x l rfl y hy (List.mem_cons_of_mem _ hm)
            · exact z.dn x hlt (by simp [hxi, hx]) y hy (List.mem_cons_of_mem _ hm)) (fun x hx => z.lt x (List.mem_cons_of_mem _ hx)) E.length [i] (by simpa using hnd.1) j hjs
          rcases List.mem_cons.1 hm2 with rfl | hm2
          · exact nmemb hcL hj
          · exact this hm2
      rw [he] at z ⊢
      exact h l e z
theorem zdone {d : Nat} {v : Value} {l' L' D' : List Nat} {c : Nat} {e1 E1 : Env} (z : Zr E Ds L D (c :: l') e1 E1) (hb : (optB (Ds.getD c none) d && !memb L c) = true)
    (hL : pend E E.length L (c :: D) = L') (hD : scan E E.length (c :: D) = D')
    (h : Zr E Ds L' D' l' (upd e1 d v) (upd E1 d v) → TM P f N m G R (.inRegion ops l' :: k) (upd e1 d v) w) : TM P f N m G R (.inRegion ops l' :: k) (upd e1 d v) w := by
  simp only [Bool.and_eq_true, Bool.not_eq_true'] at hb
  have := (z.eff (v := v) (optB_iff.1 hb.1) hb.2).settle E.length
  rw [hL, hD] at this
  exact h this
theorem Xh {d : Nat} {v : Value} {l' L' D' : List Nat} {c : Nat} {e1 E1 : Env} (z : Zr E Ds L D (c :: l') e1 E1) (t1 : E3 ((optB (Ds.getD c none) d && !memb L c)) (true) (pend E E.length L (c :: D)) (L') (scan E E.length (c :: D)) (D')) (h : Zr E Ds L' D' l' (upd e1 d v) (upd E1 d v) → TM P f N m G R (.inRegion ops l' :: k) (upd e1 d v) w) : TM P f N m G R (.inRegion ops l' :: k) (upd e1 d v) w := zdone z (e3_ t1).1 (e3_ t1).2.1 (e3_ t1).2.2 h
theorem zdone0 {l' L' D' : List Nat} {c : Nat} {e1 E1 : Env} (z : Zr E Ds L D (c :: l') e1 E1) (hb : memb L c = false)
    (hL : pend E E.length L (c :: D) = L') (hD : scan E E.length (c :: D) = D')
    (h : Zr E Ds L' D' l' e1 E1 → TM P f N m G R (.inRegion ops l' :: k) e1 w) : TM P f N m G R (.inRegion ops l' :: k) e1 w := by
  have := (z.eff0 hb).settle E.length
  rw [hL, hD] at this
  exact h this
def chainB (E : List (List Nat)) : List Nat → Bool
 | [] => true
 | [_] => true
 | r :: r' :: rs => memb (E.getD r' []) r && chainB E (r' :: rs)
def finB (E : List (List Nat)) (Ds : List (Option Nat)) (Us : List (List Nat)) (L D rest : List Nat) : Bool :=
  useB E Ds Us L && rangeB E.length (fun i => memb L i || memb D i || memb rest i) && allB rest (fun i => !memb L i && !memb D i && Nat.blt i E.length) && chainB E rest &&
    (match rest with
     | [] => true
     | r :: _ => allB L fun i => memb (scan E E.length [r]) i)
theorem chain_eq {E : List (List Nat)} : ∀ (rest l : List Nat), chainB E rest = true → l.Nodup → rest.Nodup → (∀ i, i ∈ l ↔ i ∈ rest) → (∀ a i b, l = a ++ i :: b → ∀ j ∈ E.getD i [], j ∉ i :: b) → l = rest
 | [], l, _, _, _, hm, _ => by
  cases l with
  | nil => rfl
  | cons x l => exact absurd ((hm x).1 (by simp)) (by simp)
 | r :: rs, l, hc, hn, hn2, hm, hd => by
  cases l with
  | nil => exact absurd ((hm r).2 (by simp)) (by simp)
  | cons x l =>
   have hxr : x = r := by
    by_cases h : x = r
    · exact h
    · exfalso
      have hx : x ∈ rs := by
       have := (hm x).1 (by simp)
       simpa [h] using this
      have key : ∀ (r : Nat) (rs : List Nat), chainB E (r :: rs) = true → x ∈ rs → ∃ y ∈ r :: rs, y ∈ E.getD x [] := by
       intro r rs
       induction rs generalizing r with
       | nil => intro _ h; cases h
       | cons r' rs ih =>
        intro hc hx
        simp only [chainB, Bool.and_eq_true] at hc
        rcases List.mem_cons.1 hx with rfl | hx
        · exact ⟨r, by simp, memb_iff.1 hc.1⟩
        · obtain ⟨y, hy, hy2⟩ := ih r' hc.2 hx
          exact ⟨y, List.mem_cons_of_mem _ hy, hy2⟩
      obtain ⟨y, hy, hy2⟩ := key r rs hc hx
      exact hd [] x l rfl y hy2 ((hm y).2 hy)
   subst hxr
   have h1 := List.nodup_cons.1 hn
   have h2 := List.nodup_cons.1 hn2
   rw [chain_eq rs l (by cases rs with
    | nil => rfl
    | cons r' rs => simp only [chainB, Bool.and_eq_true] at hc; exact hc.2) h1.2 h2.2 (fun i => ⟨fun hi => by
     have := (hm i).1 (List.mem_cons_of_mem _ hi)
     rcases List.mem_cons.1 this with rfl | h
     · exact absurd hi h1.1
     · exact h, fun hi => by
     have := (hm i).2 (List.mem_cons_of_mem _ hi)
     rcases List.mem_cons.1 this with rfl | h
     · exact absurd hi h2.1
     · exact h⟩) (fun a i b hab => hd (x :: a) i b (by rw [hab]; rfl))]
theorem Xu (rest : List Nat) (tb : Tb ops E Ds Us) (z : Zr E Ds L D l e Ec) (hq : Pq P N ops Ec w L) (hb : finB E Ds Us L D rest = true) (hnd : rest.Nodup)
    (h : TM P f N m G R (.inRegion ops rest :: k) Ec w) : TM P f N m G R (.inRegion ops l :: k) e w := by
  simp only [finB, Bool.and_eq_true] at hb
  obtain ⟨⟨⟨⟨hu, hr⟩, ha⟩, hc⟩, hs⟩ := hb
  -- when none of L is left
  have fin : ∀ l e, Zr E Ds L D l e Ec → (∀ i ∈ L, i ∉ l) → TM P f N m G R (.inRegion ops l :: k) e w := by
    intro l e z hL
    have he : e = Ec := funext fun t => z.env t fun j hj _ => hL j hj
    have hl : l = rest := chain_eq rest l hc z.nd hnd (fun i => ⟨fun hi => by
      have := rangeB_out hr i (z.lt i hi)
      simp only [Bool.or_eq_true] at this
      rcases this with (h | h) | h
      · exact absurd hi (hL i (memb_iff.1 h))
      · exact absurd hi (z.done i (memb_iff.1 h))
      · exact memb_iff.1 h, fun hi => by
      have := allB_out ha i hi
      simp only [Bool.and_eq_true, Bool.not_eq_true'] at this
      by_cases hil : i ∈ l
      · exact hil
      · rcases z.ld i (by have := this.2; simp [Nat.blt] at this; omega) hil with h | h
        · exact absurd h (nmemb this.1.2)
        · exact absurd h (nmemb this.1.1)⟩) z.dep
    rw [he, hl]; exact h
  induction l generalizing e with
  | nil => exact fin _ _ z fun i _ => by simp
  | cons i l ih =>
    by_cases hi : i ∈ L
    · exact quiet tb z hq hu hi fun e' z' => ih z'
    · refine fin _ _ z fun j hj hm => ?_
      have hir : i ∈ rest := by
        have := rangeB_out hr i (z.lt i (by simp))
        simp only [Bool.or_eq_true] at this
        rcases this with (h | h) | h
        · exact absurd (memb_iff.1 h) hi
        · exact absurd (by simp) (z.done i (memb_iff.1 h))
        · exact memb_iff.1 h
      cases rest with
      | nil => cases hir
      | cons r rs =>
        simp only [] at hs
        -- r is i, or r is done, or something ahead of i is left
        have hjs := memb_iff.1 (allB_out hs j hj)
        have hri : r = i := by
          by_cases h : r = i
          · exact h
          · exfalso
            have key : ∀ (r : Nat) (rs : List Nat), chainB E (r :: rs) = true → i ∈ rs → ∃ y ∈ r :: rs, y ∈ E.getD i [] := by
              intro r rs
              induction rs generalizing r with
              | nil => intro _ h; cases h
              | cons r' rs ih =>
                intro hc hx
                simp only [chainB, Bool.and_eq_true] at hc
                rcases List.mem_cons.1 hx with rfl | hx
                · exact ⟨r, by simp, memb_iff.1 hc.1⟩
                · obtain ⟨y, hy, hy2⟩ := ih r' hc.2 hx
                  exact ⟨y, List.mem_cons_of_mem _ hy, hy2⟩
            obtain ⟨y, hy, hy2⟩ := key r rs hc (by
              rcases List.mem_cons.1 hir with h2 | h2
              · exact absurd h2.symm h
              · exact h2)
            have hyl := z.dep [] i l rfl y hy2
            have := allB_out ha y hy
            simp only [Bool.and_eq_true, Bool.not_eq_true'] at this
            rcases z.ld y (by have := this.2; simp [Nat.blt] at this; omega) hyl with h | h
            · exact nmemb this.1.2 h
            · exact nmemb this.1.1 h
        subst hri
        have hnd2 := List.nodup_cons.1 z.nd
        have := scan_out (E := E) (l := l) (fun x hx hlt y hy hmy => by
          by_cases hxi : x = r
          · subst hxi; exact z.dep [] x l rfl y hy (List.mem_cons_of_mem _ hmy)
          · exact z.dn x hlt (by simp [hxi, hx]) y hy (List.mem_cons_of_mem _ hmy)) (fun x hx => z.lt x (List.mem_cons_of_mem _ hx)) E.length [r] (by simpa using hnd2.1) j hjs
        rcases List.mem_cons.1 hm with rfl | hm
        · exact hi hj
        · exact this hm
theorem Ya {id : Nat} {s : St} {e : Env} (E : List (List Nat)) (Ds : List (Option Nat)) (Us : List (List Nat)) (rs : List Nat) (tb : Tb ops E Ds Us) (hr : okA ops rs = true)
    (h : ∀ s', Stp [] s s' → ∀ l, Tb ops E Ds Us → Zr E Ds [] [] l e e → TM P f N m G R (.inRegion ops l :: k) e s'.w) : TM P f N m G R (.code (.region id ops true) :: k) e s.w := by
  intro o ho r hG
  refine T_draw fun t => ?_
  have hx := sched_ext hr (P.follows .mixedOrders) t
  rw [tb.e] at hx
  exact h ⟨{ s.w with drawn := s.w.drawn + 1 }, s.g⟩ ⟨rfl, rfl, rfl, Nat.le_refl _, fun _ _ _ => rfl, fun _ _ _ => ⟨rfl, rfl⟩⟩ _ tb (Zr.start hx (by rw [← tb.e]; simp [eds])) o ho r hG
end
end Go.Proofs.YtlpbggnpiogioaaGreat.V
set_option linter.unusedVariables false
set_option linter.unusedSimpArgs false
namespace Go.Proofs.YtlpbggnpiogioaaGreat.V
open Go
section
variable {P : Program} {N : Nat} {e : Env} {s : St} {ops : Array Oper} {i d : Nat} {o : Oper}
theorem fa_q {t j q : Nat} {x : Operand} {ad : Addr} (hf : ∀ (a : Addr) (w : World), (Instr.fieldAt t (.pointer (some a)) j).run P w = .ok (.pointer (some (a.add q))) w)
    (ho : ops[i]? = some o) (hd : o.dst = some d) (hN : Nat.blt d N = true) (hw : Region.wanted o (yv e ops) = true) (hop : o.op = .fieldAddr t x j) (hx : ev e x = .pointer (some ad)) : Qv P N ops e s.w i d (.pointer (some (ad.add q))) :=
  ⟨o, ho, hd, hN, by simp only [selB, hop], .inl ⟨hw, (by simp [execOp, hop, hx, hf, Result.andThen])⟩⟩
theorem Xj {t j q : Nat} {x : Operand} {ad : Addr} (hf : ∀ (a : Addr) (w : World), (Instr.fieldAt t (.pointer (some a)) j).run P w = .ok (.pointer (some (a.add q))) w) (t1 : E6 (ops[i]?) (some o) (o.dst) (some d) (Nat.blt d N) (true) (Region.wanted o (yv e ops)) (true) (o.op) (.fieldAddr t x j) (ev e x) (.pointer (some ad))) : Qv P N ops e s.w i d (.pointer (some (ad.add q))) := fa_q hf (e6_ t1).1 (e6_ t1).2.1 (e6_ t1).2.2.1 (e6_ t1).2.2.2.1 (e6_ t1).2.2.2.2.1 (e6_ t1).2.2.2.2.2
theorem ld_q {t b q : Nat} {tb : TypeId} {dd : TypeDesc} {x : Operand} {cs : List Value} {c : Nat} {v : Value} (hB : BlF s b tb cs c) (hu : P.underlying t = some dd)
    (ho : ops[i]? = some o) (hd : o.dst = some d) (hN : Nat.blt d N = true) (hw : Region.wanted o (yv e ops) = true) (hop : o.op = .load t x) (hr : dd.isRow = false) (hx : ev e x = .pointer (some ⟨b, q, none⟩)) (hv : cs[q]? = some v) : Qv P N ops e s.w i d v :=
  ⟨o, ho, hd, hN, by simp only [selB, hop], .inl ⟨hw, (by simp [execOp, hop, hx, load_run hu hr (bl_cell hB hv), Result.andThen])⟩⟩
theorem Xl {t b q : Nat} {tb : TypeId} {dd : TypeDesc} {x : Operand} {cs : List Value} {c : Nat} {v : Value} (hB : BlF s b tb cs c) (hu : P.underlying t = some dd) (t2 : E8 (ops[i]?) (some o) (o.dst) (some d) (Nat.blt d N) (true) (Region.wanted o (yv e ops)) (true) (o.op) (.load t x) (dd.isRow) (false) (ev e x) (.pointer (some ⟨b, q, none⟩)) (cs[q]?) (some v)) : Qv P N ops e s.w i d v := ld_q hB hu (e8_ t2).1 (e8_ t2).2.1 (e8_ t2).2.2.1 (e8_ t2).2.2.2.1 (e8_ t2).2.2.2.2.1 (e8_ t2).2.2.2.2.2.1 (e8_ t2).2.2.2.2.2.2.1 (e8_ t2).2.2.2.2.2.2.2
theorem lda_q {t b q : Nat} {tb : TypeId} {dd : TypeDesc} {x : Operand} {cs es : List Value} {c : Nat} (hB : BlF s b tb cs c) (hu : P.underlying t = some dd) (hs : (P.info? t).map (·.size) = some es.length)
    (ho : ops[i]? = some o) (hd : o.dst = some d) (hN : Nat.blt d N = true) (hw : Region.wanted o (yv e ops) = true) (hop : o.op = .load t x) (hr : dd.isRow = true) (hx : ev e x = .pointer (some ⟨b, q, none⟩)) (hv : (cs.drop q).take es.length = es) : Qv P N ops e s.w i d (.agg es.toArray) :=
  ⟨o, ho, hd, hN, by simp only [selB, hop], .inl ⟨hw, (by
    have := loadAgg_run (P := P) (w := s.w) (ad := ⟨b, q, none⟩) hu hr hs fun j u hj => by
      rw [Addr.add_mid]
      refine bl_cell hB ?_
      rw [← hv, List.getElem?_take] at hj
      split at hj
      · rw [List.getElem?_drop] at hj; exact hj
      · cases hj
    simp [execOp, hop, hx, this, Result.andThen])⟩⟩
theorem Xp {t b q : Nat} {tb : TypeId} {dd : TypeDesc} {x : Operand} {cs es : List Value} {c : Nat} (hB : BlF s b tb cs c) (hu : P.underlying t = some dd) (hs : (P.info? t).map (·.size) = some es.length) (t3 : E8 (ops[i]?) (some o) (o.dst) (some d) (Nat.blt d N) (true) (Region.wanted o (yv e ops)) (true) (o.op) (.load t x) (dd.isRow) (true) (ev e x) (.pointer (some ⟨b, q, none⟩)) ((cs.drop q).take es.length) (es)) : Qv P N ops e s.w i d (.agg es.toArray) := lda_q hB hu hs (e8_ t3).1 (e8_ t3).2.1 (e8_ t3).2.2.1 (e8_ t3).2.2.2.1 (e8_ t3).2.2.2.2.1 (e8_ t3).2.2.2.2.2.1 (e8_ t3).2.2.2.2.2.2.1 (e8_ t3).2.2.2.2.2.2.2
theorem lc_q {t q : Nat} {dd : TypeDesc} {x : Operand} {ad : Addr} {es : List Value} {C : List Nat} {v : Value} (hC : CeF s ad es C) (hu : P.underlying t = some dd)
    (ho : ops[i]? = some o) (hd : o.dst = some d) (hN : Nat.blt d N = true) (hw : Region.wanted o (yv e ops) = true) (hop : o.op = .load t x) (hr : dd.isRow = false) (hx : ev e x = .pointer (some (ad.add q))) (hv : es[q]? = some v) : Qv P N ops e s.w i d v :=
  ⟨o, ho, hd, hN, by simp only [selB, hop], .inl ⟨hw, (by simp [execOp, hop, hx, load_run hu hr (hC.2 q v hv), Result.andThen])⟩⟩
theorem lc0_q {t : Nat} {dd : TypeDesc} {x : Operand} {ad : Addr} {es : List Value} {C : List Nat} {v : Value} (hC : CeF s ad es C) (hu : P.underlying t = some dd)
    (ho : ops[i]? = some o) (hd : o.dst = some d) (hN : Nat.blt d N = true) (hw : Region.wanted o (yv e ops) = true) (hop : o.op = .load t x) (hr : dd.isRow = false) (hx : ev e x = .pointer (some ad)) (hv : es[0]? = some v) : Qv P N ops e s.w i d v :=
  ⟨o, ho, hd, hN, by simp only [selB, hop], .inl ⟨hw, (by have := hC.2 0 v hv; rw [add_zero] at this; simp [execOp, hop, hx, load_run hu hr this, Result.andThen])⟩⟩
theorem lc0_q' {t : Nat} {dd : TypeDesc} {x : Operand} {ad : Addr} {es : List Value} {C : List Nat} {v : Value} (hC : CeF s ad es C) (hu : P.underlying t = some dd) (t2 : E8 (ops[i]?) (some o) (o.dst) (some d) (Nat.blt d N) (true) (Region.wanted o (yv e ops)) (true) (o.op) (.load t x) (dd.isRow) (false) (ev e x) (.pointer (some ad)) (es[0]?) (some v)) : Qv P N ops e s.w i d v := lc0_q hC hu (e8_ t2).1 (e8_ t2).2.1 (e8_ t2).2.2.1 (e8_ t2).2.2.2.1 (e8_ t2).2.2.2.2.1 (e8_ t2).2.2.2.2.2.1 (e8_ t2).2.2.2.2.2.2.1 (e8_ t2).2.2.2.2.2.2.2
theorem lca_q {t : Nat} {dd : TypeDesc} {x : Operand} {ad : Addr} {es : List Value} {C : List Nat} (hC : CeF s ad es C) (hu : P.underlying t = some dd) (hs : (P.info? t).map (·.size) = some es.length)
    (ho : ops[i]? = some o) (hd : o.dst = some d) (hN : Nat.blt d N = true) (hw : Region.wanted o (yv e ops) = true) (hop : o.op = .load t x) (hr : dd.isRow = true) (hx : ev e x = .pointer (some ad)) : Qv P N ops e s.w i d (.agg es.toArray) :=
  ⟨o, ho, hd, hN, by simp only [selB, hop], .inl ⟨hw, (by simp [execOp, hop, hx, loadAgg_run hu hr hs hC.2, Result.andThen])⟩⟩
theorem lca_q' {t : Nat} {dd : TypeDesc} {x : Operand} {ad : Addr} {es : List Value} {C : List Nat} (hC : CeF s ad es C) (hu : P.underlying t = some dd) (hs : (P.info? t).map (·.size) = some es.length) (t3 : E7 (ops[i]?) (some o) (o.dst) (some d) (Nat.blt d N) (true) (Region.wanted o (yv e ops)) (true) (o.op) (.load t x) (dd.isRow) (true) (ev e x) (.pointer (some ad))) : Qv P N ops e s.w i d (.agg es.toArray) := lca_q hC hu hs (e7_ t3).1 (e7_ t3).2.1 (e7_ t3).2.2.1 (e7_ t3).2.2.2.1 (e7_ t3).2.2.2.2.1 (e7_ t3).2.2.2.2.2.1 (e7_ t3).2.2.2.2.2.2
theorem ln_q {α : Type} {te t : TypeId} {K : Kd α} {v : Value} {xs : List α} {C : List Nat} {x : Operand} (hF : RdF (Kd.sl te K) s [v] xs C) (hu : P.underlying t = some (.slice te))
    (ho : ops[i]? = some o) (hd : o.dst = some d) (hN : Nat.blt d N = true) (hw : Region.wanted o (yv e ops) = true) (hop : o.op = .call { callee := .builtin .len, args := #[x], argTypes := #[t] }) (hx : ev e x = v) : Qv P N ops e s.w i d (.int .i64 (xs.length : Int)) :=
  by
  obtain ⟨v', e1, A, cap, cells, e2, _⟩ := hF
  obtain rfl : v = v' := by simpa using e1
  exact ⟨o, ho, hd, hN, by simp only [selB, hop], .inl ⟨hw, (by simp [execOp, hop, resolve, invoke, builtin, Builtin.len_, hx, e2, run_underlying hu, goInt, Result.andThen])⟩⟩
theorem ln_q' {α : Type} {te t : TypeId} {K : Kd α} {v : Value} {xs : List α} {C : List Nat} {x : Operand} (hF : RdF (Kd.sl te K) s [v] xs C) (hu : P.underlying t = some (.slice te)) (t2 : E6 (ops[i]?) (some o) (o.dst) (some d) (Nat.blt d N) (true) (Region.wanted o (yv e ops)) (true) (o.op) (.call { callee := .builtin .len, args := #[x], argTypes := #[t] }) (ev e x) (v)) : Qv P N ops e s.w i d (.int .i64 (xs.length : Int)) := ln_q hF hu (e6_ t2).1 (e6_ t2).2.1 (e6_ t2).2.2.1 (e6_ t2).2.2.2.1 (e6_ t2).2.2.2.2.1 (e6_ t2).2.2.2.2.2
theorem bd_q {t : Nat} {parts : Array (Nat × Operand)} {z : Value} {pl : Array (Nat × Nat)} {cells : List Value} (hpl : PlF P t pl) (hz : (P.info? t).bind (·.zero) = some z)
    (ho : ops[i]? = some o) (hd : o.dst = some d) (hN : Nat.blt d N = true) (hw : Region.wanted o (yv e ops) = true) (hop : o.op = .build t parts) (hfill : lfill (pl[·]?) z.cells.toList (parts.toList.map fun (i, x) => (i, ev e x)) = some cells) : Qv P N ops e s.w i d (.agg cells.toArray) :=
  ⟨o, ho, hd, hN, by simp only [selB, hop], .inl ⟨hw, (by
    obtain ⟨fs, hu, hpl⟩ := hpl
    have : (Instr.build t (parts.map fun (i, x) => (i, ev e x))).run P s.w = .ok (.agg cells.toArray) s.w := by
      have hfl := lfill_eq _ _ _ _ hfill
      unfold Instr.build
      rw [Sem.run_bind', zero_run hz]
      simp only [Result.andThen]
      rw [Sem.run_bind', run_underlying hu]
      simp only [Result.andThen]
      rw [Sem.run_bind', hpl]
      simp only [Result.andThen]
      simp only [] at hfl
      simp only [Array.toList_map, hfl]
      rfl
    simp [execOp, hop, this, Result.andThen])⟩⟩
theorem bd_q' {t : Nat} {parts : Array (Nat × Operand)} {z : Value} {pl : Array (Nat × Nat)} {cells : List Value} (hpl : PlF P t pl) (hz : (P.info? t).bind (·.zero) = some z) (t2 : E5 (ops[i]?) (some o) (o.dst) (some d) (Nat.blt d N) (true) (Region.wanted o (yv e ops)) (true) (o.op) (.build t parts)) (hfill : lfill (pl[·]?) z.cells.toList (parts.toList.map fun (i, x) => (i, ev e x)) = some cells) : Qv P N ops e s.w i d (.agg cells.toArray) := bd_q hpl hz (e5_ t2).1 (e5_ t2).2.1 (e5_ t2).2.2.1 (e5_ t2).2.2.2.1 (e5_ t2).2.2.2.2 hfill
theorem pu_q {v : Value} (ho : ops[i]? = some o) (hd : o.dst = some d) (hN : Nat.blt d N = true) (hw : Region.wanted o (yv e ops) = true) (hs : selB o = false) (hx : ex e o.op = some v) : Qv P N ops e s.w i d v :=
 ⟨o, ho, hd, hN, hs, .inl ⟨hw, ex_run hx⟩⟩
theorem Xc {v : Value} (t0 : E6 (ops[i]?) (some o) (o.dst) (some d) (Nat.blt d N) (true) (Region.wanted o (yv e ops)) (true) (selB o) (false) (ex e o.op) (some v)) : Qv P N ops e s.w i d v := pu_q (e6_ t0).1 (e6_ t0).2.1 (e6_ t0).2.2.1 (e6_ t0).2.2.2.1 (e6_ t0).2.2.2.2.1 (e6_ t0).2.2.2.2.2
theorem uw_q (ho : ops[i]? = some o) (hd : o.dst = some d) (hN : Nat.blt d N = true) (hw : Region.wanted o (yv e ops) = false) (hs : selB o = false) : Qv P N ops e s.w i d undef :=
 ⟨o, ho, hd, hN, hs, .inr ⟨hw, rfl⟩⟩
theorem Xi (t0 : E5 (ops[i]?) (some o) (o.dst) (some d) (Nat.blt d N) (true) (Region.wanted o (yv e ops)) (false) (selB o) (false)) : Qv P N ops e s.w i d undef := uw_q (e5_ t0).1 (e5_ t0).2.1 (e5_ t0).2.2.1 (e5_ t0).2.2.2.1 (e5_ t0).2.2.2.2
theorem mv_q {x : Operand} (v : Value) (ho : ops[i]? = some o) (hd : o.dst = some d) (hN : Nat.blt d N = true) (hw : Region.wanted o (yv e ops) = true) (hop : o.op = .move x) (hx : ev e x = v) : Qv P N ops e s.w i d v :=
 ⟨o, ho, hd, hN, by simp only [selB, hop], .inl ⟨hw, by simp [execOp, hop, hx]⟩⟩
theorem Xq {x : Operand} (v : Value) (t1 : E6 (ops[i]?) (some o) (o.dst) (some d) (Nat.blt d N) (true) (Region.wanted o (yv e ops)) (true) (o.op) (.move x) (ev e x) (v)) : Qv P N ops e s.w i d v := mv_q v (e6_ t1).1 (e6_ t1).2.1 (e6_ t1).2.2.1 (e6_ t1).2.2.2.1 (e6_ t1).2.2.2.2.1 (e6_ t1).2.2.2.2.2
theorem asg_q {x : Operand} (v : Value) (ho : ops[i]? = some o) (hd : o.dst = some d) (hN : Nat.blt d N = true) (hw : Region.wanted o (yv e ops) = true) (hop : o.op = .assign x) (hx : ev e x = v) : Qv P N ops e s.w i d v :=
 ⟨o, ho, hd, hN, by simp only [selB, hop], .inl ⟨hw, by simp [execOp, hop, hx]⟩⟩
theorem ix_e {α : Type} [Inhabited α] {te : TypeId} {K : Kd α} {v : Value} {xs : List α} {C : List Nat} {ii : Int} (hF : RdF (Kd.sl te K) s [v] xs C) (hn : Nat.ble 1 K.n = true) (h0 : 0 ≤ ii) (h1 : ii < xs.length) :
    ∃ ad es, RdF K s es (at_ xs ii) C ∧ CeF s ad es C ∧ IxA v K.n ii ad := by
  obtain ⟨A, cap, es, hv, hrd, hce⟩ := rd_elem hF hn h0 h1
  exact ⟨_, es, hrd, hce, A, _, cap, hv, rfl⟩
theorem ix_q {α : Type} {te t n : TypeId} {K : Kd α} {v : Value} {xs : List α} {C : List Nat} {kk : IntKind} {ii : Int} {X I : Operand} {ad : Addr} (hF : RdF (Kd.sl te K) s [v] xs C) (hu : P.underlying t = some (.slice te)) (hs : (P.info? te).map (·.size) = some n) (h0 : 0 ≤ ii) (h1 : ii < xs.length) (ha : IxA v n ii ad)
    (ho : ops[i]? = some o) (hd : o.dst = some d) (hN : Nat.blt d N = true) (hw : Region.wanted o (yv e ops) = true) (hop : o.op = .indexAddr t X I) (hX : ev e X = v) (hI : ev e I = .int kk ii) : Qv P N ops e s.w i d (.pointer (some ad)) := by
  obtain ⟨v', e1, A, cap, cells, e2, hcap, hels, hc⟩ := hF
  obtain rfl : v = v' := by simpa using e1
  obtain ⟨A', l', cap', e3, rfl⟩ := ha
  rw [e3] at e2
  obtain ⟨rfl, rfl, rfl⟩ : some A' = A ∧ l' = xs.length ∧ cap' = cap := by injection e2 with a b c; exact ⟨a, b, c⟩
  refine ⟨o, ho, hd, hN, by simp only [selB, hop], .inl ⟨hw, ?_⟩⟩
  have h1' := h1
  simp [execOp, hop, hX, hI, Instr.indexAt, asIntOf, run_underlying hu, e3, h0, h1', size_run hs, Result.andThen]
theorem Yg {α : Type} {te t n : TypeId} {K : Kd α} {v : Value} {xs : List α} {C : List Nat} {kk : IntKind} {ii : Int} {X I : Operand} {ad : Addr} (hF : RdF (Kd.sl te K) s [v] xs C) (hu : P.underlying t = some (.slice te)) (hs : (P.info? te).map (·.size) = some n) (h0 : 0 ≤ ii) (h1 : ii < xs.length) (ha : IxA v n ii ad) (t6 : E7 (ops[i]?) (some o) (o.dst) (some d) (Nat.blt d N) (true) (Region.wanted o (yv e ops)) (true) (o.op) (.indexAddr t X I) (ev e X) (v) (ev e I) (.int kk ii)) : Qv P N ops e s.w i d (.pointer (some ad)) := ix_q hF hu hs h0 h1 ha (e7_ t6).1 (e7_ t6).2.1 (e7_ t6).2.2.1 (e7_ t6).2.2.2.1 (e7_ t6).2.2.2.2.1 (e7_ t6).2.2.2.2.2.1 (e7_ t6).2.2.2.2.2.2
end
end Go.Proofs.YtlpbggnpiogioaaGreat.V
set_option linter.unusedVariables false
set_option linter.unusedSimpArgs false
namespace Go.Proofs.YtlpbggnpiogioaaGreat.V
open Go
section
variable {P : Program} {w : World}
end
section
variable {P : Program} {f : Who} {N : Nat} {O ρ : Type} {m : Option O} {G : O → Option ρ} {R : ρ → Ending → World → Prop} {e : Env} {s : St} {k : List Item} {ops : Array Oper} {i d : Nat} {rest : List Nat} {o : Oper}
theorem nq {α : Type} {t te : TypeId} {K : Kd α} {v : Value} {xs : List α} {C : List Nat} {x : Operand} {t2 : TypeId} (hF : RdF (Kd.sl te K) s [v] xs C) (hu : P.underlying t = some (.slice te))
    (ho : ops[i]? = some o) (hd : o.dst = some d) (hN : Nat.blt d N = true) (hw : Region.wanted o (yv e ops) = true) (hop : o.op = .binOp .eql t x (.const (.slice none 0 0)) t2) (hx : ev e x = v) (hK : Nat.ble 1 K.n = true)
    (h : ∀ b : Bool, (b = true → xs = []) → TM P f N m G R (.inRegion ops rest :: k) (upd e d (.bool b)) s.w) : TM P f N m G R (.inRegion ops (i :: rest) :: k) e s.w := by
  obtain ⟨v1, e1, A, cap, cells, hv, hcap, hels, hc⟩ := hF
  obtain rfl : v = v1 := by simpa using e1
  have hn := Nat.le_of_ble_eq_true hK
  refine vl (v := .bool A.isNone) ho hd hN hw ?_ (h _ fun hA => ?_)
  · have : (Op.equal t (.slice A xs.length cap) (.slice none 0 0)).run P s.w = .ok A.isNone s.w := by
      unfold Op.equal Op.maxDepth Op.equalIn
      rw [Sem.run_bind', run_underlying hu]
      cases A <;> simp [Result.andThen]
    have h2 : ev e (.const (.slice none 0 0)) = .slice none 0 0 := rfl
    simp only [execOp, hop, h2, hx, hv, binOp, eqGuard]
    simp [this, Result.andThen]
  · cases xs with
    | nil => rfl
    | cons x xs =>
      have hl := hels.len
      have : cells ≠ [] := by
        intro h
        rw [h, List.length_nil, List.length_cons, Nat.add_mul] at hl
        omega
      obtain ⟨ad, rfl, _⟩ := hc this
      cases hA
theorem cdb {c : Operand} {x y : Code} {b : Bool} {w : World} (hc : ev e c = .bool b) (h1 : b = true → TM P f N m G R (.code x :: k) e w) (h2 : b = false → TM P f N m G R (.code y :: k) e w) :
    TM P f N m G R (.code (.cond c x y) :: k) e w := by
  cases b with
  | true => exact cdt hc (h1 rfl)
  | false => exact cdf hc (h2 rfl)
def str (xs : List Int) : ByteArray := xs.foldl (fun r n => r.push (UInt8.ofNat n.toNat)) ByteArray.empty
theorem els_u8 {w : World} {F : Nat → Prop} : ∀ {xs : List Int} {cells : List Value}, ElsR (Kd.int .u8) w F xs cells → cells = xs.map (.int .u8)
 | [], cells, h => h
 | x :: xs, cells, ⟨c1, c2, e, h1, h2⟩ => by
  have h1' : c1 = [.int .u8 x] := h1
  rw [e, h1', els_u8 h2]; rfl
theorem slo {α : Type} {K : Kd α} {t te : TypeId} {v : Value} {xs : List α} {c : Nat} {x q : Operand} {k2 : IntKind} {b : Int} (hK : FlK K) (hF : OwF (Kd.sl te K) s [v] xs c) (hu : P.underlying t = some (.slice te)) (hs : (P.info? te).map (·.size) = some K.n)
    (ho : ops[i]? = some o) (hd : o.dst = some d) (hN : Nat.blt d N = true) (hw : Region.wanted o (yv e ops) = true) (hop : o.op = .slice t x none (some q) none) (hx : ev e x = v) (hq : ev e q = .int k2 b)
    (h : ∀ v', OwF (Kd.sl te K) s [v'] (xs.take b.toNat) c → TM P f N m G R (.inRegion ops rest :: k) (upd e d v') s.w) : TM P f N (if 0 ≤ b ∧ b ≤ xs.length then m else none) G R (.inRegion ops (i :: rest) :: k) e s.w := by
  refine mg fun hg => ?_
  obtain ⟨b, rfl⟩ := Int.eq_ofNat_of_zero_le hg.1
  have hb : b ≤ xs.length := by have := hg.2; omega
  obtain ⟨os, ⟨v1, e1, cells, o1, o2, rfl, hR, hE⟩, hnd, hcol⟩ := hF
  obtain rfl : v = v1 := by simpa using e1
  have hE2 := hE.rd.take b
  simp only [Int.toNat_natCast] at h
  have hlt : (xs.take b).length = b := by simp; omega
  rcases hR.2 with ⟨rfl, h2, rfl⟩ | ⟨g, cap, cur, rfl, hg2, hnc, hcm, hcs, htake, rfl⟩
  · have hb0 : b = 0 := by omega
    subst hb0
    have hcut := cut_run (P := P) (w := s.w) (A := none) (len := 0) (cap := 0) (a := 0) (b := 0) (lo := none) (hi := some (.int k2 ((0 : Nat) : Int))) hu hs (Nat.le_refl _) (Nat.le_refl _) (.inl ⟨rfl, rfl⟩) (.inr ⟨k2, rfl⟩)
    refine vl ho hd hN hw (by simp only [execOp, hop, hx, Option.map_none, Option.map_some, hq]; rw [Sem.run_bind', hcut]; rfl) (h _ ?_)
    exact ow_nil te K s c
  · have hcut := cut_run (P := P) (w := s.w) (A := some ⟨g, 0, none⟩) (len := xs.length) (cap := cap) (a := 0) (b := b) (lo := none) (hi := some (.int k2 (b : Int))) hu hs (Nat.zero_le _) (by omega) (.inl ⟨rfl, rfl⟩) (.inr ⟨k2, rfl⟩)
    refine vl ho hd hN hw (by simp only [execOp, hop, hx, Option.map_none, Option.map_some, hq]; rw [Sem.run_bind', hcut]; rfl) (h _ ?_)
    have hA : (if cap = 0 then some (⟨g, 0, none⟩ : Addr) else Option.map (fun a : Addr => a.add (0 * K.n)) (some ⟨g, 0, none⟩)) = some ⟨g, 0, none⟩ := by
      split
      · rfl
      · simp [add_zero]
    rw [hA, Nat.sub_zero, Nat.sub_zero]
    refine ⟨[g] ++ [], ⟨_, rfl, cells.take (b * K.n), [g], [], rfl, ?_, hK.els _ hE2⟩, by simp, fun b' hb' => hcol b' (by simp at hb'; simp [hb'])⟩
    have hmul : b * K.n ≤ xs.length * K.n := Nat.mul_le_mul_right _ hb
    rw [hlt]
    refine ⟨by rw [List.length_take, hR.1]; omega, .inr ⟨g, cap, cur, rfl, hg2, by omega, hcm, hcs, ?_, rfl⟩⟩
    rw [← htake, List.take_take]
    congr 1
    omega
end
end Go.Proofs.YtlpbggnpiogioaaGreat.V
set_option linter.unusedVariables false
set_option linter.unusedSimpArgs false
namespace Go.Proofs.YtlpbggnpiogioaaGreat.V
open Go
def InK (k : IntKind) (x : Int) : Prop := k.min ≤ x ∧ x ≤ k.max
theorem InK.of {k : IntKind} {x : Int} (h : (Lit.int k x).wf = true) : InK k x := by
 simpa [Lit.wf, InK] using h
def okF (x : Nat) : Prop := cn x = x ∧ x < 18446744073709551616
structure Opn (P : Program) (t : TypeId) {α : Type} (K : Kd α) (ok : α → Prop) : Prop where
 op : ∀ {H : Type} {enc : TypeId × Value → H} {w : World} {base : Nat} {spare : Nat → Bool} {held : Bool} {fuel : Nat} {cs : List Value} {y : DataW H × List MemPlace}, DataW.trod enc P w base spare held fuel t cs = some y → ∃ x, K.rd w cs x (fun _ => True) ∧ ok x
section
variable {P : Program} {t : TypeId}
theorem tr_int {k : IntKind} (hu : P.underlying t = some (.int k)) : Opn P t (Kd.int k) (InK k) := ⟨fun h => by
 obtain ⟨n, rfl, _, hw⟩ := DataW.trod_int hu h
 exact ⟨n, rfl, InK.of hw⟩⟩
theorem tr_bool (hu : P.underlying t = some .bool) : Opn P t Kd.bool (fun _ => True) := ⟨fun h => by
 obtain ⟨b, rfl, _⟩ := DataW.trod_bool hu h
 exact ⟨b, rfl, trivial⟩⟩
theorem tr_flt (hu : P.underlying t = some (.float .f64)) : Opn P t Kd.flt okF := ⟨fun {_ _ _ _ _ _ fuel cs y} h => by
 cases fuel with
 | zero => simp [DataW.trod] at h
 | succ n =>
  unfold DataW.trod at h
  rw [hu] at h
  match cs, h with
  | [.float k' b], h =>
   simp only [] at h
   split at h
   · rename_i hk
     obtain ⟨rfl, hw⟩ := hk
     refine ⟨cn b, ⟨_, rfl, b, rfl, rfl⟩, cn_cn b, ?_⟩
     have hb : b < 18446744073709551616 := by simpa [Lit.wf] using hw
     unfold cn
     cases isN b with
     | true => show nanB < _; decide
     | false => exact hb
   · cases h⟩
theorem tr_sl {e e' : TypeId} {α : Type} {K : Kd α} {ok : α → Prop} (hu : P.underlying t = some (.slice e)) (hn : P.cellsOf e = K.n) (he : Opn P e K ok) : Opn P t (Kd.sl e' K) (fun xs => xs.length ≤ maxLen ∧ ∀ x ∈ xs, ok x) := ⟨fun {_ enc w base spare held _ _ _} h => by
  rcases DataW.trod_slice hu h with ⟨rfl, _⟩ | ⟨a, len, cap, elems, rest, n, _, rfl, _, hb, hlc, hcm, hel, helem, _⟩
  · exact ⟨[], ⟨_, rfl, none, 0, [], rfl, Nat.le_refl _, rfl, fun h => absurd rfl h⟩, by simp, by simp⟩
  · have key : ∀ m, m ≤ len → ∃ (xs : List α) (cells : List Value), xs.length = m ∧ ElsR K w (fun _ => True) xs cells ∧ (∀ x ∈ xs, ok x) ∧ ∀ j u, cells[j]? = some u → w.cell? (a.add j) = some u := by
      intro m
      induction m with
      | zero => intro _; exact ⟨[], [], rfl, rfl, by simp, by simp⟩
      | succ m ih =>
        intro hm
        obtain ⟨xs, cells, hl, hE, hok, hc⟩ := ih (by omega)
        have hi := helem m (by omega)
        have hlt : m < elems.length := by omega
        rw [List.getElem?_eq_getElem hlt] at hi
        obtain ⟨cs, hcs, ht⟩ := Option.bind_eq_some_iff.1 hi
        obtain ⟨x, hx, hxo⟩ := he.op ht
        unfold World.cells? at hcs
        split at hcs
        · rename_i hbl
          have hlen := mapM_some_length hcs
          have hget := mapM_some_get hcs
          simp only [List.length_range] at hlen
          have hcl : cells.length = m * K.n := by rw [hE.len, hl]
          refine ⟨xs ++ [x], cells ++ cs, by simp [hl], hE.append ⟨cs, [], by simp, hx, rfl⟩, ?_, fun j u hj => ?_⟩
          · intro z hz
            rcases List.mem_append.1 hz with hz | hz
            · exact hok z hz
            · simp at hz; subst hz; exact hxo
          · rw [List.getElem?_append] at hj
            split at hj
            · exact hc j u hj
            · rename_i hjl
              have hj2 : j - cells.length < P.cellsOf e := by
                have := (List.getElem?_eq_some_iff.1 hj).1
                omega
              have := hget (j - cells.length) (j - cells.length) (by simp [hj2])
              rw [hj, Addr.add_add', hn, ← hcl] at this
              rw [← this]
              congr 2
              omega
        · cases hcs
    obtain ⟨xs, cells, hl, hE, hok, hc⟩ := key len (Nat.le_refl _)
    refine ⟨xs, ⟨_, rfl, some a, cap, cells, by rw [hl], by omega, hE, fun _ => ⟨a, rfl, trivial, hc⟩⟩, by rw [hl]; exact Nat.le_trans hlc hcm, hok⟩⟩
structure OpF (P : Program) (l : List Field) (off : Nat) {α : Type} (K : Kd α) (ok : α → Prop) : Prop where
 op : ∀ {H : Type} {enc : TypeId × Value → H} {w : World} {base : Nat} {spare : Nat → Bool} {held : Bool} {fuel : Nat} {cs : List Value}, cs.length = off + K.n →
  (∀ f ∈ l, ∃ y, DataW.trod enc P w base spare held fuel f.type ((cs.drop f.offset).take (P.cellsOf f.type)) = some y) → ∃ x, K.rd w (cs.drop off) x (fun _ => True) ∧ ok x
theorem tf_last {f : Field} {off : Nat} {α : Type} {K : Kd α} {ok : α → Prop} (ho : f.offset = off) (hn : P.cellsOf f.type = K.n) (h : Opn P f.type K ok) : OpF P [f] off K ok := ⟨fun hl hf => by
 obtain ⟨y, hy⟩ := hf f (by simp)
 rw [ho, hn, List.take_of_length_le (by simp; omega)] at hy
 exact h.op hy⟩
theorem tf_cons {f : Field} {l : List Field} {off : Nat} {α β : Type} {A : Kd α} {B : Kd β} {ok1 : α → Prop} {ok2 : β → Prop} (ho : f.offset = off) (hn : P.cellsOf f.type = A.n) (h : Opn P f.type A ok1) (h2 : OpF P l (off + A.n) B ok2) :
    OpF P (f :: l) off (Kd.pair A B) (fun x => ok1 x.1 ∧ ok2 x.2) := ⟨fun {_ _ w _ _ _ _ cs} hl hf => by
  have hl' : cs.length = off + (A.n + B.n) := hl
  obtain ⟨y, hy⟩ := hf f (by simp)
  rw [ho, hn] at hy
  obtain ⟨x1, hx1, hok1⟩ := h.op hy
  obtain ⟨x2, hx2, hok2⟩ := h2.op (by omega) fun g hg => hf g (List.mem_cons_of_mem _ hg)
  refine ⟨(x1, x2), ⟨(cs.drop off).take A.n, cs.drop (off + A.n), ?_, hx1, hx2⟩, hok1, hok2⟩
  rw [← List.drop_drop, List.take_append_drop]⟩
theorem tr_st {fs : Array Field} {α : Type} {K : Kd α} {ok : α → Prop} (hu : P.underlying t = some (.struct fs)) (hn : P.cellsOf t = K.n) (h : OpF P fs.toList 0 K ok) : Opn P t K ok := ⟨fun {_ _ _ _ _ _ _ cs _} hy => by
 obtain ⟨xs, n, _, _, hl, hx, hf⟩ := DataW.trod_struct hu hy
 have := h.op (cs := cs) (by rw [hl, hn]; simp) fun f hm => by
  obtain ⟨i, hi, rfl⟩ := List.getElem_of_mem hm
  simp only [Array.length_toList, Array.getElem_toList] at hi ⊢
  refine ⟨xs[i]'(by omega), ?_⟩
  rw [hf i fs[i] (Array.getElem?_eq_getElem hi), List.getElem?_eq_getElem (by omega)]
 simpa using this⟩
theorem tr_iso {α β : Type} {K : Kd α} {ok : α → Prop} (g : β → α) (mk : α → β) (hg : ∀ x, g (mk x) = x) (h : Opn P t K ok) : Opn P t (Kd.iso K g) (fun b => ok (g b)) := ⟨fun hy => by
 obtain ⟨x, hx, hok⟩ := h.op hy
 refine ⟨mk x, ?_, by show ok (g (mk x)); rw [hg]; exact hok⟩
 show K.rd _ _ (g (mk x)) _
 rw [hg]; exact hx⟩
end
theorem top_rd {α : Type} {K : Kd α} {w : World} {cs : List Value} {x : α} (h : K.rd w cs x (fun _ => True)) : RdF K ⟨w, fun _ => 0⟩ cs x [0] := K.rd_mono h fun _ _ _ => rfl
theorem rd_top {α : Type} {K : Kd α} {w : World} {cs : List Value} {x : α} {C : List Nat} (h : RdF K ⟨w, fun _ => 0⟩ cs x C) : K.rd w cs x (fun _ => True) := K.rd_mono h fun _ _ _ => trivial
end Go.Proofs.YtlpbggnpiogioaaGreat.V
set_option linter.unusedVariables false
set_option linter.unusedSimpArgs false
namespace Go.Proofs.YtlpbggnpiogioaaGreat.V
open Go
def BlW (w : World) (b : Nat) (t : TypeId) (cs : List Value) : Prop := w.heap[b]? = some (.cells cs.toArray t (0, 0))
def BlN (w w' : World) (b : Nat) (t : TypeId) (cs : List Value) : Prop := w.heap.size ≤ b ∧ BlW w' b t cs
theorem Z1.bl {F : Nat → Prop} {os : List Nat} {s : St} (z : Z1 F os s) {b : Nat} {t : TypeId} {cs : List Value} (h : BlW s.w b t cs) (hb : b ∈ os) : BlF s b t cs 2 := ⟨h, (z.o b).1 hb⟩
theorem BlF.fo {s0 s : St} {b c : Nat} {t : TypeId} {cs : List Value} (h : BlF s b t cs c) (p : Kp s0 s) (hc : Nat.ble 40 c = true) (hz : ∀ b, s0.g b < 40) : BlN s0.w s.w b t cs := by
 refine ⟨?_, h.1⟩
 by_cases hl : b < s0.w.heap.size
 · have := p.col b hl (hz b)
   have h3 := hz b
   have := Nat.le_of_ble_eq_true hc
   have := h.2
   omega
 · omega
theorem BlF.w {s : St} {b c : Nat} {t : TypeId} {cs : List Value} (h : BlF s b t cs c) : BlW s.w b t cs := h.1
theorem BlN.c {s s' : St} {b c : Nat} {t : TypeId} {cs : List Value} (h : BlN s.w s'.w b t cs) (n : Nw s s' c) : BlF s' b t cs c := ⟨h.2, n.new b h.1⟩
def FRF {α : Type} (K : Kd α) (F : Nat → Prop) (w w' : World) (cs : List Value) (x : α) : Prop := K.rd w' cs x (fun b => F b ∧ b < w.heap.size)
theorem FRF.c {α : Type} {K : Kd α} {s s' : St} {cs : List Value} {x : α} {c : Nat} {C : List Nat} (h : FRF K (fun b => memb C (s.g b) = true) s.w s'.w cs x) (n : Nw s s' c) : RdF K s' cs x C :=
 K.rd_mono h fun b hb _ => by rw [n.old b hb.2]; exact hb.1
end Go.Proofs.YtlpbggnpiogioaaGreat.V
set_option linter.unusedVariables false
set_option linter.unusedSimpArgs false
namespace Go.Proofs.YtlpbggnpiogioaaGreat.V
open Go
section
variable {P : Program} {d : Nat} {xs ys : Array Value} {f : Field} {fs : List Field} {a b : Value} {r s : Bool} {w : World}
end
section
variable {P : Program} {f : Who} {N : Nat} {O ρ : Type} {m : Option O} {G : O → Option ρ} {R : ρ → Ending → World → Prop} {e : Env} {s : St} {k : List Item} {ops : Array Oper} {i d : Nat} {rest : List Nat} {o : Oper}
end
end Go.Proofs.YtlpbggnpiogioaaGreat.V
