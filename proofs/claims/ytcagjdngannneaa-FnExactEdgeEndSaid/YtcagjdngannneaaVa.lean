
import Derived.Calls
import Derived.Tactics
import Derived.Below
set_option linter.unusedVariables false
set_option linter.unusedSimpArgs false
namespace Go.Proofs.Ytcagjdngannneaa.V
open Go
abbrev E3 {α0 α1 α2 : Type} (a0 b0 : α0) (a1 b1 : α1) (a2 b2 : α2) : Prop := (a0, a1, a2) = (b0, b1, b2)
theorem e3_ {α0 α1 α2 : Type} {a0 b0 : α0} {a1 b1 : α1} {a2 b2 : α2} (t : E3 a0 b0 a1 b1 a2 b2) : a0 = b0 ∧ a1 = b1 ∧ a2 = b2 := ⟨congrArg (fun x => x.1) t, congrArg (fun x => x.2.1) t, congrArg (fun x => x.2.2) t⟩
abbrev E4 {α0 α1 α2 α3 : Type} (a0 b0 : α0) (a1 b1 : α1) (a2 b2 : α2) (a3 b3 : α3) : Prop := (a0, a1, a2, a3) = (b0, b1, b2, b3)
theorem e4_ {α0 α1 α2 α3 : Type} {a0 b0 : α0} {a1 b1 : α1} {a2 b2 : α2} {a3 b3 : α3} (t : E4 a0 b0 a1 b1 a2 b2 a3 b3) : a0 = b0 ∧ a1 = b1 ∧ a2 = b2 ∧ a3 = b3 := ⟨congrArg (fun x => x.1) t, congrArg (fun x => x.2.1) t, congrArg (fun x => x.2.2.1) t, congrArg (fun x => x.2.2.2) t⟩
abbrev E5 {α0 α1 α2 α3 α4 : Type} (a0 b0 : α0) (a1 b1 : α1) (a2 b2 : α2) (a3 b3 : α3) (a4 b4 : α4) : Prop := (a0, a1, a2, a3, a4) = (b0, b1, b2, b3, b4)
theorem e5_ {α0 α1 α2 α3 α4 : Type} {a0 b0 : α0} {a1 b1 : α1} {a2 b2 : α2} {a3 b3 : α3} {a4 b4 : α4} (t : E5 a0 b0 a1 b1 a2 b2 a3 b3 a4 b4) : a0 = b0 ∧ a1 = b1 ∧ a2 = b2 ∧ a3 = b3 ∧ a4 = b4 := ⟨congrArg (fun x => x.1) t, congrArg (fun x => x.2.1) t, congrArg (fun x => x.2.2.1) t, congrArg (fun x => x.2.2.2.1) t, congrArg (fun x => x.2.2.2.2) t⟩
abbrev E6 {α0 α1 α2 α3 α4 α5 : Type} (a0 b0 : α0) (a1 b1 : α1) (a2 b2 : α2) (a3 b3 : α3) (a4 b4 : α4) (a5 b5 : α5) : Prop := (a0, a1, a2, a3, a4, a5) = (b0, b1, b2, b3, b4, b5)
theorem e6_ {α0 α1 α2 α3 α4 α5 : Type} {a0 b0 : α0} {a1 b1 : α1} {a2 b2 : α2} {a3 b3 : α3} {a4 b4 : α4} {a5 b5 : α5} (t : E6 a0 b0 a1 b1 a2 b2 a3 b3 a4 b4 a5 b5) : a0 = b0 ∧ a1 = b1 ∧ a2 = b2 ∧ a3 = b3 ∧ a4 = b4 ∧ a5 = b5 := ⟨congrArg (fun x => x.1) t, congrArg (fun x => x.2.1) t, congrArg (fun x => x.2.2.1) t, congrArg (fun x => x.2.2.2.1) t, congrArg (fun x => x.2.2.2.2.1) t, congrArg (fun x => x.2.2.2.2.2) t⟩
abbrev E7 {α0 α1 α2 α3 α4 α5 α6 : Type} (a0 b0 : α0) (a1 b1 : α1) (a2 b2 : α2) (a3 b3 : α3) (a4 b4 : α4) (a5 b5 : α5) (a6 b6 : α6) : Prop := (a0, a1, a2, a3, a4, a5, a6) = (b0, b1, b2, b3, b4, b5, b6)
theorem e7_ {α0 α1 α2 α3 α4 α5 α6 : Type} {a0 b0 : α0} {a1 b1 : α1} {a2 b2 : α2} {a3 b3 : α3} {a4 b4 : α4} {a5 b5 : α5} {a6 b6 : α6} (t : E7 a0 b0 a1 b1 a2 b2 a3 b3 a4 b4 a5 b5 a6 b6) : a0 = b0 ∧ a1 = b1 ∧ a2 = b2 ∧ a3 = b3 ∧ a4 = b4 ∧ a5 = b5 ∧ a6 = b6 := ⟨congrArg (fun x => x.1) t, congrArg (fun x => x.2.1) t, congrArg (fun x => x.2.2.1) t, congrArg (fun x => x.2.2.2.1) t, congrArg (fun x => x.2.2.2.2.1) t, congrArg (fun x => x.2.2.2.2.2.1) t, congrArg (fun x => x.2.2.2.2.2.2) t⟩
abbrev E8 {α0 α1 α2 α3 α4 α5 α6 α7 : Type} (a0 b0 : α0) (a1 b1 : α1) (a2 b2 : α2) (a3 b3 : α3) (a4 b4 : α4) (a5 b5 : α5) (a6 b6 : α6) (a7 b7 : α7) : Prop := (a0, a1, a2, a3, a4, a5, a6, a7) = (b0, b1, b2, b3, b4, b5, b6, b7)
theorem e8_ {α0 α1 α2 α3 α4 α5 α6 α7 : Type} {a0 b0 : α0} {a1 b1 : α1} {a2 b2 : α2} {a3 b3 : α3} {a4 b4 : α4} {a5 b5 : α5} {a6 b6 : α6} {a7 b7 : α7} (t : E8 a0 b0 a1 b1 a2 b2 a3 b3 a4 b4 a5 b5 a6 b6 a7 b7) : a0 = b0 ∧ a1 = b1 ∧ a2 = b2 ∧ a3 = b3 ∧ a4 = b4 ∧ a5 = b5 ∧ a6 = b6 ∧ a7 = b7 := ⟨congrArg (fun x => x.1) t, congrArg (fun x => x.2.1) t, congrArg (fun x => x.2.2.1) t, congrArg (fun x => x.2.2.2.1) t, congrArg (fun x => x.2.2.2.2.1) t, congrArg (fun x => x.2.2.2.2.2.1) t, congrArg (fun x => x.2.2.2.2.2.2.1) t, congrArg (fun x => x.2.2.2.2.2.2.2) t⟩
abbrev Env := Nat → Value
def upd (e : Env) (d : Nat) (v : Value) : Env := fun t => bif Nat.beq t d then v else e t
def envOf (l : List Value) : Env := fun t => l.getD t undef
structure Fr (N : Nat) (e : Env) (a : Act) : Prop where
  size : a.tmps.size = N
  get : ∀ t, a.tmps.getD t undef = e t
  defs : a.defers = []
def ev (e : Env) : Operand → Value
  | .tmp t => e t
  | .const v => v
  | .global g => .pointer (some ⟨g, 0, none⟩)
  | .func f => .func (.func f) #[] #[]
theorem Fr.eval {N : Nat} {e : Env} {a : Act} (h : Fr N e a) : a.eval = ev e := by
  funext x
  cases x <;> simp [Act.eval, ev, h.get]
theorem upd_at (e : Env) (d : Nat) (v : Value) : upd e d v d = v := by simp [upd]
theorem upd_ne (e : Env) (d t : Nat) (v : Value) (h : t ≠ d) : upd e d v t = e t := by
  have : Nat.beq t d = false := by cases hb : Nat.beq t d with
    | false => rfl
    | true => exact absurd (Nat.eq_of_beq_eq_true hb) h
  simp [upd, this]
theorem upd_self {e : Env} {d : Nat} {v : Value} (h : e d = v) : upd e d v = e := by
  funext t
  by_cases ht : t = d
  · subst ht; rw [upd_at, h]
  · rw [upd_ne _ _ _ _ ht]
theorem Fr.put {N : Nat} {e : Env} {a : Act} (h : Fr N e a) (d : Nat) (hd : Nat.blt d N = true) (v : Value) : Fr N (upd e d v) (a.put (some d) v) := by
  have hd' : d < N := by
    have := hd
    simp [Nat.blt] at this
    omega
  refine ⟨by simp [Act.put, h.size], fun t => ?_, by simp [Act.put, h.defs]⟩
  have hg := h.get t
  simp only [Act.put]
  by_cases ht : t = d
  · subst ht
    rw [upd_at]
    simp [Array.getD, h.size, hd']
  · rw [upd_ne _ _ _ _ ht, ← hg]
    simp only [Array.getD_eq_getD_getElem?]
    rw [Array.getElem?_setIfInBounds_ne (by omega)]
theorem Fr.put_none {N : Nat} {e : Env} {a : Act} (h : Fr N e a) (v : Value) : Fr N e (a.put none v) := h
theorem Fr.start (args : List Value) (N : Nat) (h : Nat.ble args.length N = true) : Fr N (envOf args) { tmps := args.toArray ++ Array.replicate (N - args.toArray.size) undef, defers := [] } := by
  have h' : args.length ≤ N := by simpa [Nat.ble_eq] using h
  refine ⟨by simp; omega, fun t => ?_, rfl⟩
  simp only [Array.getD_eq_getD_getElem?, envOf, List.getD_eq_getElem?_getD]
  by_cases ht : t < args.length
  · simp [Array.getElem?_append, ht]
  · rw [List.getElem?_eq_none (by omega)]
    by_cases ht2 : t < N
    · simp [Array.getElem?_append, ht]
      rw [Array.getElem?_replicate]
      split <;> rfl
    · rw [Array.getElem?_eq_none (by simp; omega)]
      
def yv (e : Env) (ops : Array Oper) (j : Nat) : Option Bool :=
  match (ops[j]?).bind (·.dst) with
  | some t => match e t with
    | .bool b => some b
    | _ => none
  | none => none
theorem Fr.yielded {N : Nat} {e : Env} {a : Act} (h : Fr N e a) (ops : Array Oper) : yielded ops a.tmps = yv e ops := by
  funext j
  unfold Go.yielded yv
  cases (ops[j]?).bind (·.dst) with
  | none => rfl
  | some t =>
    have hg := h.get t
    simp only [Array.getD_eq_getD_getElem?] at hg
    simp only [Option.bind_some]
    cases hx : a.tmps[t]? with
    | none => rw [hx] at hg; simp at hg; rw [← hg]; rfl
    | some v => rw [hx] at hg; simp at hg; rw [← hg]; cases v <;> rfl

def T (P : Program) (f : FuncId) (N : Nat) (R : Ending → World → Prop) (todo : List Item) (e : Env) (w : World) : Prop :=
  ∀ (b : Frame) (a : Act) (cs : List Frame), b.fn = f → b.kind = .normal → Fr N e a →
    ∃ en w' fr, R en w' ∧ Comes P (lone (b.at a todo) cs w) (lone fr cs w') en ∧ fr.fn = f ∧ fr.leaving P w' en

section
variable {P : Program} {f : FuncId} {N : Nat} {R : Ending → World → Prop} {e : Env} {w : World} {k : List Item} {ops : Array Oper}

theorem T.one {todo todo' : List Item} {e' : Env} {w' : World}
    (hs : ∀ (b : Frame) (a : Act) (cs : List Frame), b.fn = f → b.kind = .normal → Fr N e a → ∃ a', Fr N e' a' ∧ step P (lone (b.at a todo) cs w) = .next (lone (b.at a' todo') cs w'))
    (h : T P f N R todo' e' w') : T P f N R todo e w := by
  intro b a cs hb hk ha
  obtain ⟨a', ha', hst⟩ := hs b a cs hb hk ha
  obtain ⟨en, w2, fr, hR, hc, hfr⟩ := h b a' cs hb hk ha'
  exact ⟨en, w2, fr, hR, Comes.of_steps (Steps.one hst) hc, hfr⟩

theorem T_seq {x y : Code} (h : T P f N R (.code x :: .code y :: k) e w) : T P f N R (.code (.seq x y) :: k) e w :=
  T.one (fun b a cs _ _ ha => ⟨a, ha, step_seq⟩) h
theorem T_skip (h : T P f N R k e w) : T P f N R (.code .skip :: k) e w := T.one (fun b a cs _ _ ha => ⟨a, ha, step_skip⟩) h
theorem T_inBlock {id : Nat} (h : T P f N R k e w) : T P f N R (.inBlock id :: k) e w := T.one (fun b a cs _ _ ha => ⟨a, ha, step_inBlock⟩) h
theorem T_block {id : Nat} {c : Code} (h : T P f N R (.code c :: .inBlock id :: k) e w) : T P f N R (.code (.block id c) :: k) e w :=
  T.one (fun b a cs _ _ ha => ⟨a, ha, step_block⟩) h
theorem T_loop {c : Code} (h : T P f N R (.code c :: .inLoop c :: k) e w) : T P f N R (.code (.loop c) :: k) e w :=
  T.one (fun b a cs _ _ ha => ⟨a, ha, step_loop⟩) h
theorem T_inLoop {c : Code} (h : T P f N R (.code c :: .inLoop c :: k) e w) : T P f N R (.inLoop c :: k) e w :=
  T.one (fun b a cs _ _ ha => ⟨a, ha, step_inLoop⟩) h
theorem T_cond {c : Operand} {x y : Code} {t : Bool} (hc : ev e c = .bool t) (h : T P f N R (.code (if t then x else y) :: k) e w) : T P f N R (.code (.cond c x y) :: k) e w :=
  T.one (fun b a cs _ _ ha => ⟨a, ha, step_cond (by rw [ha.eval]; exact hc)⟩) h
theorem T_exit {id : Nat} {k' : List Item} (hk : exitTo id k = some k') (h : T P f N R k' e w) : T P f N R (.code (.exit id) :: k) e w :=
  T.one (fun b a cs _ _ ha => ⟨a, ha, step_exit hk⟩) h
theorem T_region {id : Nat} (h : T P f N R (.inRegion ops (List.range ops.size) :: k) e w) : T P f N R (.code (.region id ops false) :: k) e w :=
  T.one (fun b a cs _ _ ha => ⟨a, ha, step_region⟩) h
theorem T_draw {id : Nat} (h : ∀ t, T P f N R (.inRegion ops (Region.schedule (P.follows .mixedOrders) ops t) :: k) e { w with drawn := w.drawn + 1 }) : T P f N R (.code (.region id ops true) :: k) e w := by
  intro b a cs hb hk ha
  obtain ⟨en, w2, fr, hR, hc, hfr⟩ := h (w.tape w.drawn (.order b.fn id)) b a cs hb hk ha
  exact ⟨en, w2, fr, hR, Comes.of_steps (Steps.one step_region_draw) hc, hfr⟩
theorem T_done (h : T P f N R k e w) : T P f N R (.inRegion ops [] :: k) e w := T.one (fun b a cs _ _ ha => ⟨a, ha, step_region_end⟩) h

theorem T_unwanted {i d : Nat} {rest : List Nat} {o : Oper} (ho : ops[i]? = some o) (hd : o.dst = some d) (hN : Nat.blt d N = true) (hw : Region.wanted o (yv e ops) = false)
    (h : T P f N R (.inRegion ops rest :: k) (upd e d undef) w) : T P f N R (.inRegion ops (i :: rest) :: k) e w :=
  T.one (fun b a cs _ _ ha => ⟨_, ha.put d hN undef, by
    have := step_op_skip (P := P) (b := b) (a := a) (k := k) (cs := cs) (w := w) (ops := ops) (i := i) (rest := rest) (by simp [ho, ha.yielded, hw])
    rw [this]; simp [ho, hd]⟩) h
theorem step_at_value {b : Frame} {a : Act} {cs : List Frame} {i : Nat} {rest : List Nat} {o : Oper} (ho : ops[i]? = some o) (hw : Region.wanted o (yielded ops a.tmps) = true) {v : Value} {w' : World}
    (hr : (execOp a.eval o).run P w = .ok (.value v) w') : step P (lone (b.at a (.inRegion ops (i :: rest) :: k)) cs w) = .next (lone (b.at (a.put o.dst v) (.inRegion ops rest :: k)) cs w') := by
  have hg := stepG_op (P := P) (b := b) (k := k) (cs := cs) (w := w) (rest := rest) ho hw
  have hfin : (b.at a (.inRegion ops (i :: rest) :: k)).finish v = b.at (a.put o.dst v) (.inRegion ops rest :: k) := by rw [Frame.finish_at, ho]; rfl
  exact step_lone_go (by rw [hg, ← hfin]; simp [stepG.apply, hr])
theorem step_at_skip {b : Frame} {a : Act} {cs : List Frame} {i : Nat} {rest : List Nat} {o : Oper} (ho : ops[i]? = some o) (hw : Region.wanted o (yielded ops a.tmps) = true) {w' : World}
    (hr : (execOp a.eval o).run P w = .ok .skip w') : step P (lone (b.at a (.inRegion ops (i :: rest) :: k)) cs w) = .next (lone (b.at (a.put o.dst undef) (.inRegion ops rest :: k)) cs w') := by
  have hg := stepG_op (P := P) (b := b) (k := k) (cs := cs) (w := w) (rest := rest) ho hw
  have hfin : (b.at a (.inRegion ops (i :: rest) :: k)).finish undef = b.at (a.put o.dst undef) (.inRegion ops rest :: k) := by rw [Frame.finish_at, ho]; rfl
  exact step_lone_go (by rw [hg, ← hfin]; simp [stepG.apply, hr])

theorem T_value {i d : Nat} {rest : List Nat} {o : Oper} {v : Value} {w' : World} (ho : ops[i]? = some o) (hd : o.dst = some d) (hN : Nat.blt d N = true) (hw : Region.wanted o (yv e ops) = true)
    (hr : (execOp (ev e) o).run P w = .ok (.value v) w') (h : T P f N R (.inRegion ops rest :: k) (upd e d v) w') : T P f N R (.inRegion ops (i :: rest) :: k) e w :=
  T.one (fun b a cs _ _ ha => ⟨_, ha.put d hN v, by
    rw [← hd]
    exact step_at_value ho (by rw [ha.yielded]; exact hw) (by rw [ha.eval]; exact hr)⟩) h
theorem T_value0 {i : Nat} {rest : List Nat} {o : Oper} {v : Value} {w' : World} (ho : ops[i]? = some o) (hd : o.dst = none) (hw : Region.wanted o (yv e ops) = true)
    (hr : (execOp (ev e) o).run P w = .ok (.value v) w') (h : T P f N R (.inRegion ops rest :: k) e w') : T P f N R (.inRegion ops (i :: rest) :: k) e w :=
  T.one (fun b a cs _ _ ha => ⟨_, ha.put_none v, by
    rw [← hd]
    exact step_at_value ho (by rw [ha.yielded]; exact hw) (by rw [ha.eval]; exact hr)⟩) h
theorem T_void {i : Nat} {rest : List Nat} {o : Oper} {w' : World} (ho : ops[i]? = some o) (hd : o.dst = none) (hw : Region.wanted o (yv e ops) = true)
    (hr : (execOp (ev e) o).run P w = .ok .skip w') (h : T P f N R (.inRegion ops rest :: k) e w') : T P f N R (.inRegion ops (i :: rest) :: k) e w :=
  T.one (fun b a cs _ _ ha => ⟨_, ha.put_none undef, by
    rw [← hd]
    exact step_at_skip ho (by rw [ha.yielded]; exact hw) (by rw [ha.eval]; exact hr)⟩) h

theorem T.call_core {i : Nat} {rest : List Nat} {o : Oper} {g : FuncId} {args : Array Value} {w1 : World} {R' : Ending → World → Prop} {E : Value → Env}
    (ho : ops[i]? = some o) (hw : Region.wanted o (yv e ops) = true) (hput : ∀ a, Fr N e a → ∀ v, Fr N (E v) (a.put o.dst v))
    (hr : (execOp (ev e) o).run P w = .ok (.enter g args) w1) (hc : Calls P g args w1 R')
    (h : ∀ en w', R' en w' → ∃ v, en = .returned v ∧ T P f N R (.inRegion ops rest :: k) (E v) w') : T P f N R (.inRegion ops (i :: rest) :: k) e w := by
  intro b a cs hb hk ha
  have hg := stepG_op (P := P) (b := b) (k := k) (cs := cs) (w := w) (rest := rest) ho (show Region.wanted o (yielded ops a.tmps) = true by rw [ha.yielded]; exact hw)
  have hr' : (execOp a.eval o).run P w = .ok (.enter g args) w1 := by rw [ha.eval]; exact hr
  have henter : step P (lone (b.at a (.inRegion ops (i :: rest) :: k)) cs w) = .next (lone (Frame.enter P g args .normal) (b.at a (.inRegion ops (i :: rest) :: k) :: cs) w1) :=
    step_lone_go (by rw [hg]; simp [stepG.apply, hr', Frame.at])
  obtain ⟨en, w2, fr, hR, hsteps, _, hleave⟩ := hc (b.at a (.inRegion ops (i :: rest) :: k) :: cs)
  obtain ⟨v, rfl, hT⟩ := h _ _ hR
  obtain ⟨en, w3, fr3, hR3, hc3, hfr3⟩ := hT b (a.put o.dst v) cs hb hk (hput a ha v)
  refine ⟨en, w3, fr3, hR3, Comes.of_steps (.head henter (Steps.trans hsteps (.one ?_))) hc3, hfr3⟩
  have hfin : (b.at a (.inRegion ops (i :: rest) :: k)).finish v = b.at (a.put o.dst v) (.inRegion ops rest :: k) := by rw [Frame.finish_at, ho]; rfl
  rw [← hfin]; exact step_leave_returned hleave

theorem T_ret {fn : Func} {v : Value} (hf : P.funcs[f]? = some fn) (hr : ∀ a, Fr N e a → (results fn a.tmps).run P w = .ok v w) (hR : R (.returned v) w) : T P f N R (.code .ret :: k) e w := by
  intro b a cs hb hk ha
  exact ⟨.returned v, w, _, hR, Steps.one step_ret, hb, rfl, ha.defs, hk, fn, by rw [← hf]; exact congrArg (P.funcs[·]?) hb, hr a ha⟩
theorem Sem.run_bind' {α β : Type} (P : Program) (s : Sem α) (g : α → Sem β) (w : World) : (s >>= g).run P w = (s.run P w).andThen fun a w' => (g a).run P w' := by simp
end

theorem calls_of_T {P : Program} {f : FuncId} {fn : Func} {c : Code} {args : List Value} {w : World} {R : Ending → World → Prop}
    (hf : P.funcs[f]? = some fn) (hb : fn.body = some c) (hn : Nat.ble args.length fn.ntmps = true) (h : T P f fn.ntmps R [.code c] (envOf args) w) : Calls P f args.toArray w R := by
  intro cs
  let b : Frame := { (default : Frame) with fn := f, kind := .normal }
  have henter : Frame.enter P f args.toArray .normal = b.at { tmps := args.toArray ++ Array.replicate (fn.ntmps - args.toArray.size) undef, defers := [] } [.code c] := by
    simp [Frame.enter, Frame.at, hf, hb, b]
  rw [henter]
  exact h b _ cs rfl rfl (Fr.start args fn.ntmps hn)

end Go.Proofs.Ytcagjdngannneaa.V
