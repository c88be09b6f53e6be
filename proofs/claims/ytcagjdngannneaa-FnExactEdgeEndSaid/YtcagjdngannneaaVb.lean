
import Derived.Test.YtcagjdngannneaaVa
import Derived.WalkKit
set_option linter.unusedVariables false
set_option linter.unusedSimpArgs false
namespace Go.Proofs.Ytcagjdngannneaa.V
open Go


def iand (k : IntKind) (a b : Int) : Int := k.wrap ((BitVec.ofInt k.bits a &&& BitVec.ofInt k.bits b).toNat : Nat)
def ior (k : IntKind) (a b : Int) : Int := k.wrap ((BitVec.ofInt k.bits a ||| BitVec.ofInt k.bits b).toNat : Nat)
def ixor (k : IntKind) (a b : Int) : Int := k.wrap ((BitVec.ofInt k.bits a ^^^ BitVec.ofInt k.bits b).toNat : Nat)
def iandn (k : IntKind) (a b : Int) : Int := k.wrap ((BitVec.ofInt k.bits a &&& ~~~ BitVec.ofInt k.bits b).toNat : Nat)
def ishl (k : IntKind) (a b : Int) : Int := k.wrap (a * 2 ^ (min b.toNat k.bits))
def ishr (k : IntKind) (a b : Int) : Int := a.fdiv (2 ^ (min b.toNat k.bits))
def fcmp (k : FloatKind) (a b : Nat) : Option Ordering := k.format.order a b

def ibin (op : BinOp) (k : IntKind) (a b : Int) : Option Value :=
  match op with
  | .add => some (.int k (k.wrap (a + b)))
  | .sub => some (.int k (k.wrap (a - b)))
  | .mul => some (.int k (k.wrap (a * b)))
  | .and => some (.int k (iand k a b))
  | .or => some (.int k (ior k a b))
  | .xor => some (.int k (ixor k a b))
  | .andNot => some (.int k (iandn k a b))
  | .eql => some (.bool (a == b))
  | .neq => some (.bool (a != b))
  | .lss => some (.bool (decide (a < b)))
  | .leq => some (.bool (decide (a ≤ b)))
  | .gtr => some (.bool (decide (a > b)))
  | .geq => some (.bool (decide (a ≥ b)))
  | _ => none
def fbin (op : BinOp) (k : FloatKind) (a b : Nat) : Option Value :=
  match op with
  | .eql => some (.bool (fcmp k a b == some .eq))
  | .neq => some (.bool (fcmp k a b != some .eq))
  | .lss => some (.bool (fcmp k a b == some .lt))
  | .leq => some (.bool (fcmp k a b == some .lt || fcmp k a b == some .eq))
  | .gtr => some (.bool (fcmp k a b == some .gt))
  | .geq => some (.bool (fcmp k a b == some .gt || fcmp k a b == some .eq))
  | _ => none
def sbin (op : BinOp) (a b : ByteArray) : Option Value :=
  match op with
  | .eql => some (.bool (a.toList == b.toList))
  | .neq => some (.bool (!(a.toList == b.toList)))
  | _ => none
def kindB : IntKind → IntKind → Bool
  | .i8, .i8 | .i16, .i16 | .i32, .i32 | .i64, .i64 | .u8, .u8 | .u16, .u16 | .u32, .u32 | .u64, .u64 => true
  | _, _ => false
theorem kindB_eq {k k' : IntKind} (h : kindB k k' = true) : k = k' := by cases k <;> cases k' <;> first | rfl | cases h
def fkindB : FloatKind → FloatKind → Bool
  | .f32, .f32 | .f64, .f64 => true
  | _, _ => false
theorem fkindB_eq {k k' : FloatKind} (h : fkindB k k' = true) : k = k' := by cases k <;> cases k' <;> first | rfl | cases h
def binv (op : BinOp) (x y : Value) : Option Value :=
  match x, y with
  | .int k a, .int k' b => bif kindB k k' then ibin op k a b else none
  | .float k a, .float k' b => bif fkindB k k' then fbin op k a b else none
  | .string a, .string b => sbin op a b
  | _, _ => none
def unv (op : UnOp) (x : Value) : Option Value :=
  match op, x with
  | .not, .bool b => some (.bool (!b))
  | .neg, .int k n => some (.int k (k.wrap (0 - n)))
  | .xor, .int k n => some (.int k (ixor k (if k.signed then -1 else k.max) n))
  | _, _ => none
def nrm : Value → Option Value
  | .bool b => some (.bool b)
  | .int k n => some (.int k n)
  | .float k n => some (.float k n)
  | .complex k a b => some (.complex k a b)
  | .string x => some (.string x)
  | .pointer a => some (.pointer a)
  | .slice a l c => some (.slice a l c)
  | .map r => some (.map r)
  | .chan r => some (.chan r)
  | .func f a c => some (.func f a c)
  | .nilFunc => some .nilFunc
  | .iface t v => some (.iface t v)
  | .nilIface => some .nilIface
  | .agg cs => some (.agg cs)
  | .tuple vs => some (.tuple vs)
theorem nrm_eq (v : Value) : nrm v = some v := by cases v <;> rfl
def ex (e : Env) : Op → Option Value
  | .move x => nrm (ev e x)
  | .assign x => nrm (ev e x)
  | .pick c a b => match ev e c with
    | .bool t => bif t then nrm (ev e a) else nrm (ev e b)
    | _ => none
  | .binOp op _ x y _ => binv op (ev e x) (ev e y)
  | .unOp op _ x => unv op (ev e x)
  | .extract x i => match ev e x with
    | .tuple vs => vs[i]?
    | _ => none
  | .nilCheck x => match ev e x with
    | .pointer (some a) => some (.pointer (some a))
    | _ => none
  | _ => none

theorem ibin_run {P : Program} {w : World} {op : BinOp} {t : TypeId} {X Y : Operand} {k : IntKind} {a b : Int} {v : Value} (h : ibin op k a b = some v) :
    (do eqGuard op t X Y (.int k a) (.int k b); binOp op t (.int k a) (.int k b) : Sem Value).run P w = .ok v w := by
  cases op <;> simp only [ibin] at h <;> cases h <;> (rw [Sem.run_bind']; simp [eqGuard, binOp, Op.intArith, Op.intBits, Op.intCmp, iand, ior, ixor, iandn, Result.andThen]; done)
theorem fbin_run {P : Program} {w : World} {op : BinOp} {t : TypeId} {X Y : Operand} {k : FloatKind} {a b : Nat} {v : Value} (h : fbin op k a b = some v) :
    (do eqGuard op t X Y (.float k a) (.float k b); binOp op t (.float k a) (.float k b) : Sem Value).run P w = .ok v w := by
  cases op <;> simp only [fbin] at h <;> cases h <;> (rw [Sem.run_bind']; simp [eqGuard, binOp, Op.floatCmp, fcmp, Result.andThen]; done)
theorem sbin_run {P : Program} {w : World} {op : BinOp} {t : TypeId} {X Y : Operand} {a b : ByteArray} {v : Value} (h : sbin op a b = some v) :
    (do eqGuard op t X Y (.string a) (.string b); binOp op t (.string a) (.string b) : Sem Value).run P w = .ok v w := by
  cases op <;> simp only [sbin] at h <;> cases h <;> (rw [Sem.run_bind']; simp [eqGuard, binOp, Op.stringOp, Result.andThen]; done)
theorem binv_run {P : Program} {w : World} {op : BinOp} {t : TypeId} {X Y : Operand} {x y v : Value} (h : binv op x y = some v) :
    (do eqGuard op t X Y x y; binOp op t x y : Sem Value).run P w = .ok v w := by
  unfold binv at h
  split at h
  · rename_i k a k' b
    cases hk : kindB k k' with
    | false => rw [hk] at h; cases h
    | true => rw [hk] at h; obtain rfl := kindB_eq hk; exact ibin_run h
  · rename_i k a k' b
    cases hk : fkindB k k' with
    | false => rw [hk] at h; cases h
    | true => rw [hk] at h; obtain rfl := fkindB_eq hk; exact fbin_run h
  · exact sbin_run h
  · cases h
theorem ex_run {P : Program} {w : World} {e : Env} {o : Oper} {v : Value} (h : ex e o.op = some v) : (execOp (ev e) o).run P w = .ok (.value v) w := by
  unfold ex at h
  split at h
  · rename_i x hx; rw [nrm_eq] at h; obtain rfl := Option.some.inj h; simp [execOp, hx]
  · rename_i x hx; rw [nrm_eq] at h; obtain rfl := Option.some.inj h; simp [execOp, hx]
  · rename_i c a b hx
    split at h
    · rename_i t ht
      simp only [nrm_eq] at h
      cases t <;> (obtain rfl := Option.some.inj h; simp [execOp, hx, ht, asBool])
    · cases h
  · rename_i op t x y t' hx
    have := binv_run (P := P) (w := w) (t := t) (X := x) (Y := y) h
    simp only [execOp, hx]
    rw [Sem.run_bind', this]; rfl
  · rename_i op t x hx
    unfold unv at h
    split at h
    · rename_i b hb; obtain rfl := Option.some.inj h; simp [execOp, hx, hb, Op.unary]
    · rename_i k n hb; obtain rfl := Option.some.inj h; simp [execOp, hx, hb, Op.unary, Op.intArith]
    · rename_i k n hb; obtain rfl := Option.some.inj h; simp [execOp, hx, hb, Op.unary, Op.intBits, ixor]
    · cases h
  · rename_i x i hx
    split at h
    · rename_i vs hvs; simp [execOp, hx, hvs, Instr.extract, h]
    · cases h
  · rename_i x hx
    split at h
    · rename_i a ha; obtain rfl := Option.some.inj h; simp [execOp, hx, ha]
    · cases h
  · cases h


section
variable {P : Program} {f : FuncId} {N : Nat} {O ρ : Type} {m : Option O} {G : O → Option ρ} {R : ρ → Ending → World → Prop} {e : Env} {w : World} {k : List Item} {ops : Array Oper}
def TM (P : Program) (f : FuncId) (N : Nat) {O ρ : Type} (m : Option O) (G : O → Option ρ) (R : ρ → Ending → World → Prop) (todo : List Item) (e : Env) (w : World) : Prop :=
  ∀ o, m = some o → ∀ r, G o = some r → T P f N (R r) todo e w
theorem TM.of {todo todo' : List Item} {e' : Env} {w' : World} (hT : ∀ r, T P f N (R r) todo' e' w' → T P f N (R r) todo e w) (h : TM P f N m G R todo' e' w') : TM P f N m G R todo e w :=
  fun o ho r hr => hT r (h o ho r hr)
theorem sr {id : Nat} {c : Code} (h : TM P f N m G R (.inRegion ops (List.range ops.size) :: .code c :: k) e w) : TM P f N m G R (.code (.seq (.region id ops false) c) :: k) e w :=
  TM.of (fun _ h => T_seq (T_region h)) h
theorem sq {x y : Code} (h : TM P f N m G R (.code x :: .code y :: k) e w) : TM P f N m G R (.code (.seq x y) :: k) e w := TM.of (fun _ h => T_seq h) h
theorem sk (h : TM P f N m G R k e w) : TM P f N m G R (.code .skip :: k) e w := TM.of (fun _ h => T_skip h) h
theorem ib {id : Nat} (h : TM P f N m G R k e w) : TM P f N m G R (.inBlock id :: k) e w := TM.of (fun _ h => T_inBlock h) h
theorem bl {id : Nat} {c : Code} (h : TM P f N m G R (.code c :: .inBlock id :: k) e w) : TM P f N m G R (.code (.block id c) :: k) e w := TM.of (fun _ h => T_block h) h
theorem xt {id : Nat} {k' : List Item} (hk : exitTo id k = some k') (h : TM P f N m G R k' e w) : TM P f N m G R (.code (.exit id) :: k) e w := TM.of (fun _ h => T_exit hk h) h
theorem rg {id : Nat} (h : TM P f N m G R (.inRegion ops (List.range ops.size) :: k) e w) : TM P f N m G R (.code (.region id ops false) :: k) e w := TM.of (fun _ h => T_region h) h
theorem dn (h : TM P f N m G R k e w) : TM P f N m G R (.inRegion ops [] :: k) e w := TM.of (fun _ h => T_done h) h
theorem mb {α : Type} {x : Option α} {g : α → Option O} (h : ∀ a, x = some a → TM P f N (g a) G R k e w) : TM P f N (x.bind g) G R k e w := by
  intro o ho
  obtain ⟨a, ha, hg⟩ := Option.bind_eq_some_iff.1 ho
  exact h a ha o hg
theorem mg {b : Prop} [Decidable b] {m1 : Option O} (h1 : b → TM P f N m1 G R k e w) : TM P f N (if b then m1 else none) G R k e w := by
  split
  · exact h1 ‹_›
  · intro o ho; cases ho
theorem cd {c : Operand} {x y : Code} {b : Bool} {m1 m2 : Option O} (hc : ev e c = .bool b) (h1 : b = true → TM P f N m1 G R (.code x :: k) e w) (h2 : b = false → TM P f N m2 G R (.code y :: k) e w) :
    TM P f N (if b = true then m1 else m2) G R (.code (.cond c x y) :: k) e w := by
  cases b with
  | true => exact TM.of (fun _ h => T_cond hc h) (by rw [if_pos rfl]; exact h1 rfl)
  | false => exact TM.of (fun _ h => T_cond hc h) (by rw [if_neg (by decide)]; exact h2 rfl)
theorem cdt {c : Operand} {x y : Code} (hc : ev e c = .bool true) (h1 : TM P f N m G R (.code x :: k) e w) : TM P f N m G R (.code (.cond c x y) :: k) e w := TM.of (fun _ h => T_cond hc h) h1
theorem cdf {c : Operand} {x y : Code} (hc : ev e c = .bool false) (h1 : TM P f N m G R (.code y :: k) e w) : TM P f N m G R (.code (.cond c x y) :: k) e w := TM.of (fun _ h => T_cond hc h) h1
theorem pu {i d : Nat} {rest : List Nat} {o : Oper} {v : Value} (ho : ops[i]? = some o) (hd : o.dst = some d) (hN : Nat.blt d N = true) (hw : Region.wanted o (yv e ops) = true) (hx : ex e o.op = some v)
    (h : TM P f N m G R (.inRegion ops rest :: k) (upd e d v) w) : TM P f N m G R (.inRegion ops (i :: rest) :: k) e w :=
  TM.of (fun _ h => T_value ho hd hN hw (ex_run hx) h) h
theorem pu' {i d : Nat} {rest : List Nat} {o : Oper} {v : Value} (t0 : E5 (ops[i]?) (some o) (o.dst) (some d) (Nat.blt d N) (true) (Region.wanted o (yv e ops)) (true) (ex e o.op) (some v)) (h : TM P f N m G R (.inRegion ops rest :: k) (upd e d v) w) : TM P f N m G R (.inRegion ops (i :: rest) :: k) e w := pu (e5_ t0).1 (e5_ t0).2.1 (e5_ t0).2.2.1 (e5_ t0).2.2.2.1 (e5_ t0).2.2.2.2 h
theorem mv (v : Value) {i d : Nat} {rest : List Nat} {o : Oper} {x : Operand} (ho : ops[i]? = some o) (hd : o.dst = some d) (hN : Nat.blt d N = true) (hw : Region.wanted o (yv e ops) = true) (hop : o.op = .move x) (hx : ev e x = v)
    (h : TM P f N m G R (.inRegion ops rest :: k) (upd e d v) w) : TM P f N m G R (.inRegion ops (i :: rest) :: k) e w :=
  TM.of (fun _ h => T_value ho hd hN hw (by simp [execOp, hop, hx]) h) h
theorem mv' (v : Value) {i d : Nat} {rest : List Nat} {o : Oper} {x : Operand} (t1 : E6 (ops[i]?) (some o) (o.dst) (some d) (Nat.blt d N) (true) (Region.wanted o (yv e ops)) (true) (o.op) (.move x) (ev e x) (v)) (h : TM P f N m G R (.inRegion ops rest :: k) (upd e d v) w) : TM P f N m G R (.inRegion ops (i :: rest) :: k) e w := mv v (e6_ t1).1 (e6_ t1).2.1 (e6_ t1).2.2.1 (e6_ t1).2.2.2.1 (e6_ t1).2.2.2.2.1 (e6_ t1).2.2.2.2.2 h
theorem asg (v : Value) {i d : Nat} {rest : List Nat} {o : Oper} {x : Operand} (ho : ops[i]? = some o) (hd : o.dst = some d) (hN : Nat.blt d N = true) (hw : Region.wanted o (yv e ops) = true) (hop : o.op = .assign x) (hx : ev e x = v)
    (h : TM P f N m G R (.inRegion ops rest :: k) (upd e d v) w) : TM P f N m G R (.inRegion ops (i :: rest) :: k) e w :=
  TM.of (fun _ h => T_value ho hd hN hw (by simp [execOp, hop, hx]) h) h
theorem asg' (v : Value) {i d : Nat} {rest : List Nat} {o : Oper} {x : Operand} (t1 : E6 (ops[i]?) (some o) (o.dst) (some d) (Nat.blt d N) (true) (Region.wanted o (yv e ops)) (true) (o.op) (.assign x) (ev e x) (v)) (h : TM P f N m G R (.inRegion ops rest :: k) (upd e d v) w) : TM P f N m G R (.inRegion ops (i :: rest) :: k) e w := asg v (e6_ t1).1 (e6_ t1).2.1 (e6_ t1).2.2.1 (e6_ t1).2.2.2.1 (e6_ t1).2.2.2.2.1 (e6_ t1).2.2.2.2.2 h
theorem uw {i d : Nat} {rest : List Nat} {o : Oper} (ho : ops[i]? = some o) (hd : o.dst = some d) (hN : Nat.blt d N = true) (hw : Region.wanted o (yv e ops) = false)
    (h : TM P f N m G R (.inRegion ops rest :: k) (upd e d undef) w) : TM P f N m G R (.inRegion ops (i :: rest) :: k) e w :=
  TM.of (fun _ h => T_unwanted ho hd hN hw h) h
theorem uw' {i d : Nat} {rest : List Nat} {o : Oper} (t0 : E4 (ops[i]?) (some o) (o.dst) (some d) (Nat.blt d N) (true) (Region.wanted o (yv e ops)) (false)) (h : TM P f N m G R (.inRegion ops rest :: k) (upd e d undef) w) : TM P f N m G R (.inRegion ops (i :: rest) :: k) e w := uw (e4_ t0).1 (e4_ t0).2.1 (e4_ t0).2.2.1 (e4_ t0).2.2.2 h
theorem vl {i d : Nat} {rest : List Nat} {o : Oper} {v : Value} {w' : World} (ho : ops[i]? = some o) (hd : o.dst = some d) (hN : Nat.blt d N = true) (hw : Region.wanted o (yv e ops) = true)
    (hr : (execOp (ev e) o).run P w = .ok (.value v) w') (h : TM P f N m G R (.inRegion ops rest :: k) (upd e d v) w') : TM P f N m G R (.inRegion ops (i :: rest) :: k) e w :=
  TM.of (fun _ h => T_value ho hd hN hw hr h) h
theorem vd {i : Nat} {rest : List Nat} {o : Oper} {w' : World} (ho : ops[i]? = some o) (hd : o.dst = none) (hw : Region.wanted o (yv e ops) = true)
    (hr : (execOp (ev e) o).run P w = .ok .skip w') (h : TM P f N m G R (.inRegion ops rest :: k) e w') : TM P f N m G R (.inRegion ops (i :: rest) :: k) e w :=
  TM.of (fun _ h => T_void ho hd hw hr h) h
theorem rtG {fn : Func} {v : Value} {r : ρ} {o : O} (hG : G o = some r) (hf : P.funcs[f]? = some fn) (hr : ∀ a, Fr N e a → (results fn a.tmps).run P w = .ok v w) (hR : R r (.returned v) w) : TM P f N (some o) G R (.code .ret :: k) e w := by
  intro o' ho r' hr'
  obtain rfl := Option.some.inj ho
  rw [hG] at hr'
  obtain rfl := Option.some.inj hr'
  exact T_ret hf hr hR
end
theorem calls_of_TM {P : Program} {f : FuncId} {fn : Func} {c : Code} {args : List Value} {w : World} {ρ : Type} {m : Option ρ} {R : ρ → Ending → World → Prop} {N : Nat} {r : ρ}
    (hf : P.funcs[f]? = some fn) (hN : fn.ntmps = N) (hb : fn.body = some c) (hn : Nat.ble args.length N = true) (hm : m = some r) (h : TM P f N m some R [.code c] (envOf args) w) : Calls P f args.toArray w (R r) := by
  subst hN
  exact calls_of_T hf hb hn (h r hm r rfl)


section
variable {P : Program} {f : FuncId} {N : Nat} {O ρ : Type} {m : Option O} {G : O → Option ρ} {R : ρ → Ending → World → Prop} {e : Env} {w : World} {k : List Item} {ops : Array Oper}
theorem run_call {g : FuncId} {fn : Func} {c : Code} {args : Array Operand} {ts : Array TypeId} {o : Oper} (ho : o.op = .call { callee := .value (.func g), args := args, argTypes := ts }) (hg : P.funcs[g]? = some fn) (hb : fn.body = some c)
    (hn : (fn.name == "runtime.NumGoroutine") = false) : (execOp (ev e) o).run P w = .ok (.enter g (args.map (ev e))) w := by
  have hn' : ¬ fn.name = "runtime.NumGoroutine" := by simpa using hn
  simp [execOp, ho, resolve, ev, Deferred.ofValue, invoke, callFunc, hg, hb, hn']
theorem cl {α : Type} {x : Option α} {km : α → Option O} {i d : Nat} {rest : List Nat} {o : Oper} {g : FuncId} {fn : Func} {c : Code} {args : Array Operand} {ts : Array TypeId} {vs : List Value} {Q : α → Value → World → Prop}
    (ho : ops[i]? = some o) (hd : o.dst = some d) (hN : Nat.blt d N = true) (hw : Region.wanted o (yv e ops) = true)
    (hop : o.op = .call { callee := .value (.func g), args := args, argTypes := ts }) (hg : P.funcs[g]? = some fn) (hb : fn.body = some c) (hn : (fn.name == "runtime.NumGoroutine") = false)
    (hargs : args.toList.map (ev e) = vs) (hc : ∀ a, x = some a → Calls P g vs.toArray w fun en w' => ∃ v, en = .returned v ∧ Q a v w')
    (h : ∀ a v w', x = some a → Q a v w' → TM P f N (km a) G R (.inRegion ops rest :: k) (upd e d v) w') : TM P f N (x.bind km) G R (.inRegion ops (i :: rest) :: k) e w := by
  intro oo hoo r hr
  obtain ⟨a, ha, hkm⟩ := Option.bind_eq_some_iff.1 hoo
  refine T.call_core (E := fun v => upd e d v) ho hw (fun a' ha' v => by rw [hd]; exact ha'.put d hN v) (run_call hop hg hb hn) (by rw [show args.map (ev e) = vs.toArray from by rw [← hargs, ← Array.toList_map]]; exact hc a ha) ?_
  rintro en w' ⟨v, rfl, hQ⟩
  exact ⟨v, rfl, h a v w' ha hQ oo hkm r hr⟩
theorem cl' {α : Type} {x : Option α} {km : α → Option O} {i d : Nat} {rest : List Nat} {o : Oper} {g : FuncId} {fn : Func} {c : Code} {args : Array Operand} {ts : Array TypeId} {vs : List Value} {Q : α → Value → World → Prop} (t0 : E5 (ops[i]?) (some o) (o.dst) (some d) (Nat.blt d N) (true) (Region.wanted o (yv e ops)) (true) (o.op) (.call { callee := .value (.func g), args := args, argTypes := ts })) (hg : P.funcs[g]? = some fn) (t6 : E3 (fn.body) (some c) ((fn.name == "runtime.NumGoroutine")) (false) (args.toList.map (ev e)) (vs)) (hc : ∀ a, x = some a → Calls P g vs.toArray w fun en w' => ∃ v, en = .returned v ∧ Q a v w') (h : ∀ a v w', x = some a → Q a v w' → TM P f N (km a) G R (.inRegion ops rest :: k) (upd e d v) w') : TM P f N (x.bind km) G R (.inRegion ops (i :: rest) :: k) e w := cl (e5_ t0).1 (e5_ t0).2.1 (e5_ t0).2.2.1 (e5_ t0).2.2.2.1 (e5_ t0).2.2.2.2 hg (e3_ t6).1 (e3_ t6).2.1 (e3_ t6).2.2 hc h
end


def appr {S O : Type} (body : S → Option (S ⊕ O)) : Nat → S → Option O
  | 0, _ => none
  | n + 1, s => (body s).bind fun | .inl s' => appr body n s' | .inr r => some r
theorem appr_up {S O : Type} (body : S → Option (S ⊕ O)) : ∀ n s r, appr body n s = some r → appr body (n + 1) s = some r
  | 0, _, _, h => by cases h
  | n + 1, s, r, h => by
    simp only [appr] at h
    obtain ⟨a, ha, h⟩ := Option.bind_eq_some_iff.1 h
    show (body s).bind _ = some r
    rw [ha]
    cases a with
    | inl s' => exact appr_up body n s' r h
    | inr r' => exact h
theorem appr_le {S O : Type} (body : S → Option (S ⊕ O)) {n n' : Nat} (h : n ≤ n') {s : S} {r : O} (hr : appr body n s = some r) : appr body n' s = some r := by
  induction h with
  | refl => exact hr
  | step _ ih => exact appr_up body _ s r ih
noncomputable def iter {S O : Type} (body : S → Option (S ⊕ O)) (s : S) : Option O :=
  open Classical in if h : ∃ n r, appr body n s = some r then some h.choose_spec.choose else none
theorem iter_of {S O : Type} {body : S → Option (S ⊕ O)} {s : S} {n : Nat} {r : O} (h : appr body n s = some r) : iter body s = some r := by
  have hx : ∃ n r, appr body n s = some r := ⟨n, r, h⟩
  unfold iter
  rw [dif_pos hx]
  have h2 := hx.choose_spec.choose_spec
  have h3 := appr_le body (Nat.le_max_left n hx.choose) h
  have h4 := appr_le body (Nat.le_max_right n hx.choose) h2
  rw [h3] at h4
  exact h4.symm
theorem iter_some {S O : Type} {body : S → Option (S ⊕ O)} {s : S} {r : O} (h : iter body s = some r) : ∃ n, appr body n s = some r := by
  unfold iter at h
  split at h
  · rename_i hx
    obtain rfl := Option.some.inj h
    exact ⟨_, hx.choose_spec.choose_spec⟩
  · cases h
theorem iter_eq {S O : Type} (body : S → Option (S ⊕ O)) (s : S) : iter body s = (body s).bind fun | .inl s' => iter body s' | .inr r => some r := by
  apply Option.ext
  intro r
  constructor
  · intro h
    obtain ⟨n, hn⟩ := iter_some h
    cases n with
    | zero => cases hn
    | succ n =>
      simp only [appr] at hn
      obtain ⟨a, ha, hn⟩ := Option.bind_eq_some_iff.1 hn
      rw [ha]
      cases a with
      | inl s' => exact iter_of hn
      | inr r' => exact hn
  · intro h
    obtain ⟨a, ha, h⟩ := Option.bind_eq_some_iff.1 h
    cases a with
    | inl s' =>
      obtain ⟨n, hn⟩ := iter_some h
      exact iter_of (n := n + 1) (by simp only [appr, ha, Option.bind_some]; exact hn)
    | inr r' => exact iter_of (n := 1) (by simp only [appr, ha, Option.bind_some]; exact h)
section
variable {P : Program} {f : FuncId} {N : Nat} {S O ρ : Type} {G : O → Option ρ} {R : ρ → Ending → World → Prop} {k : List Item}
def SG {S O ρ : Type} (g : S → Option ρ) (G : O → Option ρ) : S ⊕ O → Option ρ
  | .inl s => g s
  | .inr o => G o
theorem lpI {body : S → Option (S ⊕ O)} {c : Code} {s : S} {e : Env} {w : World} (Inv : S → Env → World → Prop) (h0 : Inv s e w)
    (round : ∀ g : S → Option ρ, (∀ s e w r, Inv s e w → g s = some r → T P f N (R r) (.inLoop c :: k) e w) → ∀ s e w, Inv s e w → TM P f N (body s) (SG g G) R (.code c :: .inLoop c :: k) e w) :
    TM P f N (iter body s) G R (.code (.loop c) :: k) e w := by
  have key : ∀ n, ∀ s e w r, Inv s e w → (appr body n s).bind G = some r → T P f N (R r) (.inLoop c :: k) e w := by
    intro n
    induction n with
    | zero => intro s e w r _ h; cases h
    | succ n ih =>
      intro s e w r hI h
      obtain ⟨o, h, hG⟩ := Option.bind_eq_some_iff.1 h
      simp only [appr] at h
      obtain ⟨a, ha, h⟩ := Option.bind_eq_some_iff.1 h
      refine T_inLoop (round (fun s => (appr body n s).bind G) ih s e w hI a ha r ?_)
      cases a with
      | inl s' => exact Option.bind_eq_some_iff.2 ⟨o, h, hG⟩
      | inr o' => obtain rfl := Option.some.inj h; exact hG
  intro o ho r hr
  obtain ⟨n, hn⟩ := iter_some ho
  cases n with
  | zero => cases hn
  | succ n =>
    simp only [appr] at hn
    obtain ⟨a, ha, hn⟩ := Option.bind_eq_some_iff.1 hn
    refine T_loop (round (fun s => (appr body n s).bind G) (key n) s e w h0 a ha r ?_)
    cases a with
    | inl s' => exact Option.bind_eq_some_iff.2 ⟨o, hn, hr⟩
    | inr o' => obtain rfl := Option.some.inj hn; exact hr
theorem lb {g : S → Option ρ} {c : Code} {Inv : S → Env → World → Prop} {s : S} {e : Env} {w : World} (ih : ∀ s e w r, Inv s e w → g s = some r → T P f N (R r) (.inLoop c :: k) e w) (hI : Inv s e w) :
    TM P f N (some (.inl s)) (SG g G) R (.inLoop c :: k) e w := by
  intro o ho r hr
  obtain rfl := Option.some.inj ho
  exact ih s e w r hI hr
end
end Go.Proofs.Ytcagjdngannneaa.V
