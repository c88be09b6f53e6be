import Derived.Test.YtdhefendaopcbaaGreatDoorG1
import Derived.Laws.FloatArith
import Derived.MapKept
import Derived.Carry
import Derived.RangeFuncRecord
import Derived.Lib.ConvBytes
set_option linter.unusedVariables false
set_option linter.unusedSimpArgs false
namespace Go.Proofs.YtdhefendaopcbaaGreatDoor.V
open Go
def far (op : BinOp) (x y : Nat) : Nat := (floatBits op .f64 x y).getD nanB
def fneg (x : Nat) : Nat := bif isN x then nanB else Op.negFloat .f64 x
theorem Xh {v : Value} {x : Nat} (h : FL v x) {s : St} : RdF Kd.flt s [v] x [] := ⟨v, rfl, h⟩
theorem fcmp_cn (a b : Nat) : fcmp .f64 (cn a) (cn b) = fcmp .f64 a b := order_cn a b
theorem fbin_cn (op : BinOp) (a b : Nat) : fbin op .f64 (cn a) (cn b) = fbin op .f64 a b := by
 unfold fbin
 simp only [fcmp_cn]
open Ieee in
theorem nan_ops (x y : Datum) (h : x.isNaN = true ∨ y.isNaN = true) : x.sum y = none ∧ x.product y = none ∧ ∀ d, x.quotient d y = none := by
 rcases h with h | h
 · cases x <;> first | cases h | skip
   refine ⟨rfl, ?_, fun d => ?_⟩ <;> cases y <;> rfl
 · cases y <;> first | cases h | skip
   refine ⟨?_, ?_, fun d => ?_⟩ <;> cases x <;> rfl
open Ieee in
theorem sum_notN {x y r : Datum} (h : x.sum y = some r) : r.isNaN = false := by
 cases x <;> cases y <;> simp only [Datum.sum] at h
 all_goals first
  | (cases h; rfl)
  | cases h
  | (split at h <;> first | (cases h; rfl) | cases h)
open Ieee in
theorem product_notN {x y r : Datum} (h : x.product y = some r) : r.isNaN = false := by
 cases x <;> cases y <;> simp only [Datum.product] at h
 all_goals first
  | (cases h; rfl)
  | cases h
  | (split at h <;> first | (cases h; rfl) | cases h)
open Ieee in
theorem quotient_notN {d : Nat} {x y r : Datum} (h : x.quotient d y = some r) : r.isNaN = false := by
  cases x <;> cases y <;> simp only [Datum.quotient] at h
  all_goals first
    | (cases h; rfl)
    | cases h
    | (split at h
       · first | (cases h; rfl) | cases h | (split at h <;> first | (cases h; rfl) | cases h)
       · cases h; rfl)
theorem read_opp (x : Ieee.Datum) : x.opposite.isNaN = x.isNaN := by cases x <;> rfl
theorem isN_read (b : Nat) : (D.read b).isNaN = isN b := by
 cases h : isN b with
 | true => obtain ⟨s, f, e⟩ := read_nan h; rw [e]; rfl
 | false =>
  unfold isN at h
  have h : ¬ 9218868437227405312 < b % 9223372036854775808 := of_decide_eq_false h
  rw [readD]
  split
  · rfl
  · split
    · rfl
    · rw [if_pos (by omega)]; rfl
theorem floatBits_cn (op : BinOp) (a b : Nat) : floatBits op .f64 (cn a) (cn b) = floatBits op .f64 a b := by
 have key : isN a = true ∨ isN b = true → ∀ a' b', (isN a' = isN a) → (isN b' = isN b) → floatBits op .f64 a' b' = none := by
  intro h a' b' ha hb
  have h' : (D.read a').isNaN = true ∨ (D.read b').isNaN = true := by rw [isN_read, isN_read, ha, hb]; exact h
  have h2 : (D.read a').isNaN = true ∨ (D.read b').opposite.isNaN = true := by rw [read_opp]; exact h'
  obtain ⟨k1, k2, k3⟩ := nan_ops _ _ h'
  obtain ⟨k4, _, _⟩ := nan_ops _ _ h2
  unfold floatBits
  cases op <;> simp only []
  · show ((D.read a').sum (D.read b')).map D.write = none; rw [k1]; rfl
  · show ((D.read a').sum (D.read b').opposite).map D.write = none; rw [k4]; rfl
  · show ((D.read a').product (D.read b')).map D.write = none; rw [k2]; rfl
  · show ((D.read a').quotient _ (D.read b')).map D.write = none; rw [k3]; rfl
 cases ha : isN a with
 | true => rw [key (.inl ha) _ _ (isN_cn a) (isN_cn b), key (.inl ha) _ _ rfl rfl]
 | false =>
  cases hb : isN b with
  | true => rw [key (.inr hb) _ _ (isN_cn a) (isN_cn b), key (.inr hb) _ _ rfl rfl]
  | false => rw [cn_of ha, cn_of hb]
theorem floatBits_notN {op : BinOp} {a b r : Nat} (h : floatBits op .f64 a b = some r) : isN r = false := by
 unfold floatBits at h
 have map : ∀ {d : Option Ieee.Datum}, d.map D.write = some r → (∀ e, d = some e → e.isNaN = false) → isN r = false := by
  intro d hd he
  cases d with
  | none => cases hd
  | some e => cases hd; exact write_notN e (he e rfl)
 cases op <;> simp only at h <;> first | (cases h; done) | skip
 · exact map h fun e he => sum_notN he
 · exact map h fun e he => sum_notN he
 · exact map h fun e he => product_notN he
 · exact map h fun e he => quotient_notN he
theorem FL.bits {v : Value} {x : Nat} (h : FL v x) (hn : isN x = false) : v = .float .f64 x := by
 obtain ⟨b, rfl, rfl⟩ := h
 rw [isN_cn] at hn
 rw [cn_of hn]
theorem far_run {P : Program} (w : World) {op : BinOp} (hop : op = .add ∨ op = .sub ∨ op = .mul ∨ op = .quo) (t : TypeId) (a b : Nat) :
    ∃ r n, (binOp op t (.float .f64 a) (.float .f64 b)).run P w = .ok (.float .f64 r) { w with drawn := n } ∧ cn r = far op (cn a) (cn b) := by
  unfold far
  rw [floatBits_cn]
  cases h : floatBits op .f64 a b with
  | some r =>
    refine ⟨r, w.drawn, ?_, ?_⟩
    · rw [run_float_arith w op t .f64 a b r h]
    · rw [cn_of (floatBits_notN h)]; rfl
  | none =>
    refine ⟨Question.cut (.nanBits .f64 a b) (w.tape w.drawn (.nanBits .f64 a b)), w.drawn + 1, ?_, ?_⟩
    · have hn : (Op.floatArith op .f64 a b).run P w = .ok (.float .f64 (Question.cut (.nanBits .f64 a b) (w.tape w.drawn (.nanBits .f64 a b)))) { w with drawn := w.drawn + 1 } := by
        unfold floatBits at h
        rcases hop with rfl | rfl | rfl | rfl <;> simp only at h <;> simp [Op.floatArith, h, choose, Sem.run, Question.forced]
      rcases hop with rfl | rfl | rfl | rfl <;> simpa [binOp] using hn
    · have : isN (Question.cut (.nanBits .f64 a b) (w.tape w.drawn (.nanBits .f64 a b))) = true := by
        generalize w.tape w.drawn (.nanBits .f64 a b) = t
        have hc : Question.cut (.nanBits .f64 a b) t = (t % 2) * 2 ^ 63 + 0x7ff0000000000000 + 1 + (t / 2) % (2 ^ 52 - 1) := rfl
        have h2 := Nat.mod_lt (t / 2) (show 0 < 2 ^ 52 - 1 by decide)
        have h1 : t % 2 = 0 ∨ t % 2 = 1 := by omega
        unfold isN
        rw [decide_eq_true_eq, hc]
        rcases h1 with h1 | h1 <;> rw [h1] <;> omega
      rw [cn_nan this]; rfl
section
variable {P : Program} {f : Who} {N : Nat} {O ρ : Type} {m : Option O} {G : O → Option ρ} {R : ρ → Ending → World → Prop} {e : Env} {s : St} {k : List Item} {ops : Array Oper} {i d : Nat} {rest : List Nat} {o : Oper}
theorem vmk {i d : Nat} {o : Oper} {rest : List Nat} {v : Value} {n : Nat} (ho : ops[i]? = some o) (hd : o.dst = some d) (hN : Nat.blt d N = true) (hw : Region.wanted o (yv e ops) = true) (hr : (execOp (ev e) o).run P s.w = .ok (.value v) { s.w with drawn := n })
    (h : ∀ s', Stp [] s s' → TM P f N m G R (.inRegion ops rest :: k) (upd e d v) s'.w) : TM P f N m G R (.inRegion ops (i :: rest) :: k) e s.w :=
  vl ho hd hN hw hr (h ⟨{ s.w with drawn := n }, s.g⟩ ⟨rfl, rfl, rfl, Nat.le_refl _, fun _ _ _ => rfl, fun _ _ _ => ⟨rfl, rfl⟩⟩)
theorem fq_ {op : BinOp} {t t' : TypeId} {X Y : Operand} {v1 v2 r : Value} {x1 x2 : Nat} (h1 : FL v1 x1) (h2 : FL v2 x2)
    (ho : ops[i]? = some o) (hd : o.dst = some d) (hN : Nat.blt d N = true) (hw : Region.wanted o (yv e ops) = true) (hop : o.op = .binOp op t X Y t') (hx : ev e X = v1) (hy : ev e Y = v2) (hv : fbin op .f64 x1 x2 = some r)
    (h : TM P f N m G R (.inRegion ops rest :: k) (upd e d r) s.w) : TM P f N m G R (.inRegion ops (i :: rest) :: k) e s.w := by
  obtain ⟨b1, rfl, rfl⟩ := h1
  obtain ⟨b2, rfl, rfl⟩ := h2
  rw [fbin_cn] at hv
  exact vl ho hd hN hw (by
    have := fbin_run (P := P) (w := s.w) (t := t) (X := X) (Y := Y) hv
    simp only [execOp, hop, hx, hy]
    rw [Sem.run_bind', this]; rfl) h
theorem fq_' {op : BinOp} {t t' : TypeId} {X Y : Operand} {v1 v2 r : Value} {x1 x2 : Nat} (h1 : FL v1 x1) (h2 : FL v2 x2) (t2 : E8 (ops[i]?) (some o) (o.dst) (some d) (Nat.blt d N) (true) (Region.wanted o (yv e ops)) (true) (o.op) (.binOp op t X Y t') (ev e X) (v1) (ev e Y) (v2) (fbin op .f64 x1 x2) (some r)) (h : TM P f N m G R (.inRegion ops rest :: k) (upd e d r) s.w) : TM P f N m G R (.inRegion ops (i :: rest) :: k) e s.w := fq_ h1 h2 (e8_ t2).1 (e8_ t2).2.1 (e8_ t2).2.2.1 (e8_ t2).2.2.2.1 (e8_ t2).2.2.2.2.1 (e8_ t2).2.2.2.2.2.1 (e8_ t2).2.2.2.2.2.2.1 (e8_ t2).2.2.2.2.2.2.2 h
theorem qv_b {x b : Bool} (h : Qv P N ops e s.w i d (.bool x)) (hb : x = b) : Qv P N ops e s.w i d (.bool b) := by subst hb; exact h
theorem fa_ {op : BinOp} {t t' : TypeId} {X Y : Operand} {v1 v2 : Value} {x1 x2 : Nat} (h1 : FL v1 x1) (h2 : FL v2 x2) (hk : op = .add ∨ op = .sub ∨ op = .mul ∨ op = .quo)
    (ho : ops[i]? = some o) (hd : o.dst = some d) (hN : Nat.blt d N = true) (hw : Region.wanted o (yv e ops) = true) (hop : o.op = .binOp op t X Y t') (hx : ev e X = v1) (hy : ev e Y = v2)
    (h : ∀ v s', Stp [] s s' → FL v (far op x1 x2) → TM P f N m G R (.inRegion ops rest :: k) (upd e d v) s'.w) : TM P f N m G R (.inRegion ops (i :: rest) :: k) e s.w := by
  obtain ⟨b1, rfl, rfl⟩ := h1
  obtain ⟨b2, rfl, rfl⟩ := h2
  obtain ⟨r, n, hr, hc⟩ := far_run (P := P) s.w hk t b1 b2
  refine vmk (v := .float .f64 r) (n := n) ho hd hN hw ?_ fun s' p => h _ s' p ⟨r, rfl, hc⟩
  have hg : (eqGuard op t X Y (.float .f64 b1) (.float .f64 b2)).run P s.w = .ok () s.w := by rcases hk with rfl | rfl | rfl | rfl <;> simp [eqGuard]
  simp only [execOp, hop, hx, hy]
  rw [Sem.run_bind', Sem.run_bind', hg]
  simp only [Result.andThen, hr]
  rfl
theorem fng_ {t : TypeId} {X : Operand} {v1 : Value} {x1 : Nat} (h1 : FL v1 x1)
    (ho : ops[i]? = some o) (hd : o.dst = some d) (hN : Nat.blt d N = true) (hw : Region.wanted o (yv e ops) = true) (hop : o.op = .unOp .neg t X) (hx : ev e X = v1)
    (h : ∀ v, FL v (fneg x1) → TM P f N m G R (.inRegion ops rest :: k) (upd e d v) s.w) : TM P f N m G R (.inRegion ops (i :: rest) :: k) e s.w := by
  obtain ⟨b1, rfl, rfl⟩ := h1
  refine vl (v := .float .f64 (Op.negFloat .f64 b1)) ho hd hN hw (by simp [execOp, hop, hx, Op.unary]) (h _ ⟨_, rfl, ?_⟩)
  have hx : ∀ b, Op.negFloat .f64 b % 9223372036854775808 = b % 9223372036854775808 := by
    intro b
    show (b ^^^ 2 ^ 63) % 2 ^ 63 = b % 2 ^ 63
    rw [Nat.xor_mod_two_pow, Nat.mod_self, Nat.xor_zero]
  have hn : isN (Op.negFloat .f64 b1) = isN b1 := by unfold isN; rw [hx]
  unfold fneg
  rw [isN_cn]
  cases h : isN b1 with
  | true => rw [cn_nan (by rw [hn, h])]; rfl
  | false => rw [cn_of (by rw [hn, h]), cn_of h]; rfl
theorem i2f {t1 t2 : TypeId} {k1 k3 : IntKind} {n : Int} {X : Operand} (hu : P.underlying t2 = some (.float .f64)) (hu1 : P.underlying t1 = some (.int k1))
    (ho : ops[i]? = some o) (hd : o.dst = some d) (hN : Nat.blt d N = true) (hw : Region.wanted o (yv e ops) = true) (hop : o.op = .convert t1 t2 X) (hx : ev e X = .int k3 n)
    (h : ∀ v, FL v (FloatKind.f64.nearest n) → TM P f N m G R (.inRegion ops rest :: k) (upd e d v) s.w) : TM P f N m G R (.inRegion ops (i :: rest) :: k) e s.w :=
  vl (v := .float .f64 (FloatKind.f64.nearest n)) ho hd hN hw (by simp [execOp, hop, hx, convert, run_underlying hu, run_underlying hu1, Conv.intToFloat, Result.andThen]) (h _ ⟨_, rfl, cn_of (write_notN (.number (n < 0) n.natAbs 0) rfl)⟩)
theorem f2i {t1 t2 : TypeId} {k2 : IntKind} {X : Operand} {v1 : Value} {x1 : Nat} {km : Int → Option O} (h1 : FL v1 x1) (hu : P.underlying t2 = some (.int k2)) (hu1 : P.underlying t1 = some (.float .f64))
    (ho : ops[i]? = some o) (hd : o.dst = some d) (hN : Nat.blt d N = true) (hw : Region.wanted o (yv e ops) = true) (hop : o.op = .convert t1 t2 X) (hx : ev e X = v1)
    (h : ∀ n, floatToIntVal .f64 x1 k2 = some n → TM P f N (km n) G R (.inRegion ops rest :: k) (upd e d (.int k2 n)) s.w) : TM P f N ((floatToIntVal .f64 x1 k2).bind km) G R (.inRegion ops (i :: rest) :: k) e s.w := by
  obtain ⟨b1, rfl, rfl⟩ := h1
  refine mb fun n hn => ?_
  have hN' : isN (cn b1) = false := by
    cases hb : isN (cn b1) with
    | false => rfl
    | true =>
      obtain ⟨s', f', e'⟩ := read_nan hb
      unfold floatToIntVal at hn
      have : (FloatKind.f64.decode (cn b1)) = .nan s' f' := e'
      rw [this] at hn
      cases hn
  rw [isN_cn] at hN'
  refine vl (v := .int k2 n) ho hd hN hw ?_ (h n hn)
  rw [cn_of hN'] at hn
  have := run_convert_float_int (P := P) s.w t1 t2 .f64 k2 b1 n (by rw [hu1]; rfl) hu hn
  simp [execOp, hop, hx, this, Result.andThen]
theorem ext_run {w : World} {g : FuncId} {fn : Func} {args : Array Operand} {ts : Array TypeId} {X : Array Value → Sem Value} {v : Value} (hop : o.op = .call { callee := .value (.func g), args := args, argTypes := ts }) (hg : P.funcs[g]? = some fn) (hb : fn.body = none)
    (hn : (fn.name == "runtime.NumGoroutine") = false) (hnx : Extern.findNext fn = none) (hf : Extern.find fn = some X) (hv : (X (args.map (ev e))).run P w = .ok v w) : (execOp (ev e) o).run P w = .ok (.value v) w := by
  have hn' : ¬ fn.name = "runtime.NumGoroutine" := by simpa using hn
  simp [execOp, hop, resolve, ev, Deferred.ofValue, invoke, callFunc, hg, hb, hn', hnx, hf, mark, Sem.run, hv, Result.andThen]
theorem fb_ {g : FuncId} {fn : Func} {X : Operand} {ts : Array TypeId} {v1 : Value} {x1 : Nat} (h1 : FL v1 x1)
    (ho : ops[i]? = some o) (hd : o.dst = some d) (hN : Nat.blt d N = true) (hw : Region.wanted o (yv e ops) = true) (hop : o.op = .call { callee := .value (.func g), args := #[X], argTypes := ts }) (hg : P.funcs[g]? = some fn) (hb : fn.body = none)
    (hn : (fn.name == "runtime.NumGoroutine") = false) (hnx : Extern.findNext fn = none) (hf : Extern.find fn = some Extern.MathFloatBits.float64bits) (hx : ev e X = v1)
    (h : TM P f N m G R (.inRegion ops rest :: k) (upd e d (.int .u64 (x1 : Int))) s.w) : TM P f N (if isN x1 = false then m else none) G R (.inRegion ops (i :: rest) :: k) e s.w := by
  refine mg fun hnn => ?_
  have := h1.bits hnn
  subst this
  exact vl ho hd hN hw (ext_run hop hg hb hn hnx hf (by rw [show (#[X] : Array Operand).map (ev e) = #[ev e X] from by simp, hx]; rfl)) h
theorem fbu {g : FuncId} {fn : Func} {X : Operand} {ts : Array TypeId} {v1 : Value} {x1 : Nat} (h1 : FL v1 x1)
    (ho : ops[i]? = some o) (hd : o.dst = some d) (hN : Nat.blt d N = true) (hw : Region.wanted o (yv e ops) = true) (hop : o.op = .call { callee := .value (.func g), args := #[X], argTypes := ts }) (hg : P.funcs[g]? = some fn) (hb : fn.body = none)
    (hn : (fn.name == "runtime.NumGoroutine") = false) (hnx : Extern.findNext fn = none) (hf : Extern.find fn = some Extern.MathFloatBits.float64bits) (hx : ev e X = v1)
    (h : ∀ b : Nat, cn b = x1 → TM P f N m G R (.inRegion ops rest :: k) (upd e d (.int .u64 (b : Int))) s.w) : TM P f N m G R (.inRegion ops (i :: rest) :: k) e s.w := by
  obtain ⟨b, rfl, hb2⟩ := h1
  exact vl ho hd hN hw (ext_run hop hg hb hn hnx hf (by rw [show (#[X] : Array Operand).map (ev e) = #[ev e X] from by simp, hx]; rfl)) (h b hb2)
theorem fz0 {t t' : TypeId} {X Y : Operand} {b x : Nat} (hc : cn b = x)
    (ho : ops[i]? = some o) (hd : o.dst = some d) (hN : Nat.blt d N = true) (hw : Region.wanted o (yv e ops) = true) (hop : o.op = .binOp .eql t X Y t') (hx : ev e X = .int .u64 (b : Int)) (hy : ev e Y = .int .u64 0)
    (h : TM P f N m G R (.inRegion ops rest :: k) (upd e d (.bool ((x : Int) == 0))) s.w) : TM P f N m G R (.inRegion ops (i :: rest) :: k) e s.w := by
  have hb : ((x : Int) == 0) = ((b : Int) == 0) := by
    cases hN : isN b with
    | false => rw [cn_of hN] at hc; rw [hc]
    | true =>
      rw [cn_nan hN] at hc
      subst hc
      have hne : b ≠ 0 := by intro h0; subst h0; revert hN; decide
      have : ((b : Int) == 0) = false := by simp; exact hne
      rw [this]; rfl
  rw [hb] at h
  exact vl ho hd hN hw (by
    have := ibin_run (P := P) (w := s.w) (op := .eql) (t := t) (X := X) (Y := Y) (k := .u64) (a := (b : Int)) (b := 0) rfl
    simp only [execOp, hop, hx, hy]
    rw [Sem.run_bind', this]; rfl) h
theorem ffb {g : FuncId} {fn : Func} {X : Operand} {ts : Array TypeId} {n : Int}
    (ho : ops[i]? = some o) (hd : o.dst = some d) (hN : Nat.blt d N = true) (hw : Region.wanted o (yv e ops) = true) (hop : o.op = .call { callee := .value (.func g), args := #[X], argTypes := ts }) (hg : P.funcs[g]? = some fn) (hb : fn.body = none)
    (hn : (fn.name == "runtime.NumGoroutine") = false) (hnx : Extern.findNext fn = none) (hf : Extern.find fn = some Extern.MathFloatBits.float64frombits) (hx : ev e X = .int .u64 n)
    (h : ∀ v, FL v (cn n.toNat) → TM P f N m G R (.inRegion ops rest :: k) (upd e d v) s.w) : TM P f N m G R (.inRegion ops (i :: rest) :: k) e s.w :=
  vl (v := .float .f64 n.toNat) ho hd hN hw (ext_run hop hg hb hn hnx hf (by rw [show (#[X] : Array Operand).map (ev e) = #[ev e X] from by simp, hx]; rfl)) (h _ ⟨_, rfl, rfl⟩)
end
end Go.Proofs.YtdhefendaopcbaaGreatDoor.V
set_option linter.unusedVariables false
set_option linter.unusedSimpArgs false
namespace Go.Proofs.YtdhefendaopcbaaGreatDoor.V
open Go
section
variable {P : Program} {f : Who} {N : Nat} {O ρ : Type} {m : Option O} {G : O → Option ρ} {R : ρ → Ending → World → Prop} {e : Env} {s : St} {k : List Item} {ops : Array Oper} {i d : Nat} {rest : List Nat} {o : Oper}
def LoF {α : Type} (K : Kd α) (s : St) (cs : List Value) (xs : List α) (c : Nat) : Prop := ∃ os, ElsO K s.w xs cs os ∧ os.Nodup ∧ ∀ b ∈ os, s.g b = c
theorem lo_one {α : Type} {K : Kd α} {cs : List Value} {x : α} {c : Nat} (h : OwF K s cs x c) : LoF K s cs [x] c := by
 obtain ⟨os, ho, hn, hc⟩ := h
 exact ⟨os, ⟨cs, [], os, [], by simp, by simp, ho, rfl, rfl⟩, hn, hc⟩
theorem ltO {α : Type} {K : Kd α} {t te l : Nat} {z : Value} {parts : Array (Nat × Operand)} {cells : List Value} (xs : List α) (c : Nat) (hu : P.underlying t = some (.slice te)) (hs : (P.info? te).map (·.size) = some K.n) (hz : (P.info? te).bind (·.zero) = some z) (hE : LoF K s cells xs c)
    (ho : ops[i]? = some o) (hd : o.dst = some d) (hN : Nat.blt d N = true) (hw : Region.wanted o (yv e ops) = true) (hop : o.op = .buildSlice t l parts) (hln : Nat.ble (l * K.n) 16777216 = true) (hpos : Nat.ble 1 (l * K.n) = true) (hl : xs.length = l)
    (hzn : z.cells.toList.length = K.n) (hfill : lfill (fun i => some (i * K.n, K.n)) (List.replicate l z.cells.toList).flatten (parts.toList.map fun (i, x) => (i, ev e x)) = some cells)
    (h : ∀ v s', Stp [c] s s' → OwF (Kd.sl te K) s' [v] xs c → TM P f N m G R (.inRegion ops rest :: k) (upd e d v) s'.w) :
    TM P f N m G R (.inRegion ops (i :: rest) :: k) e s.w := by
  obtain ⟨os, hE, hn, hc⟩ := hE
  have hlen := hE.len
  have h2 := Nat.le_of_ble_eq_true hln
  have h3 := Nat.le_of_ble_eq_true hpos
  have hn' : 0 < K.n := Nat.pos_of_ne_zero fun h => by rw [h] at h3; simp at h3
  obtain ⟨s', hs', p, nn, hrow⟩ := new_row (s := s) (te := te) (n := K.n) (l := l) (cells := cells.toArray) c rfl (by simp [hlen, hl]) (by have : l * 1 ≤ l * K.n := Nat.mul_le_mul_left _ hn'; simp only [maxLen]; omega)
  refine vl (w' := s'.w) ho hd hN hw (by rw [hs']; exact lit_run hu hs hz hln hpos hzn hfill hop) (h _ s' ⟨p.os, p.tape, p.output, p.size, p.low, fun b hb _ => p.same b hb rfl⟩ ?_)
  subst hl
  have hlt := hE.lt
  refine ⟨[s.w.heap.size] ++ os, ⟨_, rfl, _, _, os, rfl, by simpa using hrow, hE.frame fun b hb hl => (p.same b hl rfl).2⟩, ?_, fun b hb => ?_⟩
  · refine List.nodup_append.2 ⟨by simp, hn, fun a ha b hb hab => ?_⟩
    simp at ha; subst hab; have := hlt a hb; omega
  · rcases List.mem_append.1 hb with hb | hb
    · simp at hb; subst hb; exact nn.new _ (Nat.le_refl _)
    · rw [nn.old b (hlt b hb), hc b hb]
end
theorem sp2 {α : Type} {K : Kd α} {s : St} {cs : List Value} {x : α} {p r : List Nat} {c : Nat} (c' : Nat) (h : K.ow s.w cs x p) (hn : (p ++ r).Nodup) (hc : ∀ b ∈ p ++ r, s.g b = c) (h10 : Nat.ble 40 c = true) :
    ∃ s' : St, s.w = s'.w ∧ Stp [c] s s' ∧ OwF K s' cs x c ∧ r.Nodup ∧ ∀ b ∈ r, s'.g b = c' := by
  have h10' := Nat.le_of_ble_eq_true h10
  have hn' := List.nodup_append.1 hn
  refine ⟨⟨s.w, fun b => open Classical in if b ∈ r then c' else s.g b⟩, rfl, ⟨rfl, rfl, rfl, Nat.le_refl _, fun b hb hl => ?_, fun b hb hm => ⟨?_, rfl⟩⟩, ⟨p, h, hn'.1, fun b hb => ?_⟩, hn'.2.1, fun b hb => by simp [hb]⟩
  · have : ¬ b ∈ r := fun h => by have := hc b (by simp [h]); omega
    simp [this]
  · have : ¬ b ∈ r := fun h => by have := hc b (by simp [h]); rw [this] at hm; simp [memb] at hm
    simp [this]
  · have : ¬ b ∈ r := fun h => hn'.2.2 b hb b h rfl
    simp only [this, if_false]
    exact hc b (by simp [hb])
theorem sp1 {α : Type} {K : Kd α} {s : St} {cs : List Value} {x : α} {p : List Nat} {c : Nat} (h : K.ow s.w cs x p) (hn : p.Nodup) (hc : ∀ b ∈ p, s.g b = c) : OwF K s cs x c := ⟨p, h, hn, hc⟩
def nextN (E : List (List Nat)) (L D : List Nat) (cs : List Nat) : Bool :=
 rangeB E.length fun i => memb cs i || memb L i || memb D i || anyB (E.getD i []) (fun j => Nat.blt j E.length && !memb L j && !memb D j)
section
variable {P : Program} {f : Who} {N : Nat} {O ρ : Type} {m : Option O} {G : O → Option ρ} {R : ρ → Ending → World → Prop} {k : List Item} {ops : Array Oper}
variable {E : List (List Nat)} {Ds : List (Option Nat)} {Us : List (List Nat)} {L D l : List Nat} {e Ec : Env} {w : World}
theorem zstepN (cs : List (Nat × List (Option Nat))) (tb : Tb ops E Ds Us) (z : Zr E Ds L D l e Ec) (hq : Pq P N ops Ec w L)
    (hb : (useB E Ds Us L && nextN E L D (cs.map (·.1)) && cs.all (fun p => Nat.blt p.1 E.length && !memb L p.1 && !memb D p.1) && !cs.isEmpty) = true)
    (hp : cs.all (fun p => ((pend E E.length L [p.1]).map fun i => Ds.getD i none) == p.2) = true)
    (h : ∀ p ∈ cs, ∀ l' e', Zr E Ds L D (p.1 :: l') (mix p.2 Ec e') Ec → TM P f N m G R (.inRegion ops (p.1 :: l') :: k) (mix p.2 Ec e') w) : TM P f N m G R (.inRegion ops l :: k) e w := by
  simp only [Bool.and_eq_true, Bool.not_eq_true'] at hb
  obtain ⟨⟨⟨hu, hn⟩, hall⟩, hne⟩ := hb
  induction l generalizing e with
  | nil =>
    cases cs with
    | nil => cases hne
    | cons p cs =>
      have hc := List.all_eq_true.1 hall p (by simp)
      simp only [Bool.and_eq_true, Bool.not_eq_true'] at hc
      have hc' : p.1 < E.length := by have := hc.1.1; simp [Nat.blt] at this; omega
      rcases z.ld p.1 hc' (by simp) with h | h
      · exact absurd h (nmemb hc.2)
      · exact absurd h (nmemb hc.1.2)
  | cons i l ih =>
    by_cases hi : i ∈ L
    · exact quiet tb z hq hu hi fun e' z' => ih z'
    · have hD : i ∉ D := fun h => z.done i h (by simp)
      have hlt := z.lt i (by simp)
      have := rangeB_out hn i hlt
      simp only [Bool.or_eq_true] at this
      have hic : i ∈ cs.map (·.1) := by
        rcases this with ((h | h) | h) | h
        · exact memb_iff.1 h
        · exact absurd (memb_iff.1 h) hi
        · exact absurd (memb_iff.1 h) hD
        · obtain ⟨j, hj, hp⟩ := anyB_out h
          simp only [Bool.and_eq_true, Bool.not_eq_true'] at hp
          have hjl : j ∉ i :: l := z.dep [] i l rfl j hj
          have hjlt : j < E.length := by have := hp.1.1; simp [Nat.blt] at this; omega
          rcases z.ld j hjlt hjl with h | h
          · exact absurd h (nmemb hp.2)
          · exact absurd h (nmemb hp.1.2)
      obtain ⟨⟨c, pd⟩, hmem, hcc⟩ := List.mem_map.1 hic
      simp only at hcc
      subst hcc
      have hc := List.all_eq_true.1 hall _ hmem
      simp only [Bool.and_eq_true, Bool.not_eq_true'] at hc
      have hpd := List.all_eq_true.1 hp _ hmem
      simp only [beq_iff_eq] at hpd
      have hcL := hc.1.2
      have he : e = mix pd Ec e := by
        funext t
        unfold mix
        cases hm2 : pd.any (fun x => optB x t) with
        | true => rfl
        | false =>
          refine z.env t fun j hj hjt hm3 => ?_
          have hjp : memb (pend E E.length L [c]) j = false := by
            cases hh : memb (pend E E.length L [c]) j with
            | false => rfl
            | true =>
              have : pd.any (fun x => optB x t) = true := by
                rw [List.any_eq_true]
                refine ⟨some t, ?_, optB_iff.2 rfl⟩
                rw [← hpd]
                exact List.mem_map.2 ⟨j, memb_iff.1 hh, hjt⟩
              rw [this] at hm2; cases hm2
          have hjs : j ∈ scan E E.length [c] := by
            cases hh : memb (scan E E.length [c]) j with
            | true => exact memb_iff.1 hh
            | false => exact absurd (List.mem_filter.2 ⟨hj, by simp [hh]⟩ : j ∈ pend E E.length L [c]) (nmemb hjp)
          have hnd := List.nodup_cons.1 z.nd
          have := scan_out (E := E) (l := l) (fun x hx hlt y hy hm => by
            by_cases hxi : x = c
            · subst hxi; exact z.dep [] x l rfl y hy (List.mem_cons_of_mem _ hm)
            · exact z.dn x hlt (by simp [hxi, hx]) y hy (List.mem_cons_of_mem _ hm)) (fun x hx => z.lt x (List.mem_cons_of_mem _ hx)) E.length [c] (by simpa using hnd.1) j hjs
          rcases List.mem_cons.1 hm3 with rfl | hm3
          · exact nmemb hcL hj
          · exact this hm3
      rw [he] at z ⊢
      exact h _ hmem l e z
theorem zstep2 (c1 c2 : Nat) (pd1 pd2 : List (Option Nat)) (tb : Tb ops E Ds Us) (z : Zr E Ds L D l e Ec) (hq : Pq P N ops Ec w L)
    (hb : (useB E Ds Us L && nextN E L D [c1, c2] && ([(c1, pd1), (c2, pd2)] : List (Nat × List (Option Nat))).all (fun p => Nat.blt p.1 E.length && !memb L p.1 && !memb D p.1) && !([(c1, pd1), (c2, pd2)] : List (Nat × List (Option Nat))).isEmpty) = true)
    (hp : ([(c1, pd1), (c2, pd2)] : List (Nat × List (Option Nat))).all (fun p => ((pend E E.length L [p.1]).map fun i => Ds.getD i none) == p.2) = true)
    (h1 : ∀ l' e', Zr E Ds L D (c1 :: l') (mix pd1 Ec e') Ec → TM P f N m G R (.inRegion ops (c1 :: l') :: k) (mix pd1 Ec e') w)
    (h2 : ∀ l' e', Zr E Ds L D (c2 :: l') (mix pd2 Ec e') Ec → TM P f N m G R (.inRegion ops (c2 :: l') :: k) (mix pd2 Ec e') w) : TM P f N m G R (.inRegion ops l :: k) e w :=
  zstepN [(c1, pd1), (c2, pd2)] tb z hq hb hp fun p hp l' e' => by
    simp only [List.mem_cons, List.not_mem_nil, or_false] at hp
    rcases hp with rfl | rfl
    · exact h1 l' e'
    · exact h2 l' e'
end
end Go.Proofs.YtdhefendaopcbaaGreatDoor.V
set_option linter.unusedVariables false
set_option linter.unusedSimpArgs false
namespace Go.Proofs.YtdhefendaopcbaaGreatDoor.V
open Go
def fl_ (ps : List (List Nat × Nat)) : List Nat := (ps.map (·.1)).flatten
structure ZN (F : Nat → Prop) (ps : List (List Nat × Nat)) (s : St) : Prop where
 z : ∀ b, F b ↔ s.g b = 0
 lo : ∀ b, b ∉ fl_ ps → s.g b < 2
 pt : ∀ p ∈ ps, ∀ b ∈ p.1, s.g b = p.2
noncomputable def colN (ps : List (List Nat × Nat)) (b : Nat) : Nat := match ps with
 | [] => 1
 | p :: ps => open Classical in if b ∈ p.1 then p.2 else colN ps b
theorem colN_out {ps : List (List Nat × Nat)} {b : Nat} (h : b ∉ fl_ ps) : colN ps b = 1 := by
 induction ps with
 | nil => rfl
 | cons p ps ih =>
  simp only [fl_, List.map_cons, List.flatten_cons, List.mem_append, not_or] at h
  unfold colN
  rw [if_neg h.1]
  exact ih h.2
theorem colN_in {ps : List (List Nat × Nat)} (hn : (fl_ ps).Nodup) : ∀ p ∈ ps, ∀ b ∈ p.1, colN ps b = p.2 := by
 induction ps with
 | nil => intro p hp; cases hp
 | cons q ps ih =>
  intro p hp b hb
  have hn' := List.nodup_append.1 (show (q.1 ++ fl_ ps).Nodup from hn)
  unfold colN
  rcases List.mem_cons.1 hp with rfl | hp
  · rw [if_pos hb]
  · have : b ∉ q.1 := fun h => hn'.2.2 b h b (List.mem_flatten.2 ⟨p.1, List.mem_map.2 ⟨p, hp, rfl⟩, hb⟩) rfl
    rw [if_neg this]
    exact ih hn'.2.1 p hp b hb
theorem colN_ge {ps : List (List Nat × Nat)} (h : ps.all (fun p => Nat.ble 2 p.2) = true) (b : Nat) : 1 ≤ colN ps b := by
 induction ps with
 | nil => exact Nat.le_refl _
 | cons p ps ih =>
  simp only [List.all_cons, Bool.and_eq_true] at h
  unfold colN
  split
  · have := Nat.le_of_ble_eq_true h.1; omega
  · exact ih h.2
theorem startN (w : World) (F : Nat → Prop) (ps : List (List Nat × Nat)) (hn : (fl_ ps).Nodup) (hF : ∀ b, F b → b ∉ fl_ ps) (hc : ps.all (fun p => Nat.ble 2 p.2) = true) : ∃ s : St, s.w = w ∧ Kp s s ∧ ZN F ps s := by
 refine ⟨⟨w, fun b => open Classical in if F b then 0 else colN ps b⟩, rfl, ⟨rfl, rfl, rfl, Nat.le_refl _, fun b hb _ => rfl, fun _ _ _ => rfl⟩, ⟨fun b => ?_, fun b hb => ?_, fun p hp b hb => ?_⟩⟩
 · have := colN_ge hc b
   dsimp only
   constructor
   · intro h; rw [if_pos h]
   · intro h; split at h
     · assumption
     · omega
 · dsimp only
   split
   · omega
   · rw [colN_out hb]; omega
 · dsimp only
   have hm : b ∈ fl_ ps := List.mem_flatten.2 ⟨p.1, List.mem_map.2 ⟨p, hp, rfl⟩, hb⟩
   rw [if_neg fun h => hF b h hm]
   exact colN_in hn p hp b hb
section
variable {F : Nat → Prop} {ps : List (List Nat × Nat)} {s s' : St}
theorem ZN.rd (z : ZN F ps s) {α : Type} {K : Kd α} {cs : List Value} {x : α} (h : K.rd s.w cs x F) : RdF K s cs x [0] :=
 K.rd_mono h fun b hb _ => by rw [(z.z b).1 hb]; rfl
theorem ZN.ow (z : ZN F ps s) {α : Type} {K : Kd α} {cs : List Value} {x : α} {p : List Nat} {c : Nat} (hm : (p, c) ∈ ps) (hn : p.Nodup) (h : K.ow s.w cs x p) : OwF K s cs x c := ⟨p, h, hn, fun b hb => z.pt _ hm b hb⟩
theorem ZN.ky (z : ZN F ps s) (p : Kp s s') : Ky (fl_ ps) s.w s'.w := ⟨p.os, p.tape, p.output, p.size, fun b hb hn => p.same b hb (z.lo b hn)⟩
def OwC {α : Type} (K : Kd α) (s : St) (cs : List Value) (x : α) (C : List Nat) : Prop := ∃ os, K.ow s.w cs x os ∧ os.Nodup ∧ ∀ b ∈ os, memb C (s.g b) = true
theorem oc_ow {α : Type} {K : Kd α} {cs : List Value} {x : α} {c : Nat} (h : OwF K s cs x c) : OwC K s cs x [c] := by
 obtain ⟨os, ho, hn, hc⟩ := h
 exact ⟨os, ho, hn, fun b hb => by rw [hc b hb]; simp [memb]⟩
theorem oc_z {α : Type} {K : Kd α} {cs : List Value} {x : α} (h : ∀ w, K.ow w cs x []) : OwC K s cs x [] := ⟨[], h _, List.nodup_nil, fun _ h => nomatch h⟩
theorem memb_app {C D : List Nat} {n : Nat} : memb (C ++ D) n = (memb C n || memb D n) := by
 induction C with
 | nil => rfl
 | cons c C ih => simp only [List.cons_append, memb, ih, Bool.or_assoc]
theorem oc_pair {α β : Type} {A : Kd α} {B : Kd β} {c1 c2 : List Value} {x : α} {y : β} {C D : List Nat} (h : OwC A s c1 x C) (h2 : OwC B s c2 y D) (hd : dj C D = true) : OwC (Kd.pair A B) s (c1 ++ c2) (x, y) (C ++ D) := by
 obtain ⟨os, ho, hn, hc⟩ := h
 obtain ⟨qs, hq, hqn, hqc⟩ := h2
 refine ⟨os ++ qs, ⟨c1, c2, os, qs, rfl, rfl, ho, hq⟩, List.nodup_append.2 ⟨hn, hqn, fun a ha b hb hab => ?_⟩, fun b hb => ?_⟩
 · subst hab
   have := dj_out hd (hc a ha)
   rw [hqc a hb] at this; cases this
 · rw [memb_app, Bool.or_eq_true]
   rcases List.mem_append.1 hb with hb | hb
   · exact .inl (hc b hb)
   · exact .inr (hqc b hb)
theorem oc_iso {α γ : Type} {A : Kd α} {c1 : List Value} {C : List Nat} (g : γ → α) (x : γ) (h : OwC A s c1 (g x) C) : OwC (Kd.iso A g) s c1 x C := h
theorem ZN.fw (z : ZN F ps s) (p : Kp s s') {α : Type} {K : Kd α} {cs : List Value} {x : α} {C : List Nat} (h : OwC K s' cs x C) (hC : C.all (Nat.ble 2 ·) = true) : FW K (fl_ ps) s.w s'.w cs x := by
 obtain ⟨os, ho, hn, hc⟩ := h
 refine ⟨os, ho, hn, fun b hb => ?_⟩
 by_cases hl : b < s.w.heap.size
 · left
   refine Classical.byContradiction fun hne => ?_
   have h1 := z.lo b hne
   have h2 := p.col b hl (by omega)
   have h3 := hc b hb
   rw [h2] at h3
   have := List.all_eq_true.1 hC _ (memb_iff.1 h3)
   have := Nat.le_of_ble_eq_true this
   omega
 · right; omega
theorem ZN.ky' (z : ZN F ps s) {os : List Nat} (e : fl_ ps = os) (p : Kp s s') : Ky os s.w s'.w := e ▸ z.ky p
theorem ZN.fw' (z : ZN F ps s) {os : List Nat} (e : fl_ ps = os) (p : Kp s s') {α : Type} {K : Kd α} {cs : List Value} {x : α} {C : List Nat} (h : OwC K s' cs x C) (hC : C.all (Nat.ble 2 ·) = true) : FW K os s.w s'.w cs x := e ▸ z.fw p h hC
end
structure Nm (s s' : St) (os : List Nat) (c : Nat) : Prop where
 old : ∀ b, b < s.w.heap.size → b ∉ os → s'.g b = s.g b
 mv : ∀ b ∈ os, s'.g b = c
 new : ∀ b, s.w.heap.size ≤ b → s'.g b = c
theorem nwm {s : St} {p : Nat} {os : List Nat} {w' : World} (c : Nat) (hc : ∀ b ∈ os, s.g b = p) (ky : Ky os s.w w') (h40 : Nat.ble 40 p = true) : ∃ s' : St, s'.w = w' ∧ Stp [p] s s' ∧ Nm s s' os c := by
 have h40' := Nat.le_of_ble_eq_true h40
 refine ⟨⟨w', fun b => open Classical in if b ∈ os then c else if b < s.w.heap.size then s.g b else c⟩, rfl, ⟨ky.os, ky.tape, ky.output, ky.size, fun b hb hl => ?_, fun b hb hm => ?_⟩, ⟨fun b hb hn => by simp [hb, hn], fun b hb => by simp [hb], fun b hb => ?_⟩⟩
 · have : b ∉ os := fun h => by have := hc b h; omega
   simp [this, hb]
 · have : b ∉ os := fun h => by rw [hc b h] at hm; simp [memb] at hm
   exact ⟨by simp [this, hb], ky.same b hb this⟩
 · have : ¬ b < s.w.heap.size := by omega
   simp [this]
theorem FW.m {α : Type} {K : Kd α} {s s' : St} {os : List Nat} {cs : List Value} {x : α} {c : Nat} (h : FW K os s.w s'.w cs x) (n : Nm s s' os c) : OwF K s' cs x c := by
 obtain ⟨os', ho, hn, hf⟩ := h
 refine ⟨os', ho, hn, fun b hb => ?_⟩
 rcases hf b hb with h | h
 · exact n.mv b h
 · exact n.new b h
theorem BlF.rc {s : St} {b : Nat} {t : TypeId} {cs : List Value} {d : Nat} (h : BlF s b t cs d) (c : Nat) (hd : Nat.ble 40 d = true) : ∃ s' : St, s.w = s'.w ∧ Stp [d] s s' ∧ BlF s' b t cs c := by
 have hd' := Nat.le_of_ble_eq_true hd
 refine ⟨⟨s.w, fun b => if s.g b = d then c else s.g b⟩, rfl, ⟨rfl, rfl, rfl, Nat.le_refl _, fun b hb hl => ?_, fun b hb hm => ⟨?_, rfl⟩⟩, h.1, ?_⟩
 · have : ¬ s.g b = d := by omega
   simp [this]
 · have : ¬ s.g b = d := fun h => by rw [h] at hm; simp [memb] at hm
   simp [this]
 · simp [h.2]
section
variable {P : Program} {f : Who} {N : Nat} {O ρ : Type} {m : Option O} {G : O → Option ρ} {R : ρ → Ending → World → Prop} {e : Env} {s : St} {k : List Item} {ops : Array Oper} {i d : Nat} {rest : List Nat} {o : Oper}
end
end Go.Proofs.YtdhefendaopcbaaGreatDoor.V
set_option linter.unusedVariables false
set_option linter.unusedSimpArgs false
namespace Go.Proofs.YtdhefendaopcbaaGreatDoor.V
open Go
abbrev MD := List (Int × Bool)
def mcell (p : Int × Bool) : Value × Value := (.int .i64 p.1, .bool p.2)
def MpF (s : St) (b : Nat) (m : MD) (c : Nat) : Prop := ∃ es clock, s.w.heap[b]? = some (.map es clock) ∧ s.g b = c ∧ es.toList.map (fun e => (e.key, e.val)) = m.map mcell
theorem MpF.st {s s' : St} {S : List Nat} {b c : Nat} {m : MD} (h : MpF s b m c) (p : Stp S s s') (d : memb S c = false) : MpF s' b m c := by
 obtain ⟨es, cl, hb, hc, he⟩ := h
 have hl : b < s.w.heap.size := (Array.getElem?_eq_some_iff.1 hb).1
 have := p.same b hl (by rw [hc]; exact d)
 exact ⟨es, cl, by rw [this.2]; exact hb, by rw [this.1]; exact hc, he⟩
section
variable {P : Program} {f : Who} {N : Nat} {O ρ : Type} {m : Option O} {G : O → Option ρ} {R : ρ → Ending → World → Prop} {e : Env} {s : St} {k : List Item} {ops : Array Oper} {i d : Nat} {rest : List Nat} {o : Oper}
end
end Go.Proofs.YtdhefendaopcbaaGreatDoor.V
set_option linter.unusedVariables false
set_option linter.unusedSimpArgs false
namespace Go.Proofs.YtdhefendaopcbaaGreatDoor.V
open Go
structure Pk (β : Type) where
 cs : List Value
 x : β
instance {β : Type} [Inhabited β] : Inhabited (Pk β) := ⟨⟨[], default⟩⟩
end Go.Proofs.YtdhefendaopcbaaGreatDoor.V
set_option linter.unusedVariables false
set_option linter.unusedSimpArgs false
namespace Go.Proofs.YtdhefendaopcbaaGreatDoor.V
open Go
section
variable {P : Program} {f : Who} {N : Nat} {O ρ : Type} {m : Option O} {G : O → Option ρ} {R : ρ → Ending → World → Prop} {e : Env} {s : St} {k : List Item} {ops : Array Oper} {i d : Nat} {rest : List Nat} {o : Oper}
end
end Go.Proofs.YtdhefendaopcbaaGreatDoor.V
set_option linter.unusedVariables false
set_option linter.unusedSimpArgs false
namespace Go.Proofs.YtdhefendaopcbaaGreatDoor.V
open Go
def HoL {α β : Type} [Inhabited α] (te : TypeId) (K : Kd α) (A : Kd β) (q : Nat) (set : α → β → α) (s : St) (v : Value) (xs : List α) (ii : Int) (c : Nat) : Prop :=
 ∃ g cap cur c1 u0 c3 p1 p3, v = .slice (some ⟨g, 0, none⟩) xs.length cap ∧ Hr s.w g cur te ∧ xs.length ≤ cap ∧ cap ≤ maxLen ∧ cur.size = cap * K.n ∧
  cur.toList.take (xs.length * K.n) = c1 ++ (u0 ++ c3) ∧ u0.length = A.n ∧ c1.length = ii.toNat * K.n + q ∧ (g :: (p1 ++ p3)).Nodup ∧ (∀ b ∈ g :: (p1 ++ p3), s.g b = c ∧ b < s.w.heap.size) ∧ ii.toNat < xs.length ∧
  ∀ w' e2 y o2, A.ow w' e2 y o2 → Agr s.w w' (· ∈ p1 ++ p3) → ElsO K w' (xs.set ii.toNat (set (at_ xs ii) y)) (c1 ++ (e2 ++ c3)) (p1 ++ (o2 ++ p3))
theorem HoL.st {α β : Type} [Inhabited α] {te : TypeId} {K : Kd α} {A : Kd β} {q : Nat} {set : α → β → α} {s s' : St} {v : Value} {xs : List α} {ii : Int} {c : Nat} {S : List Nat} (h : HoL te K A q set s v xs ii c) (p : Stp S s s') (d : memb S c = false) : HoL te K A q set s' v xs ii c := by
 obtain ⟨g, cap, cur, c1, u0, c3, p1, p3, e1, e2, e3, e4, e5, e6, e7, e8, e9, e10, e11, e12⟩ := h
 have hs : ∀ b ∈ g :: (p1 ++ p3), s'.g b = s.g b ∧ s'.w.heap[b]? = s.w.heap[b]? := fun b hb => p.same b (e10 b hb).2 (by rw [(e10 b hb).1]; exact d)
 refine ⟨g, cap, cur, c1, u0, c3, p1, p3, e1, e2.eq (hs g (by simp)).2, e3, e4, e5, e6, e7, e8, e9, fun b hb => ⟨by rw [(hs b hb).1]; exact (e10 b hb).1, Nat.lt_of_lt_of_le (e10 b hb).2 p.size⟩, e11, fun w' e2 y o2 hy ha => e12 w' e2 y o2 hy fun b hb hl => ?_⟩
 rw [ha b hb (Nat.lt_of_lt_of_le hl p.size), (hs b (by simp at hb ⊢; rcases hb with hb | hb <;> simp [hb])).2]
section
variable {P : Program} {f : Who} {N : Nat} {O ρ : Type} {m : Option O} {G : O → Option ρ} {R : ρ → Ending → World → Prop} {e : Env} {s : St} {k : List Item} {ops : Array Oper} {i d : Nat} {rest : List Nat} {o : Oper}
end
theorem RwF.sub {α : Type} {e : TypeId} {K : Kd α} {s : St} {v : Value} {xs : List α} {c : Nat} {C : List Nat} (h : RwF e K s v xs c C) {D : List Nat} (d : V.sub C D = true) : RwF e K s v xs c D := by
 obtain ⟨cells, os, h1, h2, h3⟩ := h
 exact ⟨cells, os, h1, h2, h3.mono fun b hb _ => sub_out d hb⟩
end Go.Proofs.YtdhefendaopcbaaGreatDoor.V
set_option linter.unusedVariables false
set_option linter.unusedSimpArgs false
namespace Go.Proofs.YtdhefendaopcbaaGreatDoor.V
open Go
theorem ElsR.set {α : Type} {K : Kd α} {w : World} {F : Nat → Prop} {xs : List α} {cells c' : List Value} {y : α} (h : ElsR K w F xs cells) (i : Nat) (hi : i < xs.length) (hy : K.rd w c' y F) : ElsR K w F (xs.set i y) (cells.take (i * K.n) ++ c' ++ cells.drop ((i + 1) * K.n)) := by
 rw [List.set_eq_take_append_cons_drop, if_pos hi, List.append_assoc]
 exact (h.take i).append ⟨c', _, rfl, hy, h.drop (i + 1)⟩
section
variable {P : Program} {f : Who} {N : Nat} {O ρ : Type} {m : Option O} {G : O → Option ρ} {R : ρ → Ending → World → Prop} {e : Env} {s : St} {k : List Item} {ops : Array Oper} {i d : Nat} {rest : List Nat} {o : Oper}
theorem sor {α : Type} [Inhabited α] {K : Kd α} {t te : TypeId} {x y : Operand} {v : Value} {vs : List Value} {xs : List α} {c : Nat} {C D : List Nat} {ii : Int} {ad : Addr} {x' : α}
    (hO : RwF te K s v xs c C) (hA : IxA v K.n ii ad) (h0 : 0 ≤ ii) (h1 : ii < xs.length) (hX : RdF K s vs x' D) (hc : memb (C ++ D) c = false) (hs : (P.info? t).map (·.size) = some K.n)
    (ho : ops[i]? = some o) (hd : o.dst = none) (hw : Region.wanted o (yv e ops) = true) (hop : o.op = .store t x y) (hx : ev e x = .pointer (some ad)) (hy : (ev e y).cells = vs.toArray)
    (h : ∀ s', Stp [c] s s' → RwF te K s' v (xs.set ii.toNat x') c (C ++ D) → TM P f N m G R (.inRegion ops rest :: k) e s'.w) : TM P f N m G R (.inRegion ops (i :: rest) :: k) e s.w := by
  obtain ⟨cells, os, hR, hcol, hE⟩ := hO
  have hvl : vs.length = K.n := K.rd_len hX
  have hv1 : ∀ u ∈ vs, u.oneCell' = true := K.rd_one hX
  obtain ⟨Aa, l, cap2, hv, rfl⟩ := hA
  have hi : ii.toNat < xs.length := by omega
  obtain ⟨hl, hR2⟩ := hR
  rcases hR2 with ⟨h2, _⟩ | ⟨g, cap, cur, h2, hg, hlc, hcm, hsz, htk, rfl⟩
  · rw [h2] at hv; cases hv
  · rw [h2] at hv
    simp only [Value.slice.injEq, Option.some.injEq] at hv
    obtain ⟨rfl, rfl, rfl⟩ := hv
    have hgc := hcol g (by simp)
    have hgl : g < s.w.heap.size := hg.lt
    have hmul : (ii.toNat + 1) * K.n ≤ xs.length * K.n := Nat.mul_le_mul_right _ hi
    rw [Nat.add_mul, Nat.one_mul] at hmul
    have hcapm : xs.length * K.n ≤ cap * K.n := Nat.mul_le_mul_right _ hlc
    have hst := storeCells_hr P g (ii.toNat * K.n) te vs 0 cur s.w hg (by rw [hvl, hsz]; omega) hv1
    simp only [Nat.add_zero] at hst
    have had : (⟨g, 0, none⟩ : Addr).add (ii.toNat * K.n) = ⟨g, ii.toNat * K.n, none⟩ := by rw [Addr.add_mid, Nat.zero_add]
    rw [had] at hx
    have hrun : (Instr.storeAt t (.pointer (some ⟨g, ii.toNat * K.n, none⟩)) (ev e y)).run P s.w = .ok () (s.w.setRow g (cur.toList.take (ii.toNat * K.n) ++ vs ++ cur.toList.drop (ii.toNat * K.n + vs.length)).toArray) := by
      unfold Instr.storeAt
      rw [Sem.run_bind']
      simp only [Instr.sureAddr, Sem.run_pure, Result.andThen]
      unfold storeVar
      rw [Sem.run_bind', size_run hs]
      simp only [Result.andThen, hy]
      simp [hvl]
      simp [hvl] at hst
      exact hst
    refine vd (w' := s.w.setRow g (cur.toList.take (ii.toNat * K.n) ++ vs ++ cur.toList.drop (ii.toNat * K.n + vs.length)).toArray) ho hd hw (by simp [execOp, hop, hx, hrun, Result.andThen]) (h ⟨_, s.g⟩ ⟨rfl, rfl, rfl, by simp, fun _ _ _ => rfl, fun b hb hm => ⟨rfl, ?_⟩⟩ ?_)
    · refine setRow_other s.w g b _ fun e => ?_
      rw [e, hgc] at hm; simp [memb] at hm
    · have hoth : ∀ b, b ≠ g → (s.w.setRow g (cur.toList.take (ii.toNat * K.n) ++ vs ++ cur.toList.drop (ii.toNat * K.n + vs.length)).toArray).heap[b]? = s.w.heap[b]? := fun b hb => setRow_other s.w g b _ hb
      have hsub : ∀ n, memb C n = true → memb (C ++ D) n = true := fun n hn => memb_iff.2 (List.mem_append_left _ (memb_iff.1 hn))
      have hsub' : ∀ n, memb D n = true → memb (C ++ D) n = true := fun n hn => memb_iff.2 (List.mem_append_right _ (memb_iff.1 hn))
      have hne : ∀ b, memb (C ++ D) (s.g b) = true → b ≠ g := fun b hb e => by rw [e, hgc] at hb; rw [hb] at hc; cases hc
      have hset := (hE.mono fun b hb _ => hsub _ hb).set ii.toNat hi (K.rd_mono hX fun b hb _ => hsub' _ hb)
      have hset' := hset.frame (w' := s.w.setRow g (cur.toList.take (ii.toNat * K.n) ++ vs ++ cur.toList.drop (ii.toNat * K.n + vs.length)).toArray) fun b hb _ => hoth b (hne b hb)
      refine ⟨_, [g], ⟨?_, .inr ⟨g, cap, _, by rw [List.length_set]; exact h2, hg.row3 _ _ (by rw [hvl, hsz]; omega), by simpa using hlc, hcm, ?_, ?_, rfl⟩⟩, hcol, hset'⟩
      · simp only [List.length_set, List.length_append, List.length_take, List.length_drop, hvl, hl, Nat.add_mul, Nat.one_mul]
        omega
      · simp only [List.size_toArray, List.length_append, List.length_take, List.length_drop, Array.length_toList, hvl, hsz]
        omega
      · rw [List.length_set, ← htk, hvl, Nat.add_mul, Nat.one_mul]
        have e2 : (cur.toList.take (xs.length * K.n)).take (ii.toNat * K.n) = cur.toList.take (ii.toNat * K.n) := by rw [List.take_take]; congr 1; omega
        have e3 : (cur.toList.take (xs.length * K.n)).drop (ii.toNat * K.n + K.n) = (cur.toList.drop (ii.toNat * K.n + K.n)).take (xs.length * K.n - (ii.toNat * K.n + K.n)) := by rw [List.drop_take]
        rw [e2, e3]
        have hla : (cur.toList.take (ii.toNat * K.n) ++ vs).length = ii.toNat * K.n + K.n := by
          rw [List.length_append, List.length_take, Array.length_toList, hvl, hsz]; omega
        rw [List.take_append, List.take_of_length_le (by omega), hla]
end
end Go.Proofs.YtdhefendaopcbaaGreatDoor.V
set_option linter.unusedVariables false
set_option linter.unusedSimpArgs false
namespace Go.Proofs.YtdhefendaopcbaaGreatDoor.V
open Go
section
variable {P : Program} {f : Who} {N : Nat} {O ρ : Type} {m : Option O} {G : O → Option ρ} {R : ρ → Ending → World → Prop} {e : Env} {s : St} {k : List Item} {ops : Array Oper} {i d : Nat} {rest : List Nat} {o : Oper}
end
end Go.Proofs.YtdhefendaopcbaaGreatDoor.V
set_option linter.unusedVariables false
set_option linter.unusedSimpArgs false
namespace Go.Proofs.YtdhefendaopcbaaGreatDoor.V
open Go
section
variable {P : Program} {f : Who} {N : Nat} {O ρ : Type} {m : Option O} {G : O → Option ρ} {R : ρ → Ending → World → Prop} {e : Env} {k : List Item} {ops : Array Oper}
variable {s : St} {i d : Nat} {rest : List Nat} {o : Oper}
end
end Go.Proofs.YtdhefendaopcbaaGreatDoor.V
set_option linter.unusedVariables false
set_option linter.unusedSimpArgs false
namespace Go.Proofs.YtdhefendaopcbaaGreatDoor.V
open Go
theorem rw_cells {α : Type} [Inhabited α] {K : Kd α} {te : TypeId} {s : St} {v : Value} {xs : List α} {c : Nat} {C : List Nat} {ii : Int} {ad : Addr} {es : List Value} (hO : RwF te K s v xs c C) (h0 : 0 ≤ ii) (h1 : ii < xs.length) (hA : IxA v K.n ii ad) (hel : es.length = K.n)
    (hC : ∀ j u, es[j]? = some u → s.w.cell? (ad.add j) = some u) : RdF K s es (at_ xs ii) C := by
  obtain ⟨cells, os, hR, hcol, hE⟩ := hO
  obtain ⟨Aa, l, cap2, hv, rfl⟩ := hA
  have hi : ii.toNat < xs.length := by omega
  obtain ⟨hl, hR2⟩ := hR
  rcases hR2 with ⟨h2, _⟩ | ⟨g, cap, cur, h2, hg, hlc, hcm, hsz, htk, rfl⟩
  · rw [h2] at hv; cases hv
  rw [h2] at hv
  simp only [Value.slice.injEq, Option.some.injEq] at hv
  obtain ⟨rfl, rfl, rfl⟩ := hv
  have hmul : (ii.toNat + 1) * K.n ≤ xs.length * K.n := Nat.mul_le_mul_right _ hi
  rw [Nat.add_mul, Nat.one_mul] at hmul
  have hK := hE.at_ ii.toNat hi
  have hchunk : (cells.drop (ii.toNat * K.n)).take K.n = es := by
    apply List.ext_getElem?
    intro j
    by_cases hj : j < K.n
    · have hcell := hC j es[j] (List.getElem?_eq_getElem (by omega))
      rw [Addr.add_add', Addr.add_mid, Nat.zero_add] at hcell
      have hw2 : s.w.cell? ⟨g, ii.toNat * K.n + j, none⟩ = cur[ii.toNat * K.n + j]? := hg.cell _
      rw [hw2, ← Array.getElem?_toList] at hcell
      rw [List.getElem?_take, if_pos hj, List.getElem?_drop, ← htk, List.getElem?_take, if_pos (by omega), hcell, List.getElem?_eq_getElem (by omega)]
    · rw [List.getElem?_eq_none (by simp; omega), List.getElem?_eq_none (by omega)]
  rw [hchunk] at hK
  rw [at_eq xs ii hi]
  exact hK
theorem rw_sharp {α : Type} [Inhabited α] {K : Kd α} {te : TypeId} {s : St} {v : Value} {xs : List α} {c : Nat} {C D E : List Nat} {ii : Int} {ad : Addr} {es : List Value} (hO : RwF te K s v xs c C) (h0 : 0 ≤ ii) (h1 : ii < xs.length) (hA : IxA v K.n ii ad) (hC : CeF s ad es D) (hX : RdF K s es (at_ xs ii) E) : RdF K s es (at_ xs ii) C :=
 rw_cells hO h0 h1 hA (K.rd_len hX) hC.2
theorem lsn {α : Type} [Inhabited α] {K : Kd α} {te : TypeId} {s : St} {v : Value} {xs : List α} {c : Nat} (c2 : Nat) (hO : OwF (Kd.sl te K) s [v] xs c) (h40 : Nat.ble 40 c = true) :
    ∃ s' : St, s.w = s'.w ∧ Stp [c] s s' ∧ RwF te K s' v xs c [c2] ∧ ∀ (ii : Int) (ad : Addr) (es : List Value) (D E : List Nat), 0 ≤ ii → ii < xs.length → IxA v K.n ii ad → CeF s ad es D → RdF K s es (at_ xs ii) E → RdF K s' es (at_ xs ii) [c2] := by
  have h40' := Nat.le_of_ble_eq_true h40
  obtain ⟨os, ⟨v1, e1, cells, o1, o2, rfl, hR, hE⟩, hnd, hcol⟩ := hO
  obtain rfl : v = v1 := by simpa using e1
  have key : ∃ s' : St, s.w = s'.w ∧ Stp [c] s s' ∧ RwF te K s' v xs c [c2] := by
    refine ⟨⟨s.w, fun b => open Classical in if b ∈ o2 then c2 else s.g b⟩, rfl, ⟨rfl, rfl, rfl, Nat.le_refl _, fun b hb hl => ?_, fun b hb hm => ⟨?_, rfl⟩⟩, cells, o1, hR, fun b hb => ?_, hE.rd.mono fun b hb _ => ?_⟩
    · have : b ∉ o2 := fun h => by have := hcol b (List.mem_append_right _ h); omega
      simp [this]
    · have : b ∉ o2 := fun h => by rw [hcol b (List.mem_append_right _ h)] at hm; simp [memb] at hm
      simp [this]
    · have : b ∉ o2 := fun h => (List.nodup_append.1 hnd).2.2 b hb b h rfl
      simp only [if_neg this]
      exact hcol b (List.mem_append_left _ hb)
    · simp [memb, hb]
  obtain ⟨s', hw, p, hrw⟩ := key
  refine ⟨s', hw, p, hrw, fun ii ad es D E h0 h1 hA hC hX => rw_cells hrw h0 h1 hA (K.rd_len hX) ?_⟩
  rw [← hw]; exact hC.2
abbrev RT {ρ : Type} (Q : ρ → Value → World → Prop) (r : ρ) (en : Ending) (w' : World) : Prop := ∃ v, en = .returned v ∧ Q r v w'
end Go.Proofs.YtdhefendaopcbaaGreatDoor.V
set_option linter.unusedVariables false
set_option linter.unusedSimpArgs false
namespace Go.Proofs.YtdhefendaopcbaaGreatDoor.V
open Go
section
variable {α : Type} {K : Kd α} {te : TypeId} {s : St} {v v' : Value} {xs : List α} {c : Nat}
end
section
variable {P : Program} {f : Who} {N : Nat} {O ρ : Type} {m : Option O} {G : O → Option ρ} {R : ρ → Ending → World → Prop} {e : Env} {s : St} {k : List Item} {ops : Array Oper} {i d : Nat} {rest : List Nat} {o : Oper}
end
end Go.Proofs.YtdhefendaopcbaaGreatDoor.V
set_option linter.unusedVariables false
set_option linter.unusedSimpArgs false
set_option linter.unusedSectionVars false
namespace Go.Proofs.YtdhefendaopcbaaGreatDoor.V
open Go
section
variable {α : Type} [Inhabited α]
end
section
variable {β : Type} [Inhabited β] {K : Kd β} {te : TypeId}
def PkB (K : Kd β) (s : St) (ps : List (Pk β × List Nat)) (c : Nat) : Prop := (∀ p ∈ ps, K.ow s.w p.1.cs p.1.x p.2) ∧ ((ps.map (·.2)).flatten).Nodup ∧ ∀ b ∈ (ps.map (·.2)).flatten, s.g b = c
theorem mem_fl {ps : List (Pk β × List Nat)} {p : Pk β × List Nat} (h : p ∈ ps) {b : Nat} (hb : b ∈ p.2) : b ∈ (ps.map (·.2)).flatten := List.mem_flatten.2 ⟨p.2, List.mem_map.2 ⟨p, h, rfl⟩, hb⟩
theorem PkB.st {s s' : St} {S : List Nat} {ps : List (Pk β × List Nat)} {c : Nat} (h : PkB K s ps c) (p : Stp S s s') (d : memb S c = false) : PkB K s' ps c := by
 refine ⟨fun q hq => K.ow_frame (h.1 q hq) fun b hb hl => (p.same b hl (by rw [h.2.2 b (mem_fl hq hb)]; exact d)).2, h.2.1, fun b hb => ?_⟩
 obtain ⟨l, hl, hbl⟩ := List.mem_flatten.1 hb
 obtain ⟨q, hq, rfl⟩ := List.mem_map.1 hl
 rw [(p.same b (K.ow_lt (h.1 q hq) b hbl) (by rw [h.2.2 b hb]; exact d)).1, h.2.2 b hb]
end
end Go.Proofs.YtdhefendaopcbaaGreatDoor.V
set_option linter.unusedVariables false
set_option linter.unusedSimpArgs false
namespace Go.Proofs.YtdhefendaopcbaaGreatDoor.V
open Go
def cov : List Nat → List Nat → List Nat → Bool
 | [], _, _ => true
 | c :: D, E, C => (memb E c || memb C c) && cov D E C
theorem cov_out {D E C : List Nat} (h : cov D E C = true) {n : Nat} (hn : memb D n = true) : memb E n = true ∨ memb C n = true := by
 induction D with
 | nil => cases hn
 | cons c D ih =>
  simp only [cov, Bool.and_eq_true, Bool.or_eq_true] at h
  simp only [memb, Bool.or_eq_true] at hn
  rcases hn with hn | hn
  · have := Nat.eq_of_beq_eq_true hn
    subst this; exact h.1
  · exact ih h.2 hn
structure Rc (E : List Nat) (q : Nat) (s s' : St) : Prop where
 w : s.w = s'.w
 inn : ∀ b, memb E (s.g b) = true → s'.g b = q
 out : ∀ b, memb E (s.g b) = false → s'.g b = s.g b
theorem RdF.rc {α : Type} {K : Kd α} {s s' : St} {cs : List Value} {x : α} {D E C : List Nat} {q : Nat} (h : RdF K s cs x D) (r : Rc E q s s') (hq : memb C q = true) (hc : cov D E C = true) : RdF K s' cs x C := by
 unfold RdF at h ⊢
 rw [← r.w]
 refine K.rd_mono h fun b hb _ => ?_
 rcases cov_out hc hb with h1 | h1
 · rw [r.inn b h1]; exact hq
 · cases hm : memb E (s.g b) with
   | true => rw [r.inn b hm]; exact hq
   | false => rw [r.out b hm]; exact h1
end Go.Proofs.YtdhefendaopcbaaGreatDoor.V
set_option linter.unusedVariables false
set_option linter.unusedSimpArgs false
namespace Go.Proofs.YtdhefendaopcbaaGreatDoor.V
open Go
theorem ZN.bl {F : Nat → Prop} {ps : List (List Nat × Nat)} {s : St} (z : ZN F ps s) {b c : Nat} {t : TypeId} {cs : List Value} (hm : ([b], c) ∈ ps) (h : BlW s.w b t cs) : BlF s b t cs c := ⟨h, z.pt _ hm b (by simp)⟩
section
variable {P : Program} {N : Nat} {e : Env} {s : St} {ops : Array Oper} {i d : Nat} {o : Oper}
end
end Go.Proofs.YtdhefendaopcbaaGreatDoor.V
set_option linter.unusedVariables false
set_option linter.unusedSimpArgs false
set_option linter.unusedSectionVars false
namespace Go.Proofs.YtdhefendaopcbaaGreatDoor.V
open Go
end Go.Proofs.YtdhefendaopcbaaGreatDoor.V
set_option linter.unusedVariables false
set_option linter.unusedSimpArgs false
namespace Go.Proofs.YtdhefendaopcbaaGreatDoor.V
open Go
structure Wg (w w' : World) : Prop where
 os : w'.os = w.os
 tape : w'.tape = w.tape
 output : w'.output = w.output
 size : w.heap.size ≤ w'.heap.size
structure LpZ where
 l : Nat
 D : Nat
 lp : Loop
structure LoopF (Z : LpZ) (c : Nat) (st : LoopState) (s : St) : Prop where
 lh : s.w.heap[Z.l]? = some (.loop { Z.lp with state := st })
 dh : s.w.heap[Z.D]? = some (.deferred (some []))
 lc : s.g Z.l = c
 dc : s.g Z.D = c
 ne : Z.l ≠ Z.D
 pe : Z.lp.pending = none
theorem LoopF.st {Z : LpZ} {c : Nat} {st : LoopState} {s s' : St} {S : List Nat} (h : LoopF Z c st s) (p : Stp S s s') (d : memb S c = false) : LoopF Z c st s' := by
 have h1 := p.same Z.l (Array.getElem?_eq_some_iff.1 h.lh).1 (by rw [h.lc]; exact d)
 have h2 := p.same Z.D (Array.getElem?_eq_some_iff.1 h.dh).1 (by rw [h.dc]; exact d)
 exact ⟨h1.2.trans h.lh, h2.2.trans h.dh, h1.1.trans h.lc, h2.1.trans h.dc, h.ne, h.pe⟩
theorem LoopF.set {Z : LpZ} {c : Nat} {st : LoopState} {s : St} (h : LoopF Z c st s) (st' : LoopState) : ∃ s' : St, s'.w = s.w.putObj Z.l (.loop { Z.lp with state := st' }) ∧ Stp [c] s s' ∧ LoopF Z c st' s' := by
 refine ⟨⟨s.w.putObj Z.l (.loop { Z.lp with state := st' }), s.g⟩, rfl, ⟨rfl, rfl, rfl, by simp, fun _ _ _ => rfl, fun b hb hm => ⟨rfl, ?_⟩⟩, ⟨World.putObj_heap_same (Array.getElem?_eq_some_iff.1 h.lh).1, ?_, h.lc, h.dc, h.ne, h.pe⟩⟩
 · refine World.putObj_heap_other fun e => ?_
   subst e; rw [h.lc] at hm; simp [memb] at hm
 · exact (World.putObj_heap_other (Ne.symm h.ne)).trans h.dh
def JF {σ : Type} (J : σ → World → Prop) (s : St) (y : σ) : Prop := J y s.w
theorem Stp.ky {s s' : St} (p : Stp [] s s') : Ky [] s.w s'.w := ⟨p.os, p.tape, p.output, p.size, fun b hb _ => (p.same b hb rfl).2⟩
theorem JF.st {σ : Type} {J : σ → World → Prop} {s s' : St} {y : σ} (h : JF J s y) (hJ : ∀ y w w', J y w → Ky [] w w' → J y w') (p : Stp [] s s') : JF J s' y := hJ _ _ _ h p.ky
section
variable {P : Program} {f : Who} {N : Nat} {O ρ : Type} {m : Option O} {G : O → Option ρ} {R : ρ → Ending → World → Prop} {e : Env} {s : St} {w : World} {k : List Item} {ops : Array Oper} {i d : Nat} {rest : List Nat} {o : Oper}
end
end Go.Proofs.YtdhefendaopcbaaGreatDoor.V
set_option linter.unusedVariables false
set_option linter.unusedSimpArgs false
namespace Go.Proofs.YtdhefendaopcbaaGreatDoor.V
open Go
def bts (x : ByteArray) : List Int := x.data.toList.map fun b => (b.toNat : Int)
theorem bts_len (x : ByteArray) : (bts x).length = x.size := by simp [bts]
theorem Hr.mark {P : Program} {w : World} {g : Nat} {cur : Array Value} {e : TypeId} (h : Hr w g cur e) : (markStringish ⟨g, 0, none⟩).run P w = .ok () (w.freeze ⟨g, cur.size, none⟩ 1) ∧ Hr (w.freeze ⟨g, cur.size, none⟩ 1) g cur e ∧ (∀ b, b ≠ g → (w.freeze ⟨g, cur.size, none⟩ 1).heap[b]? = w.heap[b]?) ∧ (w.freeze ⟨g, cur.size, none⟩ 1).heap.size = w.heap.size := by
 obtain ⟨⟨lo, hi⟩, h, h2⟩ := h
 have hsh : w.shape? g = some (e, cur.size) := by unfold World.shape?; rw [h]
 refine ⟨?_, ⟨(if lo == hi then (cur.size, cur.size + 1) else (min lo cur.size, max hi (cur.size + 1))), ?_, ?_⟩, fun b hb => ?_, ?_⟩
 · simp [markStringish, hsh, Result.andThen]
 · simp only [World.freeze, Nat.one_ne_zero, if_false]
   rw [Array.getElem?_modify, if_pos rfl, h]; rfl
 · right
   split
   · exact Nat.le_refl _
   · rcases h2 with h2 | h2
     · obtain ⟨rfl, rfl⟩ := Prod.mk.inj h2
       rename_i hh; simp at hh
     · simp only at h2 ⊢; omega
 · simp only [World.freeze, Nat.one_ne_zero, if_false]
   rw [Array.getElem?_modify, if_neg (fun e => hb e.symm)]
 · simp [World.freeze]
def Kd.glb (bs : List Nat) (Φ : World → Prop) (hΦ : ∀ w w' : World, (∀ b ∈ bs, w'.heap[b]? = w.heap[b]?) → Φ w → Φ w') : Kd Unit where
 n := 0
 rd := fun w cs _ F => cs = [] ∧ Φ w ∧ ∀ b ∈ bs, F b ∧ b < w.heap.size
 ow := fun _ _ _ _ => False
 rd_len := fun h => by rw [h.1]; rfl
 rd_one := fun h v hv => by rw [h.1] at hv; cases hv
 rd_frame := fun {w w' cs x F} h ha => ⟨h.1, hΦ w w' (fun b hb => ha b (h.2.2 b hb).1 (h.2.2 b hb).2) h.2.1, fun b hb => ⟨(h.2.2 b hb).1, by
  have h1 := ha b (h.2.2 b hb).1 (h.2.2 b hb).2
  rw [Array.getElem?_eq_getElem (h.2.2 b hb).2] at h1
  exact (Array.getElem?_eq_some_iff.1 h1).1⟩⟩
 rd_mono := fun h hF => ⟨h.1, h.2.1, fun b hb => ⟨hF b (h.2.2 b hb).1 (h.2.2 b hb).2, (h.2.2 b hb).2⟩⟩
 ow_frame := fun h => h.elim
 ow_lt := fun h => h.elim
 ow_rd := fun h => h.elim
theorem var_fr {P : Program} {w w' : World} {nm : String} {g : Nat} (hg : P.globalNamed nm = some g) (h : w'.heap[g]? = w.heap[g]?) : w'.var? P nm = w.var? P nm := by
 unfold World.var?
 rw [hg]
 simp only [Option.bind_some, h]
theorem var_lt {P : Program} {w : World} {nm : String} {g : Nat} {cs : Array Value} (hg : P.globalNamed nm = some g) (h : w.var? P nm = some cs) : g < w.heap.size := by
 unfold World.var? at h
 rw [hg] at h
 simp only [Option.bind_some] at h
 cases hh : w.heap[g]? with
 | none => rw [hh] at h; cases h
 | some o => exact (Array.getElem?_eq_some_iff.1 hh).1
def enum : Nat → List Value → List (Nat × Value)
 | _, [] => []
 | q, v :: vs => (q, v) :: enum (q + 1) vs
theorem lfill_lin : ∀ (vs : List Value) (pre zs : List Value), vs.all (·.oneCell') = true → vs.length = zs.length → lfill (fun i => some (i * 1, 1)) (pre ++ zs) (enum pre.length vs) = some (pre ++ vs)
 | [], pre, zs, _, hl => by
  obtain rfl : zs = [] := List.eq_nil_of_length_eq_zero hl.symm
  rfl
 | v :: vs, pre, [], _, hl => by cases hl
 | v :: vs, pre, z :: zs, h1, hl => by
  simp only [List.all_cons, Bool.and_eq_true] at h1
  have hc : v.cells = #[v] := by cases v <;> first | rfl | cases h1.1
  have ih := lfill_lin vs (pre ++ [v]) zs h1.2 (by simpa using hl)
  simp only [enum, lfill, Nat.mul_one, hc, List.length_cons, List.length_nil, List.length_append, sets]
  rw [if_neg (by omega), List.set_append_right _ _ (Nat.le_refl _), Nat.sub_self, List.set_cons_zero]
  simpa using ih
theorem lfill_c {n l : Nat} {z : Value} {parts : List (Nat × Value)} {cells : List Value} (hn : n = 1) (hz : z.cells.toList.length = 1) (hl : cells.length = l) (h1 : cells.all (·.oneCell') = true) (hp : parts = enum 0 cells) :
    lfill (fun i => some (i * n, n)) (List.replicate l z.cells.toList).flatten parts = some cells := by
  subst hn
  subst hp
  have := lfill_lin cells [] (List.replicate l z.cells.toList).flatten h1 (by simp [hl]; rw [show z.cells.size = 1 by simpa using hz]; exact (Nat.mul_one _).symm)
  simpa using this
theorem els_strs {w : World} {F : Nat → Prop} : ∀ {xs : List ByteArray} {cells : List Value}, ElsR Kd.str w F xs cells → cells = xs.map (.string ·)
 | [], cells, h => h
 | x :: xs, cells, ⟨c1, c2, e, h1, h2⟩ => by
  have h1' : c1 = [.string x] := h1
  rw [e, h1', els_strs h2]; rfl
def EV (v : Value) (b : Bool) : Prop := (b = true ∧ v = .nilIface) ∨ (b = false ∧ ∃ t p, v = .iface t p)
theorem elsO_ints {w : World} : ∀ (xs : List Int), ElsO (Kd.int .u8) w xs (xs.map (.int .u8)) []
 | [] => ⟨rfl, rfl⟩
 | x :: xs => ⟨[.int .u8 x], xs.map (.int .u8), [], [], rfl, rfl, ⟨rfl, rfl⟩, elsO_ints xs⟩
section
variable {P : Program} {f : Who} {N : Nat} {O ρ : Type} {m : Option O} {G : O → Option ρ} {R : ρ → Ending → World → Prop} {e : Env} {s : St} {k : List Item} {ops : Array Oper} {i d : Nat} {rest : List Nat} {o : Oper}
theorem cvm {t te : TypeId} {x : Operand} {v : Value} {xs : List Int} {c : Nat} (hF : OwF (Kd.sl te (Kd.int .u8)) s [v] xs c) (hn : Nat.blt 0 xs.length = true) (hu : P.underlying t = some (.slice te)) (he : P.underlying te = some (.int .u8))
    (ho : ops[i]? = some o) (hd : o.dst = some d) (hN : Nat.blt d N = true) (hw : Region.wanted o (yv e ops) = true) (hop : o.op = .convert t t x) (hx : ev e x = v)
    (h : ∀ s', Stp [c] s s' → OwF (Kd.sl te (Kd.int .u8)) s' [v] xs c → TM P f N m G R (.inRegion ops rest :: k) (upd e d v) s'.w) : TM P f N m G R (.inRegion ops (i :: rest) :: k) e s.w := by
  obtain ⟨os, ⟨v1, e1, cells, o1, o2, rfl, hR, hE⟩, hnd, hcol⟩ := hF
  obtain rfl : v = v1 := by simpa using e1
  have hn' := Nat.le_of_ble_eq_true hn
  rcases hR.2 with ⟨_, h2, _⟩ | ⟨g, cap, cur, rfl, hg, hlc, hcm, hsz, htk, rfl⟩
  · omega
  · obtain ⟨k1, k2, k3, k4⟩ := hg.mark (P := P)
    have hgc := hcol g (by simp)
    refine vl (v := .slice (some ⟨g, 0, none⟩) xs.length cap) (w' := s.w.freeze ⟨g, cur.size, none⟩ 1) ho hd hN hw ?_ (h ⟨s.w.freeze ⟨g, cur.size, none⟩ 1, s.g⟩ ⟨rfl, rfl, rfl, by rw [k4]; exact Nat.le_refl _, fun _ _ _ => rfl, fun b hb hm => ⟨rfl, k3 b fun hb2 => ?_⟩⟩ ?_)
    · simp [execOp, hop, hx, convert, run_underlying hu, run_underlying he, k1, Result.andThen]
    · subst hb2; rw [hgc] at hm; simp [memb] at hm
    · exact ⟨[g] ++ [], ⟨_, rfl, cells, [g], [], rfl, ⟨hR.1, .inr ⟨g, cap, cur, rfl, k2, hlc, hcm, hsz, htk, rfl⟩⟩, by simpa using Xn.els _ (hE.rd.mono (F' := fun _ => True) fun _ _ _ => trivial)⟩, by simp, fun b hb => by simp at hb; subst hb; exact hgc⟩
theorem s2b {t t1 te : TypeId} {x : Operand} {a : ByteArray} (c : Nat) (hu : P.underlying t1 = some .string) (hu2 : P.underlying t = some (.slice te)) (he : P.underlying te = some (.int .u8))
    (ho : ops[i]? = some o) (hd : o.dst = some d) (hN : Nat.blt d N = true) (hw : Region.wanted o (yv e ops) = true) (hop : o.op = .convert t1 t x) (hx : ev e x = .string a)
    (h : ∀ v s', Stp [] s s' → OwF (Kd.sl te (Kd.int .u8)) s' [v] (bts a) c → TM P f N m G R (.inRegion ops rest :: k) (upd e d v) s'.w) :
    TM P f N (if a.size ≤ Lim then m else none) G R (.inRegion ops (i :: rest) :: k) e s.w := by
  refine mg fun hl => ?_
  have hl' : a.size ≤ maxLen := by unfold Lim at hl; simp only [maxLen]; omega
  have hcap := grownCap_ge s.w a.size 0 te
  have hcm := grownCap_le_maxLen s.w a.size 0 te hl'
  have hsz : (Lib.bytesCells s.w te a).size = grownCap s.w a.size 0 te := by simp [Lib.bytesCells]; omega
  refine vl (v := .slice (some ⟨s.w.heap.size, 0, none⟩) a.size (grownCap s.w a.size 0 te)) (w' := Lib.bytesWorld s.w te a) ho hd hN hw (by simp [execOp, hop, hx, Lib.run_convert_string_bytes s.w t1 t te a hu hu2 he, Result.andThen])
    (h _ ⟨Lib.bytesWorld s.w te a, fun b => if b < s.w.heap.size then s.g b else c⟩ ⟨rfl, rfl, rfl, by rw [Lib.bytesWorld_size]; omega, fun b hb _ => by simp [hb], fun b hb _ => ⟨by simp [hb], Lib.bytesWorld_at_old s.w te a b hb⟩⟩ ?_)
  have hbl := bts_len a
  refine ⟨[s.w.heap.size] ++ [], ⟨_, rfl, (bts a).map (.int .u8), [s.w.heap.size], [], rfl, ⟨by rw [List.length_map]; exact (Nat.mul_one _).symm, .inr ⟨s.w.heap.size, _, Lib.bytesCells s.w te a, by rw [hbl], ⟨_, Lib.bytesWorld_at_new s.w te a, .inr (Nat.le_refl _)⟩, by rw [hbl]; exact hcap, hcm, by rw [hsz]; exact (Nat.mul_one _).symm, ?_, rfl⟩⟩, ?_⟩, by simp, fun b hb => ?_⟩
  · rw [show (Kd.int .u8).n = 1 from rfl, Nat.mul_one, hbl]
    simp only [Lib.bytesCells, Array.toList_append, Array.toList_map]
    rw [List.take_left' (by simp)]
    simp [bts]
  · exact elsO_ints _
  · simp at hb; subst hb; simp
theorem sxi {t : TypeId} {x q : Operand} {a : ByteArray} {kk : IntKind} {ii : Int} (hu : P.underlying t = some .string)
    (ho : ops[i]? = some o) (hd : o.dst = some d) (hN : Nat.blt d N = true) (hw : Region.wanted o (yv e ops) = true) (hop : o.op = .index t x q) (hx : ev e x = .string a) (hq : ev e q = .int kk ii)
    (h : TM P f N m G R (.inRegion ops rest :: k) (upd e d (.int .u8 (at_ (bts a) ii))) s.w) : TM P f N (if 0 ≤ ii ∧ ii < (a.size : Int) then m else none) G R (.inRegion ops (i :: rest) :: k) e s.w := by
  refine mg fun hg => ?_
  have hl : ii.toNat < a.size := by omega
  have hb := bts_len a
  refine vl ho hd hN hw ?_ h
  rw [at_eq (bts a) ii (by omega)]
  have h2 : a[ii.toNat]? = some a[ii.toNat] := by simp [hl]
  simp [execOp, hop, hx, hq, Instr.index, asIntOf, run_underlying hu, hg.1, h2, Result.andThen, bts]
  rfl
theorem sct {t : TypeId} {x : Operand} {lo hi : Option Operand} {a : ByteArray} (p q : Int) (hu : P.underlying t = some .string)
    (ho : ops[i]? = some o) (hd : o.dst = some d) (hN : Nat.blt d N = true) (hw : Region.wanted o (yv e ops) = true) (hop : o.op = .slice t x lo hi none) (hx : ev e x = .string a)
    (hlo : (lo = none ∧ p = 0) ∨ ∃ l k, lo = some l ∧ ev e l = .int k p) (hhi : (hi = none ∧ q = (a.size : Int)) ∨ ∃ l k, hi = some l ∧ ev e l = .int k q)
    (h : TM P f N m G R (.inRegion ops rest :: k) (upd e d (.string (a.extract p.toNat q.toNat))) s.w) : TM P f N (if 0 ≤ p ∧ p ≤ q ∧ q ≤ (a.size : Int) then m else none) G R (.inRegion ops (i :: rest) :: k) e s.w := by
  refine mg fun ⟨h0, h1, h2⟩ => ?_
  refine vl ho hd hN hw ?_ h
  have h3 : 0 ≤ q := by omega
  have h4 : p ≤ max q 0 := by omega
  have h5 : q ≤ (a.size : Int) := h2
  have h6 : ((a.size : Int)).toNat = a.size := by simp
  rcases hlo with ⟨rfl, rfl⟩ | ⟨l, k1, rfl, hl⟩ <;> rcases hhi with ⟨rfl, rfl⟩ | ⟨l2, k2, rfl, hl2⟩ <;>
    simp [execOp, hop, hx, Instr.sliceAt, Instr.slice, run_underlying hu, Instr.sliceBounds, Instr.sliceBound, asIntOf, Result.andThen, *]
theorem sad {t t2 : TypeId} {x y : Operand} {a b : ByteArray}
    (ho : ops[i]? = some o) (hd : o.dst = some d) (hN : Nat.blt d N = true) (hw : Region.wanted o (yv e ops) = true) (hop : o.op = .binOp .add t x y t2) (hx : ev e x = .string a) (hy : ev e y = .string b)
    (h : TM P f N m G R (.inRegion ops rest :: k) (upd e d (.string (a ++ b))) s.w) : TM P f N (if a.size + b.size ≤ Lim then m else none) G R (.inRegion ops (i :: rest) :: k) e s.w := by
  refine mg fun hl => ?_
  have h1 : ¬ (((a.size + b.size : Nat) : Int) > IntKind.i64.max) := by unfold Lim at hl; have : IntKind.i64.max = 9223372036854775807 := rfl; omega
  refine vl ho hd hN hw ?_ h
  simp only [execOp, hop, hx, hy]
  have h2 : (eqGuard .add t x y (.string a) (.string b)).run P s.w = .ok () s.w := by simp [eqGuard]
  have h3 : (binOp .add t (.string a) (.string b)).run P s.w = .ok (.string (a ++ b)) s.w := by
    simp only [binOp, Op.stringOp]
    rw [if_neg h1]; rfl
  simp only [Sem.run_bind', h2, h3, Result.andThen, Sem.run_pure]
theorem sxi_q {t : TypeId} {x q : Operand} {a : ByteArray} {kk : IntKind} {ii : Int} (hu : P.underlying t = some .string) (hg : 0 ≤ ii ∧ ii < (a.size : Int))
    (ho : ops[i]? = some o) (hd : o.dst = some d) (hN : Nat.blt d N = true) (hw : Region.wanted o (yv e ops) = true) (hop : o.op = .index t x q) (hx : ev e x = .string a) (hq : ev e q = .int kk ii) : Qv P N ops e s.w i d (.int .u8 (at_ (bts a) ii)) := by
  have hl : ii.toNat < a.size := by omega
  have hb := bts_len a
  refine ⟨o, ho, hd, hN, by simp only [selB, hop], .inl ⟨hw, ?_⟩⟩
  rw [at_eq (bts a) ii (by omega)]
  have h2 : a[ii.toNat]? = some a[ii.toNat] := by simp [hl]
  simp [execOp, hop, hx, hq, Instr.index, asIntOf, run_underlying hu, hg.1, h2, Result.andThen, bts]
  rfl
theorem er_run {w : World} {t : TypeId} {ms : Array (String × TypeId)} {v : Value} {b : Bool} (hv : EV v b) (hu : P.underlying t = some (.interface ms)) : (Op.equal t v .nilIface).run P w = .ok b w := by
 rcases hv with ⟨rfl, rfl⟩ | ⟨rfl, tt, p, rfl⟩
 · have h : ∀ d : Nat, (Op.equalIn (d + 1) t .nilIface .nilIface).run P w = .ok true w := fun d => by simp [Op.equalIn, run_underlying hu]
   simp [Op.equal, Op.maxDepth, h 9999]
 · have h : ∀ d : Nat, (Op.equalIn (d + 1) t (.iface tt p) .nilIface).run P w = .ok false w := fun d => by simp [Op.equalIn, run_underlying hu]
   simp [Op.equal, Op.maxDepth, h 9999]
theorem er_guard {w : World} {op : BinOp} {t : TypeId} {X : Operand} {c v : Value} {b : Bool} (hv : EV v b) (ho : op = .eql ∨ op = .neq) : (eqGuard op t X (.const c) v .nilIface).run P w = .ok () w := by
 rcases hv with ⟨rfl, rfl⟩ | ⟨rfl, tt, p, rfl⟩ <;> rcases ho with rfl | rfl <;> simp [eqGuard]
theorem ernon {t t2 : TypeId} {ms : Array (String × TypeId)} {x : Operand} {c v : Value} {b : Bool} (hv : EV v b) (hu : P.underlying t = some (.interface ms))
    (ho : ops[i]? = some o) (hd : o.dst = some d) (hN : Nat.blt d N = true) (hw : Region.wanted o (yv e ops) = true) (hop : o.op = .binOp .neq t x (.const c) t2) (hx : ev e x = v) (hy : ev e (.const c) = .nilIface)
    (h : TM P f N m G R (.inRegion ops rest :: k) (upd e d (.bool (!b))) s.w) : TM P f N m G R (.inRegion ops (i :: rest) :: k) e s.w := by
  refine vl ho hd hN hw ?_ h
  simp only [execOp, hop, hx, hy]
  have h2 : (binOp .neq t v .nilIface).run P s.w = .ok (.bool (!b)) s.w := by
    rcases hv with ⟨rfl, rfl⟩ | ⟨rfl, tt, p, rfl⟩
    · simp only [binOp]; rw [Sem.run_bind', er_run (.inl ⟨rfl, rfl⟩) hu]; rfl
    · simp only [binOp]; rw [Sem.run_bind', er_run (.inr ⟨rfl, tt, p, rfl⟩) hu]; rfl
  simp only [Sem.run_bind', er_guard hv (.inr rfl), h2, Result.andThen, Sem.run_pure]
end
end Go.Proofs.YtdhefendaopcbaaGreatDoor.V
set_option linter.unusedVariables false
set_option linter.unusedSimpArgs false
namespace Go.Proofs.YtdhefendaopcbaaGreatDoor.V
open Go
def SitF (s : St) (b : Nat) (a : ByteArray) (off : Nat) (c : Nat) : Prop := s.w.heap[b]? = some (.stringIter a off) ∧ s.g b = c
theorem SitF.st {s s' : St} {S : List Nat} {b c : Nat} {a : ByteArray} {off : Nat} (h : SitF s b a off c) (p : Stp S s s') (d : memb S c = false) : SitF s' b a off c := by
 have hb : b < s.w.heap.size := (Array.getElem?_eq_some_iff.1 h.1).1
 have := p.same b hb (by rw [h.2]; exact d)
 exact ⟨by rw [this.2]; exact h.1, by rw [this.1]; exact h.2⟩
def nxo (a : ByteArray) (off : Nat) : Nat := if off < a.size then off + (Utf8.decode a off).2 else off
def NXV (v : Value) (a : ByteArray) (off : Nat) : Prop := (off < a.size ∧ v = .tuple #[.bool true, goInt off, .int .i32 (Utf8.decode a off).1]) ∨ (¬ off < a.size ∧ v = .tuple #[.bool false])
theorem elsO_strs {w : World} : ∀ (xs : List ByteArray), ElsO Kd.str w xs (xs.map (.string ·)) []
 | [] => ⟨rfl, rfl⟩
 | x :: xs => ⟨[.string x], xs.map (.string ·), [], [], rfl, rfl, ⟨rfl, rfl⟩, elsO_strs xs⟩
theorem fo_strs {te : Nat} (w : World) (xs : List ByteArray) (n : Nat) (hn : xs.length = n) (hl : n ≤ maxLen) : FO (Kd.sl te Kd.str) w (w.alloc (.cells (xs.map Value.string).toArray te)) [.slice (some ⟨w.heap.size, 0, none⟩) n n] xs ∧ Ky [] w (w.alloc (.cells (xs.map Value.string).toArray te)) := by
 subst hn
 refine ⟨⟨[w.heap.size] ++ [], ⟨_, rfl, xs.map (.string ·), [w.heap.size], [], rfl, ⟨by rw [List.length_map]; exact (Nat.mul_one _).symm, .inr ⟨w.heap.size, xs.length, (xs.map Value.string).toArray, rfl, .mk (heap_alloc_new w _), Nat.le_refl _, hl, by simp; exact (Nat.mul_one _).symm, ?_, rfl⟩⟩, elsO_strs xs⟩, by simp, fun b hb => by simp at hb; omega⟩, ⟨rfl, rfl, rfl, by simp, fun b hb _ => heap_alloc_old w _ hb⟩⟩
 rw [show (Kd.str).n = 1 from rfl, Nat.mul_one, List.take_of_length_le (by simp)]
theorem FRF.kp {α : Type} {K : Kd α} {F : Nat → Prop} {s0 s s' : St} {cs : List Value} {x : α} (h : FRF K F s0.w s.w cs x) (z : ∀ b, F b → s0.g b = 0) (p : Kp s0 s) (p' : Kp s0 s') : FRF K F s0.w s'.w cs x :=
 K.rd_mono (K.rd_frame h fun b hb _ => by rw [p'.same b hb.2 (by rw [z b hb.1]; omega), p.same b hb.2 (by rw [z b hb.1]; omega)]) fun b hb _ => hb
theorem FRF.rd {α : Type} {K : Kd α} {F : Nat → Prop} {s0 s : St} {cs : List Value} {x : α} (h : FRF K F s0.w s.w cs x) (z : ∀ b, F b → s0.g b = 0) (p : Kp s0 s) : RdF K s cs x [0] :=
 K.rd_mono h fun b hb _ => by rw [p.col b hb.2 (by rw [z b hb.1]; omega), z b hb.1]; rfl
theorem FRF.up {α : Type} {K : Kd α} {F : Nat → Prop} {s0 s s' : St} {cs : List Value} {x : α} (h : FRF K (fun b => F b ∧ b < s0.w.heap.size) s.w s'.w cs x) : FRF K F s0.w s'.w cs x := K.rd_mono h fun b hb _ => hb.1
section
variable {P : Program} {f : Who} {N : Nat} {O ρ : Type} {m : Option O} {G : O → Option ρ} {R : ρ → Ending → World → Prop} {e : Env} {s : St} {k : List Item} {ops : Array Oper} {i d : Nat} {rest : List Nat} {o : Oper}
theorem mks (c : Nat) {t : TypeId} {x : Operand} {a : ByteArray} (hu : P.underlying t = some .string) (ho : ops[i]? = some o) (hd : o.dst = some d) (hN : Nat.blt d N = true) (hw : Region.wanted o (yv e ops) = true) (hop : o.op = .range t x) (hx : ev e x = .string a)
    (h : ∀ b s', Stp [] s s' → SitF s' b a 0 c → TM P f N m G R (.inRegion ops rest :: k) (upd e d (.pointer (some ⟨b, 0, none⟩))) s'.w) : TM P f N m G R (.inRegion ops (i :: rest) :: k) e s.w := by
  obtain ⟨s', hs', p, n⟩ := s.made (.stringIter a 0) c
  refine vl (v := .pointer (some ⟨s.w.heap.size, 0, none⟩)) (w' := s'.w) ho hd hN hw ?_ (h _ s' p ⟨?_, n.new _ (Nat.le_refl _)⟩)
  · rw [hs']
    simp [execOp, hop, hx, Instr.range, run_underlying hu, newObj, Result.andThen]
    rfl
  · rw [hs']; exact heap_alloc_new s.w _
theorem nxs {t : Bool} {x : Operand} {a : ByteArray} {b off c : Nat} (hB : SitF s b a off c) (ht : t = true) (ho : ops[i]? = some o) (hd : o.dst = some d) (hN : Nat.blt d N = true) (hw : Region.wanted o (yv e ops) = true) (hop : o.op = .next x t) (hx : ev e x = .pointer (some ⟨b, 0, none⟩))
    (h : ∀ v s', Stp [c] s s' → NXV v a off → SitF s' b a (nxo a off) c → TM P f N m G R (.inRegion ops rest :: k) (upd e d v) s'.w) : TM P f N m G R (.inRegion ops (i :: rest) :: k) e s.w := by
  subst ht
  have hb : b < s.w.heap.size := (Array.getElem?_eq_some_iff.1 hB.1).1
  have hgo : (getObj b).run P s.w = .ok (.stringIter a off) s.w := by
    simp [getObj, Sem.run, hB.1]
  by_cases hlt : off < a.size
  · let w' : World := { s.w with heap := s.w.heap.setIfInBounds b (.stringIter a (off + (Utf8.decode a off).2)) }
    have hrun : (Instr.next (.pointer (some ⟨b, 0, none⟩)) true o.type).run P s.w = .ok (.tuple #[.bool true, goInt off, .int .i32 (Utf8.decode a off).1]) w' := by
      unfold Instr.next
      simp only []
      rw [Sem.run_bind', hgo]
      simp only [Result.andThen]
      rw [if_pos hlt]
      have hset : (setObj b (.stringIter a (off + (Utf8.decode a off).2))).run P s.w = .ok () w' := by
        simp only [setObj, Sem.run, hB.1]
        rfl
      rw [Sem.run_bind', hset]
      rfl
    refine vl (v := _) (w' := w') ho hd hN hw (by simp only [execOp, hop, hx]; rw [Sem.run_bind', hrun]; rfl) (h _ ⟨w', s.g⟩ ⟨rfl, rfl, rfl, by simp [w'], fun _ _ _ => rfl, fun b' hb' hm => ⟨rfl, ?_⟩⟩ (.inl ⟨hlt, rfl⟩) ⟨?_, hB.2⟩)
    · have : b ≠ b' := fun e => by subst e; rw [hB.2] at hm; simp [memb] at hm
      simp [w', Array.getElem?_setIfInBounds_ne this]
    · simp [w', hb, nxo, hlt]
  · have hrun : (Instr.next (.pointer (some ⟨b, 0, none⟩)) true o.type).run P s.w = .ok (.tuple #[.bool false]) s.w := by
      unfold Instr.next
      simp only []
      rw [Sem.run_bind', hgo]
      simp only [Result.andThen]
      rw [if_neg hlt]; rfl
    refine vl (v := _) (w' := s.w) ho hd hN hw (by simp only [execOp, hop, hx]; rw [Sem.run_bind', hrun]; rfl) (h _ s ⟨rfl, rfl, rfl, Nat.le_refl _, fun _ _ _ => rfl, fun _ _ _ => ⟨rfl, rfl⟩⟩ (.inr ⟨hlt, rfl⟩) ?_)
    simp only [nxo, hlt, if_false]
    exact hB
theorem ex0 {x : Operand} {v : Value} {a : ByteArray} {off : Nat} (hv : NXV v a off) (ho : ops[i]? = some o) (hd : o.dst = some d) (hN : Nat.blt d N = true) (hw : Region.wanted o (yv e ops) = true) (hop : o.op = .extract x 0) (hx : ev e x = v)
    (h : TM P f N m G R (.inRegion ops rest :: k) (upd e d (.bool (decide (off < a.size)))) s.w) : TM P f N m G R (.inRegion ops (i :: rest) :: k) e s.w := by
  refine vl ho hd hN hw ?_ h
  rcases hv with ⟨hl, rfl⟩ | ⟨hl, rfl⟩
  · simp [execOp, hop, hx, Instr.extract, hl, Result.andThen]
  · simp [execOp, hop, hx, Instr.extract, hl, Result.andThen]
theorem ex2 {x : Operand} {v : Value} {a : ByteArray} {off : Nat} (hv : NXV v a off) (ho : ops[i]? = some o) (hd : o.dst = some d) (hN : Nat.blt d N = true) (hw : Region.wanted o (yv e ops) = true) (hop : o.op = .extract x 2) (hx : ev e x = v)
    (h : TM P f N m G R (.inRegion ops rest :: k) (upd e d (.int .i32 (Utf8.decode a off).1)) s.w) : TM P f N (if off < a.size then m else none) G R (.inRegion ops (i :: rest) :: k) e s.w := by
  refine mg fun hl => ?_
  refine vl ho hd hN hw ?_ h
  rcases hv with ⟨_, rfl⟩ | ⟨hl', rfl⟩
  · simp [execOp, hop, hx, Instr.extract, Result.andThen]
  · exact absurd hl hl'
theorem slaF {α : Type} {K : Kd α} {t te : TypeId} {v : Value} {xs : List α} {C : List Nat} {G2 : Nat → Prop} {x p : Operand} {k1 : IntKind} {a : Int} (hF : RdF (Kd.sl te K) s [v] xs C) (hG : (Kd.sl te K).rd s.w [v] xs G2) (hu : P.underlying t = some (.slice te)) (hs : (P.info? te).map (·.size) = some K.n)
    (ho : ops[i]? = some o) (hd : o.dst = some d) (hN : Nat.blt d N = true) (hw : Region.wanted o (yv e ops) = true) (hop : o.op = .slice t x (some p) none none) (hx : ev e x = v) (hp : ev e p = .int k1 a)
    (h : ∀ v', RdF (Kd.sl te K) s [v'] (xs.drop a.toNat) C → (Kd.sl te K).rd s.w [v'] (xs.drop a.toNat) G2 → TM P f N m G R (.inRegion ops rest :: k) (upd e d v') s.w) : TM P f N (if 0 ≤ a ∧ a ≤ xs.length then m else none) G R (.inRegion ops (i :: rest) :: k) e s.w := by
  refine mg fun hg => ?_
  obtain ⟨a, rfl⟩ := Int.eq_ofNat_of_zero_le hg.1
  have hab : a ≤ xs.length := by have := hg.2; omega
  obtain ⟨v1, e1, hS⟩ := hF
  obtain rfl : v = v1 := by simpa using e1
  obtain ⟨v2, e2, hS2⟩ := hG
  obtain rfl : v = v2 := by simpa using e2
  obtain ⟨A, cap, cells, hv, hcap, hels, hc⟩ := hS
  subst hv
  have hcut := cut_run (P := P) (w := s.w) (A := A) (len := xs.length) (cap := cap) (a := a) (b := xs.length) (lo := some (.int k1 a)) (hi := none) hu hs hab (by omega) (.inr ⟨k1, rfl⟩) (.inl ⟨rfl, rfl⟩)
  have c1 := cut_rd (a := a) (b := xs.length) ⟨A, cap, cells, rfl, hcap, hels, hc⟩ hab (Nat.le_refl _)
  have c2 := cut_rd (a := a) (b := xs.length) hS2 hab (Nat.le_refl _)
  rw [List.take_length] at c1 c2
  simp only [Int.toNat_natCast] at h
  refine vl ho hd hN hw (by simp only [execOp, hop, hx, Option.map_none, Option.map_some, hp]; rw [Sem.run_bind', hcut]; rfl) (h _ ⟨_, rfl, c1⟩ ⟨_, rfl, c2⟩)
theorem sorl {β : Type} {K2 : Kd β} {te2 : TypeId} {t te : TypeId} {x y : Operand} {v u : Value} {xs : List (List β)} {c : Nat} {C D : List Nat} {ii : Int} {ad : Addr} {x' : List β}
    (hO : RwF te (Kd.sl te2 K2) s v xs c C) (hA : IxA v (Kd.sl te2 K2).n ii ad) (h0 : 0 ≤ ii) (h1 : ii < xs.length) (hX : RdF (Kd.sl te2 K2) s [u] x' D) (hc : memb (C ++ D) c = false) (hs : (P.info? t).map (·.size) = some (Kd.sl te2 K2).n)
    (ho : ops[i]? = some o) (hd : o.dst = none) (hw : Region.wanted o (yv e ops) = true) (hop : o.op = .store t x y) (hx : ev e x = .pointer (some ad)) (hy : ev e y = u)
    (h : ∀ s', Stp [c] s s' → RwF te (Kd.sl te2 K2) s' v (xs.set ii.toNat x') c (C ++ D) → TM P f N m G R (.inRegion ops rest :: k) e s'.w) : TM P f N m G R (.inRegion ops (i :: rest) :: k) e s.w :=
  sor hO hA h0 h1 hX hc hs ho hd hw hop hx (by
    obtain ⟨v1, e1, A, cap, cells, hv, _⟩ := hX
    obtain rfl : u = v1 := by simpa using e1
    rw [hy, hv]; rfl) h
end
section
variable {P : Program} {f : Who} {N : Nat} {O ρ : Type} {G : O → Option ρ} {R : ρ → Ending → World → Prop} {k : List Item} {e : Env} {ops : Array Oper}
theorem clV {α : Type} {x : Option α} {km : α → Option O} {i d : Nat} {rest : List Nat} {o : Oper} {g : FuncId} {fn : Func} {c : Code} {args : Array Operand} {ts : Array TypeId} {vs : List Value} {s : St} {V : α → Value} (cc : Nat) (t0 : E5 (ops[i]?) (some o) (o.dst) (some d) (Nat.blt d N) (true) (Region.wanted o (yv e ops)) (true) (o.op) (.call { callee := .value (.func g), args := args, argTypes := ts })) (hg : P.funcs[g]? = some fn) (t6 : E3 (fn.body) (some c) ((fn.name == "runtime.NumGoroutine")) (false) (args.toList.map (ev e)) (vs)) (hc : ∀ a, x = some a → Calls P g vs.toArray s.w fun en w' => ∃ v, en = .returned v ∧ v = V a ∧ Ky [] s.w w')
  (h : ∀ a s', Stp [] s s' → Nw s s' cc → TM P f N (km a) G R (.inRegion ops rest :: k) (upd e d (V a)) s'.w) : TM P f N (x.bind km) G R (.inRegion ops (i :: rest) :: k) e s.w :=
 cl (e5_ t0).1 (e5_ t0).2.1 (e5_ t0).2.2.1 (e5_ t0).2.2.2.1 (e5_ t0).2.2.2.2 hg (e3_ t6).1 (e3_ t6).2.1 (e3_ t6).2.2 hc fun a v w' _ hq => by
  obtain ⟨rfl, ky⟩ := hq
  obtain ⟨s', rfl, p, n⟩ := nwx s w' cc ky
  exact h a s' p n
theorem clO {α : Type} {x : Option α} {km : α → Option O} {i d : Nat} {rest : List Nat} {o : Oper} {g : FuncId} {fn : Func} {c : Code} {args : Array Operand} {ts : Array TypeId} {vs : List Value} {s : St} {β : Type} {K : Kd β} {X : α → β} (cc : Nat) (t0 : E5 (ops[i]?) (some o) (o.dst) (some d) (Nat.blt d N) (true) (Region.wanted o (yv e ops)) (true) (o.op) (.call { callee := .value (.func g), args := args, argTypes := ts })) (hg : P.funcs[g]? = some fn) (t6 : E3 (fn.body) (some c) ((fn.name == "runtime.NumGoroutine")) (false) (args.toList.map (ev e)) (vs)) (hc : ∀ a, x = some a → Calls P g vs.toArray s.w fun en w' => ∃ v, en = .returned v ∧ FO K s.w w' [v] (X a) ∧ Ky [] s.w w')
  (h : ∀ a v s', Stp [] s s' → OwF K s' [v] (X a) cc → TM P f N (km a) G R (.inRegion ops rest :: k) (upd e d v) s'.w) : TM P f N (x.bind km) G R (.inRegion ops (i :: rest) :: k) e s.w :=
 cl (e5_ t0).1 (e5_ t0).2.1 (e5_ t0).2.2.1 (e5_ t0).2.2.2.1 (e5_ t0).2.2.2.2 hg (e3_ t6).1 (e3_ t6).2.1 (e3_ t6).2.2 hc fun a v w' _ hq => by
  obtain ⟨f, ky⟩ := hq
  obtain ⟨s', rfl, p, n⟩ := nwx s w' cc ky
  exact h a v s' p (f.c n)
end
end Go.Proofs.YtdhefendaopcbaaGreatDoor.V
