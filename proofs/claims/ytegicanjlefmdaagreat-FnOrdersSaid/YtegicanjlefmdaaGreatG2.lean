import Derived.Test.YtegicanjlefmdaaGreatG1
import Derived.Laws.FloatArith
import Derived.MapKept
import Derived.Carry
set_option linter.unusedVariables false
set_option linter.unusedSimpArgs false
namespace Go.Proofs.YtegicanjlefmdaaGreat.V
open Go
def far (op : BinOp) (x y : Nat) : Nat := (floatBits op .f64 x y).getD nanB
def fneg (x : Nat) : Nat := bif isN x then nanB else Op.negFloat .f64 x
theorem Xk {v : Value} {x : Nat} (h : FL v x) {s : St} : RdF Kd.flt s [v] x [] := ⟨v, rfl, h⟩
theorem fcmp_cn (a b : Nat) : fcmp .f64 (cn a) (cn b) = fcmp .f64 a b := order_cn a b
theorem fbin_cn (op : BinOp) (a b : Nat) : fbin op .f64 (cn a) (cn b) = fbin op .f64 a b := by
 unfold fbin
 simp only [fcmp_cn]
open Ieee in
theorem nan_ops (x y : Datum) (h : x.isNaN = true ∨ y.isNaN = true) : x.sum y = none ∧ x.product y = none ∧ ∀ d, x.quotient d y = none := by
 rcases h with h | h
 · cases x <;> first | cases h | skip
   refine ⟨rfl, ?_, fun d => ?_⟩ <;> cases y <;> rfl
 · cases y <;> first | cases h | skip
   refine ⟨?_, ?_, fun d => ?_⟩ <;> cases x <;> rfl
open Ieee in
theorem sum_notN {x y r : Datum} (h : x.sum y = some r) : r.isNaN = false := by
 cases x <;> cases y <;> simp only [Datum.sum] at h
 all_goals first
  | (cases h; rfl)
  | cases h
  | (split at h <;> first | (cases h; rfl) | cases h)
open Ieee in
theorem product_notN {x y r : Datum} (h : x.product y = some r) : r.isNaN = false := by
 cases x <;> cases y <;> simp only [Datum.product] at h
 all_goals first
  | (cases h; rfl)
  | cases h
  | (split at h <;> first | (cases h; rfl) | cases h)
open Ieee in
theorem quotient_notN {d : Nat} {x y r : Datum} (h : x.quotient d y = some r) : r.isNaN = false := by
  cases x <;> cases y <;> simp only [Datum.quotient] at h
  all_goals first
    | (cases h; rfl)
    | cases h
    | (split at h
       · first | (cases h; rfl) | cases h | (split at h <;> first | (cases h; rfl) | cases h)
       · cases h; rfl)
theorem read_opp (x : Ieee.Datum) : x.opposite.isNaN = x.isNaN := by cases x <;> rfl
theorem isN_read (b : Nat) : (D.read b).isNaN = isN b := by
 cases h : isN b with
 | true => obtain ⟨s, f, e⟩ := read_nan h; rw [e]; rfl
 | false =>
  unfold isN at h
  have h : ¬ 9218868437227405312 < b % 9223372036854775808 := of_decide_eq_false h
  rw [readD]
  split
  · rfl
  · split
    · rfl
    · rw [if_pos (by omega)]; rfl
theorem floatBits_cn (op : BinOp) (a b : Nat) : floatBits op .f64 (cn a) (cn b) = floatBits op .f64 a b := by
 have key : isN a = true ∨ isN b = true → ∀ a' b', (isN a' = isN a) → (isN b' = isN b) → floatBits op .f64 a' b' = none := by
  intro h a' b' ha hb
  have h' : (D.read a').isNaN = true ∨ (D.read b').isNaN = true := by rw [isN_read, isN_read, ha, hb]; exact h
  have h2 : (D.read a').isNaN = true ∨ (D.read b').opposite.isNaN = true := by rw [read_opp]; exact h'
  obtain ⟨k1, k2, k3⟩ := nan_ops _ _ h'
  obtain ⟨k4, _, _⟩ := nan_ops _ _ h2
  unfold floatBits
  cases op <;> simp only []
  · show ((D.read a').sum (D.read b')).map D.write = none; rw [k1]; rfl
  · show ((D.read a').sum (D.read b').opposite).map D.write = none; rw [k4]; rfl
  · show ((D.read a').product (D.read b')).map D.write = none; rw [k2]; rfl
  · show ((D.read a').quotient _ (D.read b')).map D.write = none; rw [k3]; rfl
 cases ha : isN a with
 | true => rw [key (.inl ha) _ _ (isN_cn a) (isN_cn b), key (.inl ha) _ _ rfl rfl]
 | false =>
  cases hb : isN b with
  | true => rw [key (.inr hb) _ _ (isN_cn a) (isN_cn b), key (.inr hb) _ _ rfl rfl]
  | false => rw [cn_of ha, cn_of hb]
theorem floatBits_notN {op : BinOp} {a b r : Nat} (h : floatBits op .f64 a b = some r) : isN r = false := by
 unfold floatBits at h
 have map : ∀ {d : Option Ieee.Datum}, d.map D.write = some r → (∀ e, d = some e → e.isNaN = false) → isN r = false := by
  intro d hd he
  cases d with
  | none => cases hd
  | some e => cases hd; exact write_notN e (he e rfl)
 cases op <;> simp only at h <;> first | (cases h; done) | skip
 · exact map h fun e he => sum_notN he
 · exact map h fun e he => sum_notN he
 · exact map h fun e he => product_notN he
 · exact map h fun e he => quotient_notN he
theorem FL.bits {v : Value} {x : Nat} (h : FL v x) (hn : isN x = false) : v = .float .f64 x := by
 obtain ⟨b, rfl, rfl⟩ := h
 rw [isN_cn] at hn
 rw [cn_of hn]
theorem far_run {P : Program} (w : World) {op : BinOp} (hop : op = .add ∨ op = .sub ∨ op = .mul ∨ op = .quo) (t : TypeId) (a b : Nat) :
    ∃ r n, (binOp op t (.float .f64 a) (.float .f64 b)).run P w = .ok (.float .f64 r) { w with drawn := n } ∧ cn r = far op (cn a) (cn b) := by
  unfold far
  rw [floatBits_cn]
  cases h : floatBits op .f64 a b with
  | some r =>
    refine ⟨r, w.drawn, ?_, ?_⟩
    · rw [run_float_arith w op t .f64 a b r h]
    · rw [cn_of (floatBits_notN h)]; rfl
  | none =>
    refine ⟨Question.cut (.nanBits .f64 a b) (w.tape w.drawn (.nanBits .f64 a b)), w.drawn + 1, ?_, ?_⟩
    · have hn : (Op.floatArith op .f64 a b).run P w = .ok (.float .f64 (Question.cut (.nanBits .f64 a b) (w.tape w.drawn (.nanBits .f64 a b)))) { w with drawn := w.drawn + 1 } := by
        unfold floatBits at h
        rcases hop with rfl | rfl | rfl | rfl <;> simp only at h <;> simp [Op.floatArith, h, choose, Sem.run, Question.forced]
      rcases hop with rfl | rfl | rfl | rfl <;> simpa [binOp] using hn
    · have : isN (Question.cut (.nanBits .f64 a b) (w.tape w.drawn (.nanBits .f64 a b))) = true := by
        generalize w.tape w.drawn (.nanBits .f64 a b) = t
        have hc : Question.cut (.nanBits .f64 a b) t = (t % 2) * 2 ^ 63 + 0x7ff0000000000000 + 1 + (t / 2) % (2 ^ 52 - 1) := rfl
        have h2 := Nat.mod_lt (t / 2) (show 0 < 2 ^ 52 - 1 by decide)
        have h1 : t % 2 = 0 ∨ t % 2 = 1 := by omega
        unfold isN
        rw [decide_eq_true_eq, hc]
        rcases h1 with h1 | h1 <;> rw [h1] <;> omega
      rw [cn_nan this]; rfl
section
variable {P : Program} {f : FuncId} {N : Nat} {O ρ : Type} {m : Option O} {G : O → Option ρ} {R : ρ → Ending → World → Prop} {e : Env} {s : St} {k : List Item} {ops : Array Oper} {i d : Nat} {rest : List Nat} {o : Oper}
theorem vmk {i d : Nat} {o : Oper} {rest : List Nat} {v : Value} {n : Nat} (ho : ops[i]? = some o) (hd : o.dst = some d) (hN : Nat.blt d N = true) (hw : Region.wanted o (yv e ops) = true) (hr : (execOp (ev e) o).run P s.w = .ok (.value v) { s.w with drawn := n })
    (h : ∀ s', Stp [] s s' → TM P f N m G R (.inRegion ops rest :: k) (upd e d v) s'.w) : TM P f N m G R (.inRegion ops (i :: rest) :: k) e s.w :=
  vl ho hd hN hw hr (h ⟨{ s.w with drawn := n }, s.g⟩ ⟨rfl, rfl, rfl, Nat.le_refl _, fun _ _ _ => rfl, fun _ _ _ => ⟨rfl, rfl⟩⟩)
theorem fq_ {op : BinOp} {t t' : TypeId} {X Y : Operand} {v1 v2 r : Value} {x1 x2 : Nat} (h1 : FL v1 x1) (h2 : FL v2 x2)
    (ho : ops[i]? = some o) (hd : o.dst = some d) (hN : Nat.blt d N = true) (hw : Region.wanted o (yv e ops) = true) (hop : o.op = .binOp op t X Y t') (hx : ev e X = v1) (hy : ev e Y = v2) (hv : fbin op .f64 x1 x2 = some r)
    (h : TM P f N m G R (.inRegion ops rest :: k) (upd e d r) s.w) : TM P f N m G R (.inRegion ops (i :: rest) :: k) e s.w := by
  obtain ⟨b1, rfl, rfl⟩ := h1
  obtain ⟨b2, rfl, rfl⟩ := h2
  rw [fbin_cn] at hv
  exact vl ho hd hN hw (by
    have := fbin_run (P := P) (w := s.w) (t := t) (X := X) (Y := Y) hv
    simp only [execOp, hop, hx, hy]
    rw [Sem.run_bind', this]; rfl) h
theorem qv_b {x b : Bool} (h : Qv P N ops e s.w i d (.bool x)) (hb : x = b) : Qv P N ops e s.w i d (.bool b) := by subst hb; exact h
theorem fa_ {op : BinOp} {t t' : TypeId} {X Y : Operand} {v1 v2 : Value} {x1 x2 : Nat} (h1 : FL v1 x1) (h2 : FL v2 x2) (hk : op = .add ∨ op = .sub ∨ op = .mul ∨ op = .quo)
    (ho : ops[i]? = some o) (hd : o.dst = some d) (hN : Nat.blt d N = true) (hw : Region.wanted o (yv e ops) = true) (hop : o.op = .binOp op t X Y t') (hx : ev e X = v1) (hy : ev e Y = v2)
    (h : ∀ v s', Stp [] s s' → FL v (far op x1 x2) → TM P f N m G R (.inRegion ops rest :: k) (upd e d v) s'.w) : TM P f N m G R (.inRegion ops (i :: rest) :: k) e s.w := by
  obtain ⟨b1, rfl, rfl⟩ := h1
  obtain ⟨b2, rfl, rfl⟩ := h2
  obtain ⟨r, n, hr, hc⟩ := far_run (P := P) s.w hk t b1 b2
  refine vmk (v := .float .f64 r) (n := n) ho hd hN hw ?_ fun s' p => h _ s' p ⟨r, rfl, hc⟩
  have hg : (eqGuard op t X Y (.float .f64 b1) (.float .f64 b2)).run P s.w = .ok () s.w := by rcases hk with rfl | rfl | rfl | rfl <;> simp [eqGuard]
  simp only [execOp, hop, hx, hy]
  rw [Sem.run_bind', Sem.run_bind', hg]
  simp only [Result.andThen, hr]
  rfl
theorem fng_ {t : TypeId} {X : Operand} {v1 : Value} {x1 : Nat} (h1 : FL v1 x1)
    (ho : ops[i]? = some o) (hd : o.dst = some d) (hN : Nat.blt d N = true) (hw : Region.wanted o (yv e ops) = true) (hop : o.op = .unOp .neg t X) (hx : ev e X = v1)
    (h : ∀ v, FL v (fneg x1) → TM P f N m G R (.inRegion ops rest :: k) (upd e d v) s.w) : TM P f N m G R (.inRegion ops (i :: rest) :: k) e s.w := by
  obtain ⟨b1, rfl, rfl⟩ := h1
  refine vl (v := .float .f64 (Op.negFloat .f64 b1)) ho hd hN hw (by simp [execOp, hop, hx, Op.unary]) (h _ ⟨_, rfl, ?_⟩)
  have hx : ∀ b, Op.negFloat .f64 b % 9223372036854775808 = b % 9223372036854775808 := by
    intro b
    show (b ^^^ 2 ^ 63) % 2 ^ 63 = b % 2 ^ 63
    rw [Nat.xor_mod_two_pow, Nat.mod_self, Nat.xor_zero]
  have hn : isN (Op.negFloat .f64 b1) = isN b1 := by unfold isN; rw [hx]
  unfold fneg
  rw [isN_cn]
  cases h : isN b1 with
  | true => rw [cn_nan (by rw [hn, h])]; rfl
  | false => rw [cn_of (by rw [hn, h]), cn_of h]; rfl
theorem i2f {t1 t2 : TypeId} {k1 k3 : IntKind} {n : Int} {X : Operand} (hu : P.underlying t2 = some (.float .f64)) (hu1 : P.underlying t1 = some (.int k1))
    (ho : ops[i]? = some o) (hd : o.dst = some d) (hN : Nat.blt d N = true) (hw : Region.wanted o (yv e ops) = true) (hop : o.op = .convert t1 t2 X) (hx : ev e X = .int k3 n)
    (h : ∀ v, FL v (FloatKind.f64.nearest n) → TM P f N m G R (.inRegion ops rest :: k) (upd e d v) s.w) : TM P f N m G R (.inRegion ops (i :: rest) :: k) e s.w :=
  vl (v := .float .f64 (FloatKind.f64.nearest n)) ho hd hN hw (by simp [execOp, hop, hx, convert, run_underlying hu, run_underlying hu1, Conv.intToFloat, Result.andThen]) (h _ ⟨_, rfl, cn_of (write_notN (.number (n < 0) n.natAbs 0) rfl)⟩)
theorem f2i {t1 t2 : TypeId} {k2 : IntKind} {X : Operand} {v1 : Value} {x1 : Nat} {km : Int → Option O} (h1 : FL v1 x1) (hu : P.underlying t2 = some (.int k2)) (hu1 : P.underlying t1 = some (.float .f64))
    (ho : ops[i]? = some o) (hd : o.dst = some d) (hN : Nat.blt d N = true) (hw : Region.wanted o (yv e ops) = true) (hop : o.op = .convert t1 t2 X) (hx : ev e X = v1)
    (h : ∀ n, floatToIntVal .f64 x1 k2 = some n → TM P f N (km n) G R (.inRegion ops rest :: k) (upd e d (.int k2 n)) s.w) : TM P f N ((floatToIntVal .f64 x1 k2).bind km) G R (.inRegion ops (i :: rest) :: k) e s.w := by
  obtain ⟨b1, rfl, rfl⟩ := h1
  refine mb fun n hn => ?_
  have hN' : isN (cn b1) = false := by
    cases hb : isN (cn b1) with
    | false => rfl
    | true =>
      obtain ⟨s', f', e'⟩ := read_nan hb
      unfold floatToIntVal at hn
      have : (FloatKind.f64.decode (cn b1)) = .nan s' f' := e'
      rw [this] at hn
      cases hn
  rw [isN_cn] at hN'
  refine vl (v := .int k2 n) ho hd hN hw ?_ (h n hn)
  rw [cn_of hN'] at hn
  have := run_convert_float_int (P := P) s.w t1 t2 .f64 k2 b1 n (by rw [hu1]; rfl) hu hn
  simp [execOp, hop, hx, this, Result.andThen]
theorem ext_run {w : World} {g : FuncId} {fn : Func} {args : Array Operand} {ts : Array TypeId} {X : Array Value → Sem Value} {v : Value} (hop : o.op = .call { callee := .value (.func g), args := args, argTypes := ts }) (hg : P.funcs[g]? = some fn) (hb : fn.body = none)
    (hn : (fn.name == "runtime.NumGoroutine") = false) (hnx : Extern.findNext fn = none) (hf : Extern.find fn = some X) (hv : (X (args.map (ev e))).run P w = .ok v w) : (execOp (ev e) o).run P w = .ok (.value v) w := by
  have hn' : ¬ fn.name = "runtime.NumGoroutine" := by simpa using hn
  simp [execOp, hop, resolve, ev, Deferred.ofValue, invoke, callFunc, hg, hb, hn', hnx, hf, mark, Sem.run, hv, Result.andThen]
theorem fb_ {g : FuncId} {fn : Func} {X : Operand} {ts : Array TypeId} {v1 : Value} {x1 : Nat} (h1 : FL v1 x1)
    (ho : ops[i]? = some o) (hd : o.dst = some d) (hN : Nat.blt d N = true) (hw : Region.wanted o (yv e ops) = true) (hop : o.op = .call { callee := .value (.func g), args := #[X], argTypes := ts }) (hg : P.funcs[g]? = some fn) (hb : fn.body = none)
    (hn : (fn.name == "runtime.NumGoroutine") = false) (hnx : Extern.findNext fn = none) (hf : Extern.find fn = some Extern.MathFloatBits.float64bits) (hx : ev e X = v1)
    (h : TM P f N m G R (.inRegion ops rest :: k) (upd e d (.int .u64 (x1 : Int))) s.w) : TM P f N (if isN x1 = false then m else none) G R (.inRegion ops (i :: rest) :: k) e s.w := by
  refine mg fun hnn => ?_
  have := h1.bits hnn
  subst this
  exact vl ho hd hN hw (ext_run hop hg hb hn hnx hf (by rw [show (#[X] : Array Operand).map (ev e) = #[ev e X] from by simp, hx]; rfl)) h
theorem fbu {g : FuncId} {fn : Func} {X : Operand} {ts : Array TypeId} {v1 : Value} {x1 : Nat} (h1 : FL v1 x1)
    (ho : ops[i]? = some o) (hd : o.dst = some d) (hN : Nat.blt d N = true) (hw : Region.wanted o (yv e ops) = true) (hop : o.op = .call { callee := .value (.func g), args := #[X], argTypes := ts }) (hg : P.funcs[g]? = some fn) (hb : fn.body = none)
    (hn : (fn.name == "runtime.NumGoroutine") = false) (hnx : Extern.findNext fn = none) (hf : Extern.find fn = some Extern.MathFloatBits.float64bits) (hx : ev e X = v1)
    (h : ∀ b : Nat, cn b = x1 → TM P f N m G R (.inRegion ops rest :: k) (upd e d (.int .u64 (b : Int))) s.w) : TM P f N m G R (.inRegion ops (i :: rest) :: k) e s.w := by
  obtain ⟨b, rfl, hb2⟩ := h1
  exact vl ho hd hN hw (ext_run hop hg hb hn hnx hf (by rw [show (#[X] : Array Operand).map (ev e) = #[ev e X] from by simp, hx]; rfl)) (h b hb2)
theorem fz0 {t t' : TypeId} {X Y : Operand} {b x : Nat} (hc : cn b = x)
    (ho : ops[i]? = some o) (hd : o.dst = some d) (hN : Nat.blt d N = true) (hw : Region.wanted o (yv e ops) = true) (hop : o.op = .binOp .eql t X Y t') (hx : ev e X = .int .u64 (b : Int)) (hy : ev e Y = .int .u64 0)
    (h : TM P f N m G R (.inRegion ops rest :: k) (upd e d (.bool ((x : Int) == 0))) s.w) : TM P f N m G R (.inRegion ops (i :: rest) :: k) e s.w := by
  have hb : ((x : Int) == 0) = ((b : Int) == 0) := by
    cases hN : isN b with
    | false => rw [cn_of hN] at hc; rw [hc]
    | true =>
      rw [cn_nan hN] at hc
      subst hc
      have hne : b ≠ 0 := by intro h0; subst h0; revert hN; decide
      have : ((b : Int) == 0) = false := by simp; exact hne
      rw [this]; rfl
  rw [hb] at h
  exact vl ho hd hN hw (by
    have := ibin_run (P := P) (w := s.w) (op := .eql) (t := t) (X := X) (Y := Y) (k := .u64) (a := (b : Int)) (b := 0) rfl
    simp only [execOp, hop, hx, hy]
    rw [Sem.run_bind', this]; rfl) h
end
end Go.Proofs.YtegicanjlefmdaaGreat.V
set_option linter.unusedVariables false
set_option linter.unusedSimpArgs false
namespace Go.Proofs.YtegicanjlefmdaaGreat.V
open Go
def LensG {α β : Type} (K : Kd α) (A : Kd β) (q : Nat) (get : α → β) (set : α → β → α) : Prop :=
 ∀ w es x os, K.ow w es x os → ∃ e1 e2 e3 o1 o2 o3, es = e1 ++ (e2 ++ e3) ∧ e1.length = q ∧ os = o1 ++ (o2 ++ o3) ∧ A.ow w e2 (get x) o2 ∧
  ∀ w' y e2' o2', A.ow w' e2' y o2' → Agr w w' (· ∈ o1 ++ o3) → K.ow w' (e1 ++ (e2' ++ e3)) (set x y) (o1 ++ (o2' ++ o3))
theorem lg_id {α : Type} {K : Kd α} : LensG K K 0 (fun x => x) (fun _ y => y) := fun w es x os h =>
 ⟨[], es, [], [], os, [], by simp, rfl, by simp, h, fun w' y e2' o2' hy _ => by simpa using hy⟩
theorem lg_left {α β γ : Type} {K : Kd α} {B : Kd γ} {A : Kd β} {q : Nat} {get : α → β} {set : α → β → α} (h : LensG K A q get set) : LensG (Kd.pair K B) A q (fun p => get p.1) (fun p y => (set p.1 y, p.2)) := fun w es x os hx => by
 obtain ⟨c1, c2, p1, p2, rfl, rfl, h1, h2⟩ := hx
 obtain ⟨e1, e2, e3, o1, o2, o3, rfl, hq, rfl, he, hs⟩ := h w c1 x.1 p1 h1
 exact ⟨e1, e2, e3 ++ c2, o1, o2, o3 ++ p2, by simp, hq, by simp, he, fun w' y e2' o2' hy ha => ⟨e1 ++ (e2' ++ e3), c2, o1 ++ (o2' ++ o3), p2, by simp, by simp, hs w' y e2' o2' hy fun b hb => ha b (by simp at hb ⊢; rcases hb with hb | hb <;> simp [hb]), B.ow_frame h2 fun b hb => ha b (by simp [hb])⟩⟩
theorem lg_right {α β γ : Type} {K : Kd α} {B : Kd γ} {A : Kd β} {q : Nat} {get : α → β} {set : α → β → α} (h : LensG K A q get set) : LensG (Kd.pair B K) A (B.n + q) (fun p => get p.2) (fun p y => (p.1, set p.2 y)) := fun w es x os hx => by
 obtain ⟨c1, c2, p1, p2, rfl, rfl, h1, h2⟩ := hx
 obtain ⟨e1, e2, e3, o1, o2, o3, rfl, hq, rfl, he, hs⟩ := h w c2 x.2 p2 h2
 have hl := B.rd_len (B.ow_rd h1)
 exact ⟨c1 ++ e1, e2, e3, p1 ++ o1, o2, o3, by simp, by simp [hl, hq], by simp, he, fun w' y e2' o2' hy ha => ⟨c1, e1 ++ (e2' ++ e3), p1, o1 ++ (o2' ++ o3), by simp, by simp, B.ow_frame h1 fun b hb => ha b (by simp [hb]), hs w' y e2' o2' hy fun b hb => ha b (by simp at hb ⊢; rcases hb with hb | hb <;> simp [hb])⟩⟩
theorem lg_iso {α β γ : Type} {K : Kd α} {A : Kd β} {q : Nat} {get : α → β} {set : α → β → α} (g : γ → α) (get' : γ → β) (set' : γ → β → γ) (h : LensG K A q get set) (hg : ∀ x, get (g x) = get' x) (hs : ∀ x y, set (g x) y = g (set' x y)) : LensG (Kd.iso K g) A q get' set' := fun w es x os hx => by
 obtain ⟨e1, e2, e3, o1, o2, o3, he, hq, ho, h1, h2⟩ := h w es (g x) os hx
 refine ⟨e1, e2, e3, o1, o2, o3, he, hq, ho, by rw [← hg]; exact h1, fun w' y e2' o2' hy ha => ?_⟩
 have := h2 w' y e2' o2' hy ha
 rw [hs] at this
 exact this
section
variable {P : Program} {f : FuncId} {N : Nat} {O ρ : Type} {m : Option O} {G : O → Option ρ} {R : ρ → Ending → World → Prop} {e : Env} {s : St} {k : List Item} {ops : Array Oper} {i d : Nat} {rest : List Nat} {o : Oper}
theorem lcq_q {t q : Nat} {dd : TypeDesc} {x : Operand} {ad : Addr} {es es' : List Value} {C : List Nat} (hC : CeF s ad es C) (hu : P.underlying t = some dd) (hs : (P.info? t).map (·.size) = some es'.length)
    (ho : ops[i]? = some o) (hd : o.dst = some d) (hN : Nat.blt d N = true) (hw : Region.wanted o (yv e ops) = true) (hop : o.op = .load t x) (hr : dd.isRow = true) (hx : ev e x = .pointer (some (ad.add q))) (hv : (es.drop q).take es'.length = es') : Qv P N ops e s.w i d (.agg es'.toArray) :=
  ⟨o, ho, hd, hN, by simp only [selB, hop], .inl ⟨hw, by
    have := loadAgg_run (P := P) (w := s.w) (ad := ad.add q) hu hr hs fun j u hj => by
      rw [Addr.add_add']
      refine hC.2 _ _ ?_
      rw [← hv, List.getElem?_take] at hj
      split at hj
      · rw [List.getElem?_drop] at hj; exact hj
      · cases hj
    simp [execOp, hop, hx, this, Result.andThen]⟩⟩
def LoF {α : Type} (K : Kd α) (s : St) (cs : List Value) (xs : List α) (c : Nat) : Prop := ∃ os, ElsO K s.w xs cs os ∧ os.Nodup ∧ ∀ b ∈ os, s.g b = c
theorem lo_one {α : Type} {K : Kd α} {cs : List Value} {x : α} {c : Nat} (h : OwF K s cs x c) : LoF K s cs [x] c := by
 obtain ⟨os, ho, hn, hc⟩ := h
 exact ⟨os, ⟨cs, [], os, [], by simp, by simp, ho, rfl, rfl⟩, hn, hc⟩
theorem ltO {α : Type} {K : Kd α} {t te l : Nat} {z : Value} {parts : Array (Nat × Operand)} {cells : List Value} (xs : List α) (c : Nat) (hu : P.underlying t = some (.slice te)) (hs : (P.info? te).map (·.size) = some K.n) (hz : (P.info? te).bind (·.zero) = some z) (hE : LoF K s cells xs c)
    (ho : ops[i]? = some o) (hd : o.dst = some d) (hN : Nat.blt d N = true) (hw : Region.wanted o (yv e ops) = true) (hop : o.op = .buildSlice t l parts) (hln : Nat.ble (l * K.n) 16777216 = true) (hpos : Nat.ble 1 (l * K.n) = true) (hl : xs.length = l)
    (hzn : z.cells.toList.length = K.n) (hfill : lfill (fun i => some (i * K.n, K.n)) (List.replicate l z.cells.toList).flatten (parts.toList.map fun (i, x) => (i, ev e x)) = some cells)
    (h : ∀ v s', Stp [c] s s' → OwF (Kd.sl te K) s' [v] xs c → TM P f N m G R (.inRegion ops rest :: k) (upd e d v) s'.w) :
    TM P f N m G R (.inRegion ops (i :: rest) :: k) e s.w := by
  obtain ⟨os, hE, hn, hc⟩ := hE
  have hlen := hE.len
  have h2 := Nat.le_of_ble_eq_true hln
  have h3 := Nat.le_of_ble_eq_true hpos
  have hn' : 0 < K.n := Nat.pos_of_ne_zero fun h => by rw [h] at h3; simp at h3
  obtain ⟨s', hs', p, nn, hrow⟩ := new_row (s := s) (te := te) (n := K.n) (l := l) (cells := cells.toArray) c rfl (by simp [hlen, hl]) (by have : l * 1 ≤ l * K.n := Nat.mul_le_mul_left _ hn'; simp only [maxLen]; omega)
  refine vl (w' := s'.w) ho hd hN hw (by rw [hs']; exact lit_run hu hs hz hln hpos hzn hfill hop) (h _ s' ⟨p.os, p.tape, p.output, p.size, p.low, fun b hb _ => p.same b hb rfl⟩ ?_)
  subst hl
  have hlt := hE.lt
  refine ⟨[s.w.heap.size] ++ os, ⟨_, rfl, _, _, os, rfl, by simpa using hrow, hE.frame fun b hb hl => (p.same b hl rfl).2⟩, ?_, fun b hb => ?_⟩
  · refine List.nodup_append.2 ⟨by simp, hn, fun a ha b hb hab => ?_⟩
    simp at ha; subst hab; have := hlt a hb; omega
  · rcases List.mem_append.1 hb with hb | hb
    · simp at hb; subst hb; exact nn.new _ (Nat.le_refl _)
    · rw [nn.old b (hlt b hb), hc b hb]
end
theorem sp2 {α : Type} {K : Kd α} {s : St} {cs : List Value} {x : α} {p r : List Nat} {c : Nat} (c' : Nat) (h : K.ow s.w cs x p) (hn : (p ++ r).Nodup) (hc : ∀ b ∈ p ++ r, s.g b = c) (h10 : Nat.ble 40 c = true) :
    ∃ s' : St, s.w = s'.w ∧ Stp [c] s s' ∧ OwF K s' cs x c ∧ r.Nodup ∧ ∀ b ∈ r, s'.g b = c' := by
  have h10' := Nat.le_of_ble_eq_true h10
  have hn' := List.nodup_append.1 hn
  refine ⟨⟨s.w, fun b => open Classical in if b ∈ r then c' else s.g b⟩, rfl, ⟨rfl, rfl, rfl, Nat.le_refl _, fun b hb hl => ?_, fun b hb hm => ⟨?_, rfl⟩⟩, ⟨p, h, hn'.1, fun b hb => ?_⟩, hn'.2.1, fun b hb => by simp [hb]⟩
  · have : ¬ b ∈ r := fun h => by have := hc b (by simp [h]); omega
    simp [this]
  · have : ¬ b ∈ r := fun h => by have := hc b (by simp [h]); rw [this] at hm; simp [memb] at hm
    simp [this]
  · have : ¬ b ∈ r := fun h => hn'.2.2 b hb b h rfl
    simp only [this, if_false]
    exact hc b (by simp [hb])
theorem sp1 {α : Type} {K : Kd α} {s : St} {cs : List Value} {x : α} {p : List Nat} {c : Nat} (h : K.ow s.w cs x p) (hn : p.Nodup) (hc : ∀ b ∈ p, s.g b = c) : OwF K s cs x c := ⟨p, h, hn, hc⟩
def nextN (E : List (List Nat)) (L D : List Nat) (cs : List Nat) : Bool :=
 rangeB E.length fun i => memb cs i || memb L i || memb D i || anyB (E.getD i []) (fun j => Nat.blt j E.length && !memb L j && !memb D j)
section
variable {P : Program} {f : FuncId} {N : Nat} {O ρ : Type} {m : Option O} {G : O → Option ρ} {R : ρ → Ending → World → Prop} {k : List Item} {ops : Array Oper}
variable {E : List (List Nat)} {Ds : List (Option Nat)} {Us : List (List Nat)} {L D l : List Nat} {e Ec : Env} {w : World}
theorem zstepN (cs : List (Nat × List (Option Nat))) (tb : Tb ops E Ds Us) (z : Zr E Ds L D l e Ec) (hq : Pq P N ops Ec w L)
    (hb : (useB E Ds Us L && nextN E L D (cs.map (·.1)) && cs.all (fun p => Nat.blt p.1 E.length && !memb L p.1 && !memb D p.1) && !cs.isEmpty) = true)
    (hp : cs.all (fun p => ((pend E E.length L [p.1]).map fun i => Ds.getD i none) == p.2) = true)
    (h : ∀ p ∈ cs, ∀ l' e', Zr E Ds L D (p.1 :: l') (mix p.2 Ec e') Ec → TM P f N m G R (.inRegion ops (p.1 :: l') :: k) (mix p.2 Ec e') w) : TM P f N m G R (.inRegion ops l :: k) e w := by
  simp only [Bool.and_eq_true, Bool.not_eq_true'] at hb
  obtain ⟨⟨⟨hu, hn⟩, hall⟩, hne⟩ := hb
  induction l generalizing e with
  | nil =>
    cases cs with
    | nil => cases hne
    | cons p cs =>
      have hc := List.all_eq_true.1 hall p (by simp)
      simp only [Bool.and_eq_true, Bool.not_eq_true'] at hc
      have hc' : p.1 < E.length := by have := hc.1.1; simp [Nat.blt] at this; omega
      rcases z.ld p.1 hc' (by simp) with h | h
      · exact absurd h (nmemb hc.2)
      · exact absurd h (nmemb hc.1.2)
  | cons i l ih =>
    by_cases hi : i ∈ L
    · exact quiet tb z hq hu hi fun e' z' => ih z'
    · have hD : i ∉ D := fun h => z.done i h (by simp)
      have hlt := z.lt i (by simp)
      have := rangeB_out hn i hlt
      simp only [Bool.or_eq_true] at this
      have hic : i ∈ cs.map (·.1) := by
        rcases this with ((h | h) | h) | h
        · exact memb_iff.1 h
        · exact absurd (memb_iff.1 h) hi
        · exact absurd (memb_iff.1 h) hD
        · obtain ⟨j, hj, hp⟩ := anyB_out h
          simp only [Bool.and_eq_true, Bool.not_eq_true'] at hp
          have hjl : j ∉ i :: l := z.dep [] i l rfl j hj
          have hjlt : j < E.length := by have := hp.1.1; simp [Nat.blt] at this; omega
          rcases z.ld j hjlt hjl with h | h
          · exact absurd h (nmemb hp.2)
          · exact absurd h (nmemb hp.1.2)
      obtain ⟨⟨c, pd⟩, hmem, hcc⟩ := List.mem_map.1 hic
      simp only at hcc
      subst hcc
      have hc := List.all_eq_true.1 hall _ hmem
      simp only [Bool.and_eq_true, Bool.not_eq_true'] at hc
      have hpd := List.all_eq_true.1 hp _ hmem
      simp only [beq_iff_eq] at hpd
      have hcL := hc.1.2
      have he : e = mix pd Ec e := by
        funext t
        unfold mix
        cases hm2 : pd.any (fun x => optB x t) with
        | true => rfl
        | false =>
          refine z.env t fun j hj hjt hm3 => ?_
          have hjp : memb (pend E E.length L [c]) j = false := by
            cases hh : memb (pend E E.length L [c]) j with
            | false => rfl
            | true =>
              have : pd.any (fun x => optB x t) = true := by
                rw [List.any_eq_true]
                refine ⟨some t, ?_, optB_iff.2 rfl⟩
                rw [← hpd]
                exact List.mem_map.2 ⟨j, memb_iff.1 hh, hjt⟩
              rw [this] at hm2; cases hm2
          have hjs : j ∈ scan E E.length [c] := by
            cases hh : memb (scan E E.length [c]) j with
            | true => exact memb_iff.1 hh
            | false => exact absurd (List.mem_filter.2 ⟨hj, by simp [hh]⟩ : j ∈ pend E E.length L [c]) (nmemb hjp)
          have hnd := List.nodup_cons.1 z.nd
          have := scan_out (E := E) (l := l) (fun x hx hlt y hy hm => by
            by_cases hxi : x = c
            · subst hxi; exact z.dep [] x l rfl y hy (List.mem_cons_of_mem _ hm)
            · exact z.dn x hlt (by simp [hxi, hx]) y hy (List.mem_cons_of_mem _ hm)) (fun x hx => z.lt x (List.mem_cons_of_mem _ hx)) E.length [c] (by simpa using hnd.1) j hjs
          rcases List.mem_cons.1 hm3 with rfl | hm3
          · exact nmemb hcL hj
          · exact this hm3
      rw [he] at z ⊢
      exact h _ hmem l e z
theorem zstep2 (c1 c2 : Nat) (pd1 pd2 : List (Option Nat)) (tb : Tb ops E Ds Us) (z : Zr E Ds L D l e Ec) (hq : Pq P N ops Ec w L)
    (hb : (useB E Ds Us L && nextN E L D [c1, c2] && ([(c1, pd1), (c2, pd2)] : List (Nat × List (Option Nat))).all (fun p => Nat.blt p.1 E.length && !memb L p.1 && !memb D p.1) && !([(c1, pd1), (c2, pd2)] : List (Nat × List (Option Nat))).isEmpty) = true)
    (hp : ([(c1, pd1), (c2, pd2)] : List (Nat × List (Option Nat))).all (fun p => ((pend E E.length L [p.1]).map fun i => Ds.getD i none) == p.2) = true)
    (h1 : ∀ l' e', Zr E Ds L D (c1 :: l') (mix pd1 Ec e') Ec → TM P f N m G R (.inRegion ops (c1 :: l') :: k) (mix pd1 Ec e') w)
    (h2 : ∀ l' e', Zr E Ds L D (c2 :: l') (mix pd2 Ec e') Ec → TM P f N m G R (.inRegion ops (c2 :: l') :: k) (mix pd2 Ec e') w) : TM P f N m G R (.inRegion ops l :: k) e w :=
  zstepN [(c1, pd1), (c2, pd2)] tb z hq hb hp fun p hp l' e' => by
    simp only [List.mem_cons, List.not_mem_nil, or_false] at hp
    rcases hp with rfl | rfl
    · exact h1 l' e'
    · exact h2 l' e'
end
end Go.Proofs.YtegicanjlefmdaaGreat.V
set_option linter.unusedVariables false
set_option linter.unusedSimpArgs false
namespace Go.Proofs.YtegicanjlefmdaaGreat.V
open Go
def fl_ (ps : List (List Nat × Nat)) : List Nat := (ps.map (·.1)).flatten
structure ZN (F : Nat → Prop) (ps : List (List Nat × Nat)) (s : St) : Prop where
 z : ∀ b, F b ↔ s.g b = 0
 lo : ∀ b, b ∉ fl_ ps → s.g b < 2
 pt : ∀ p ∈ ps, ∀ b ∈ p.1, s.g b = p.2
noncomputable def colN (ps : List (List Nat × Nat)) (b : Nat) : Nat := match ps with
 | [] => 1
 | p :: ps => open Classical in if b ∈ p.1 then p.2 else colN ps b
theorem colN_out {ps : List (List Nat × Nat)} {b : Nat} (h : b ∉ fl_ ps) : colN ps b = 1 := by
 induction ps with
 | nil => rfl
 | cons p ps ih =>
  simp only [fl_, List.map_cons, List.flatten_cons, List.mem_append, not_or] at h
  unfold colN
  rw [if_neg h.1]
  exact ih h.2
theorem colN_in {ps : List (List Nat × Nat)} (hn : (fl_ ps).Nodup) : ∀ p ∈ ps, ∀ b ∈ p.1, colN ps b = p.2 := by
 induction ps with
 | nil => intro p hp; cases hp
 | cons q ps ih =>
  intro p hp b hb
  have hn' := List.nodup_append.1 (show (q.1 ++ fl_ ps).Nodup from hn)
  unfold colN
  rcases List.mem_cons.1 hp with rfl | hp
  · rw [if_pos hb]
  · have : b ∉ q.1 := fun h => hn'.2.2 b h b (List.mem_flatten.2 ⟨p.1, List.mem_map.2 ⟨p, hp, rfl⟩, hb⟩) rfl
    rw [if_neg this]
    exact ih hn'.2.1 p hp b hb
theorem colN_ge {ps : List (List Nat × Nat)} (h : ps.all (fun p => Nat.ble 2 p.2) = true) (b : Nat) : 1 ≤ colN ps b := by
 induction ps with
 | nil => exact Nat.le_refl _
 | cons p ps ih =>
  simp only [List.all_cons, Bool.and_eq_true] at h
  unfold colN
  split
  · have := Nat.le_of_ble_eq_true h.1; omega
  · exact ih h.2
theorem startN (w : World) (F : Nat → Prop) (ps : List (List Nat × Nat)) (hn : (fl_ ps).Nodup) (hF : ∀ b, F b → b ∉ fl_ ps) (hc : ps.all (fun p => Nat.ble 2 p.2) = true) : ∃ s : St, s.w = w ∧ Kp s s ∧ ZN F ps s := by
 refine ⟨⟨w, fun b => open Classical in if F b then 0 else colN ps b⟩, rfl, ⟨rfl, rfl, rfl, Nat.le_refl _, fun b hb _ => rfl, fun _ _ _ => rfl⟩, ⟨fun b => ?_, fun b hb => ?_, fun p hp b hb => ?_⟩⟩
 · have := colN_ge hc b
   dsimp only
   constructor
   · intro h; rw [if_pos h]
   · intro h; split at h
     · assumption
     · omega
 · dsimp only
   split
   · omega
   · rw [colN_out hb]; omega
 · dsimp only
   have hm : b ∈ fl_ ps := List.mem_flatten.2 ⟨p.1, List.mem_map.2 ⟨p, hp, rfl⟩, hb⟩
   rw [if_neg fun h => hF b h hm]
   exact colN_in hn p hp b hb
section
variable {F : Nat → Prop} {ps : List (List Nat × Nat)} {s s' : St}
theorem ZN.rd (z : ZN F ps s) {α : Type} {K : Kd α} {cs : List Value} {x : α} (h : K.rd s.w cs x F) : RdF K s cs x [0] :=
 K.rd_mono h fun b hb _ => by rw [(z.z b).1 hb]; rfl
theorem ZN.ow (z : ZN F ps s) {α : Type} {K : Kd α} {cs : List Value} {x : α} {p : List Nat} {c : Nat} (hm : (p, c) ∈ ps) (hn : p.Nodup) (h : K.ow s.w cs x p) : OwF K s cs x c := ⟨p, h, hn, fun b hb => z.pt _ hm b hb⟩
theorem ZN.ky (z : ZN F ps s) (p : Kp s s') : Ky (fl_ ps) s.w s'.w := ⟨p.os, p.tape, p.output, p.size, fun b hb hn => p.same b hb (z.lo b hn)⟩
def OwC {α : Type} (K : Kd α) (s : St) (cs : List Value) (x : α) (C : List Nat) : Prop := ∃ os, K.ow s.w cs x os ∧ os.Nodup ∧ ∀ b ∈ os, memb C (s.g b) = true
theorem oc_ow {α : Type} {K : Kd α} {cs : List Value} {x : α} {c : Nat} (h : OwF K s cs x c) : OwC K s cs x [c] := by
 obtain ⟨os, ho, hn, hc⟩ := h
 exact ⟨os, ho, hn, fun b hb => by rw [hc b hb]; simp [memb]⟩
theorem ZN.ky' (z : ZN F ps s) {os : List Nat} (e : fl_ ps = os) (p : Kp s s') : Ky os s.w s'.w := e ▸ z.ky p
end
structure Nm (s s' : St) (os : List Nat) (c : Nat) : Prop where
 old : ∀ b, b < s.w.heap.size → b ∉ os → s'.g b = s.g b
 mv : ∀ b ∈ os, s'.g b = c
 new : ∀ b, s.w.heap.size ≤ b → s'.g b = c
theorem FW.m {α : Type} {K : Kd α} {s s' : St} {os : List Nat} {cs : List Value} {x : α} {c : Nat} (h : FW K os s.w s'.w cs x) (n : Nm s s' os c) : OwF K s' cs x c := by
 obtain ⟨os', ho, hn, hf⟩ := h
 refine ⟨os', ho, hn, fun b hb => ?_⟩
 rcases hf b hb with h | h
 · exact n.mv b h
 · exact n.new b h
theorem BlF.rc {s : St} {b : Nat} {t : TypeId} {cs : List Value} {d : Nat} (h : BlF s b t cs d) (c : Nat) (hd : Nat.ble 40 d = true) : ∃ s' : St, s.w = s'.w ∧ Stp [d] s s' ∧ BlF s' b t cs c := by
 have hd' := Nat.le_of_ble_eq_true hd
 refine ⟨⟨s.w, fun b => if s.g b = d then c else s.g b⟩, rfl, ⟨rfl, rfl, rfl, Nat.le_refl _, fun b hb hl => ?_, fun b hb hm => ⟨?_, rfl⟩⟩, h.1, ?_⟩
 · have : ¬ s.g b = d := by omega
   simp [this]
 · have : ¬ s.g b = d := fun h => by rw [h] at hm; simp [memb] at hm
   simp [this]
 · simp [h.2]
section
variable {P : Program} {f : FuncId} {N : Nat} {O ρ : Type} {m : Option O} {G : O → Option ρ} {R : ρ → Ending → World → Prop} {e : Env} {s : St} {k : List Item} {ops : Array Oper} {i d : Nat} {rest : List Nat} {o : Oper}
end
end Go.Proofs.YtegicanjlefmdaaGreat.V
set_option linter.unusedVariables false
set_option linter.unusedSimpArgs false
namespace Go.Proofs.YtegicanjlefmdaaGreat.V
open Go
abbrev MD := List (Int × Bool)
def midx : MD → Int → Nat → Option (Nat × Bool)
 | [], _, _ => none
 | p :: m, k, i => bif k == p.1 then some (i, p.2) else midx m k (i + 1)
def mget (m : MD) (k : Int) : Bool := match midx m k 0 with
 | some p => p.2
 | none => false
def mset (m : MD) (k : Int) (v : Bool) : MD := match midx m k 0 with
 | some p => m.set p.1 (k, v)
 | none => m ++ [(k, v)]
def mcell (p : Int × Bool) : Value × Value := (.int .i64 p.1, .bool p.2)
def MpF (s : St) (b : Nat) (m : MD) (c : Nat) : Prop := ∃ es clock, s.w.heap[b]? = some (.map es clock) ∧ s.g b = c ∧ es.toList.map (fun e => (e.key, e.val)) = m.map mcell
theorem MpF.st {s s' : St} {S : List Nat} {b c : Nat} {m : MD} (h : MpF s b m c) (p : Stp S s s') (d : memb S c = false) : MpF s' b m c := by
 obtain ⟨es, cl, hb, hc, he⟩ := h
 have hl : b < s.w.heap.size := (Array.getElem?_eq_some_iff.1 hb).1
 have := p.same b hl (by rw [hc]; exact d)
 exact ⟨es, cl, by rw [this.2]; exact hb, by rw [this.1]; exact hc, he⟩
theorem midx_now (k : Int) : ∀ (es : List MapEntry) (m : MD) (i : Nat), es.map (fun e => (e.key, e.val)) = m.map mcell →
    Instr.findNow (.int .i64) (.int .i64 k) es i = some ((midx m k i).map fun p => (p.1, .bool p.2))
  | [], [], i, _ => rfl
  | [], _ :: _, i, h => by cases h
  | _ :: _, [], i, h => by cases h
  | e :: es, p :: m, i, h => by
    simp only [List.map_cons, List.cons.injEq] at h
    obtain ⟨h1, h2⟩ := h
    have hk : e.key = .int .i64 p.1 := congrArg Prod.fst h1
    have hv : e.val = .bool p.2 := congrArg Prod.snd h1
    unfold Instr.findNow midx
    rw [hk]
    simp only [Instr.sameNow, if_true]
    cases hkp : (k == p.1) with
    | true => simp [hv]
    | false => simpa using midx_now k es m (i + 1) h2
theorem midx_lt (k : Int) : ∀ (m : MD) (i j : Nat) (v : Bool), midx m k i = some (j, v) → i ≤ j ∧ j < i + m.length ∧ ∀ p, m[j - i]? = some p → p.1 = k ∧ p.2 = v
 | [], i, j, v, h => by cases h
 | p :: m, i, j, v, h => by
  unfold midx at h
  cases hkp : (k == p.1) with
  | true =>
   rw [hkp] at h
   simp only [cond_true, Option.some.injEq, Prod.mk.injEq] at h
   obtain ⟨rfl, rfl⟩ := h
   refine ⟨Nat.le_refl _, by simp, fun q hq => ?_⟩
   simp at hq; subst hq
   exact ⟨(by simpa using hkp : k = p.1).symm, rfl⟩
  | false =>
   rw [hkp] at h
   simp only [cond_false] at h
   obtain ⟨h1, h2, h3⟩ := midx_lt k m (i + 1) j v h
   refine ⟨by omega, by simp; omega, fun q hq => h3 q ?_⟩
   rw [show j - i = (j - (i + 1)) + 1 by omega] at hq
   simpa using hq
section
variable {P : Program} {f : FuncId} {N : Nat} {O ρ : Type} {m : Option O} {G : O → Option ρ} {R : ρ → Ending → World → Prop} {e : Env} {s : St} {k : List Item} {ops : Array Oper} {i d : Nat} {rest : List Nat} {o : Oper}
theorem mkm (c : Nat) {t : TypeId} (ho : ops[i]? = some o) (hd : o.dst = some d) (hN : Nat.blt d N = true) (hw : Region.wanted o (yv e ops) = true) (hop : o.op = .makeMap t none)
    (h : ∀ b s', Stp [] s s' → MpF s' b [] c → TM P f N m G R (.inRegion ops rest :: k) (upd e d (.map (some b))) s'.w) : TM P f N m G R (.inRegion ops (i :: rest) :: k) e s.w := by
  obtain ⟨s', hs', p, n⟩ := s.made (.map #[] 0) c
  refine vl (v := .map (some s.w.heap.size)) (w' := s'.w) ho hd hN hw ?_ (h _ s' p ⟨#[], 0, ?_, n.new _ (Nat.le_refl _), rfl⟩)
  · rw [hs']; simp [execOp, hop, Go.RowKit.run_makeMap, Result.andThen]
  · rw [hs']; exact heap_alloc_new s.w _
theorem look_run {t kt et b c : Nat} {mm : MD} {kk : Int} (hm : P.underlying t = some (.map kt et)) (hk : P.underlying kt = some (.int .i64)) (hz : (P.info? et).bind (·.zero) = some (.bool false)) (hB : MpF s b mm c) :
    (Instr.lookup t (.map (some b)) (.int .i64 kk) false).run P s.w = .ok (.bool (mget mm kk)) s.w := by
  obtain ⟨es, cl, hb, hc, he⟩ := hB
  unfold Instr.lookup
  rw [Sem.run_bind', run_underlying hm]
  simp only [Result.andThen]
  rw [Sem.run_bind', Go.MapKept.run_getObj_map hb]
  simp only [Result.andThen]
  rw [Sem.run_bind']
  simp only [Sem.run_pure, Result.andThen]
  rw [Sem.run_bind', Go.MapKept.run_checkKey hk (by simp [Go.MapKept.IsKey])]
  simp only [Result.andThen]
  have hf := midx_now kk es.toList mm 0 he
  rw [Sem.run_bind', Go.MapKept.run_findKey hk hf]
  unfold mget
  cases hx : midx mm kk 0 with
  | none => simp [Result.andThen, zero_run hz]
  | some p => simp [Result.andThen]
theorem lkm {t kt et b c : Nat} {mm : MD} {kk : Int} {x y : Operand} (hB : MpF s b mm c) (hm : P.underlying t = some (.map kt et)) (hk : P.underlying kt = some (.int .i64)) (hz : (P.info? et).bind (·.zero) = some (.bool false))
    (ho : ops[i]? = some o) (hd : o.dst = some d) (hN : Nat.blt d N = true) (hw : Region.wanted o (yv e ops) = true) (hop : o.op = .lookup t x y false) (hx : ev e x = .map (some b)) (hy : ev e y = .int .i64 kk)
    (h : TM P f N m G R (.inRegion ops rest :: k) (upd e d (.bool (mget mm kk))) s.w) : TM P f N m G R (.inRegion ops (i :: rest) :: k) e s.w :=
  vl ho hd hN hw (by simp [execOp, hop, hx, hy, look_run hm hk hz hB, Result.andThen]) h
theorem upm {t kt et b c : Nat} {mm : MD} {kk : Int} {v : Bool} {x y u : Operand} (hB : MpF s b mm c) (hm : P.underlying t = some (.map kt et)) (hk : P.underlying kt = some (.int .i64))
    (ho : ops[i]? = some o) (hd : o.dst = none) (hw : Region.wanted o (yv e ops) = true) (hop : o.op = .mapUpdate t x y u) (hx : ev e x = .map (some b)) (hy : ev e y = .int .i64 kk) (hu : ev e u = .bool v)
    (h : ∀ s', Stp [c] s s' → MpF s' b (mset mm kk v) c → TM P f N m G R (.inRegion ops rest :: k) e s'.w) : TM P f N m G R (.inRegion ops (i :: rest) :: k) e s.w := by
  obtain ⟨es, cl, hb, hc, he⟩ := hB
  have key : ∃ es' cl', (Instr.mapUpdate t (.map (some b)) (.int .i64 kk) (.bool v)).run P s.w = .ok () { s.w with heap := s.w.heap.setIfInBounds b (.map es' cl') } ∧ es'.toList.map (fun e => (e.key, e.val)) = (mset mm kk v).map mcell := by
    unfold Instr.mapUpdate
    rw [Sem.run_bind', run_underlying hm]
    simp only [Result.andThen]
    rw [Sem.run_bind', Go.MapKept.run_getObj_map hb]
    simp only [Result.andThen]
    rw [Sem.run_bind', Go.MapKept.run_checkKey hk (by simp [Go.MapKept.IsKey])]
    simp only [Result.andThen]
    have hf := midx_now kk es.toList mm 0 he
    rw [Sem.run_bind', Go.MapKept.run_findKey hk hf]
    unfold mset
    have hlen : es.size = mm.length := by
      have := congrArg List.length he
      simpa using this
    cases hxx : midx mm kk 0 with
    | none =>
      refine ⟨es.push { key := .int .i64 kk, val := .bool v, born := cl }, cl + 1, ?_, ?_⟩
      · simp [Result.andThen, Go.MapKept.run_setObj_map _ hb]
      · simp [he, mcell]
    | some p =>
      obtain ⟨_, hlt, hp⟩ := midx_lt kk mm 0 p.1 p.2 hxx
      have hlt' : p.1 < mm.length := by omega
      have hpk := (hp mm[p.1] (by simp [List.getElem?_eq_getElem hlt'])).1
      have hes : p.1 < es.size := by omega
      have hkey : (es[p.1]).key = .int .i64 kk := by
        have h1 : (es.toList.map (fun e => (e.key, e.val)))[p.1]? = (mm.map mcell)[p.1]? := by rw [he]
        rw [List.getElem?_map, List.getElem?_map, List.getElem?_eq_getElem hlt', List.getElem?_eq_getElem (by simpa using hes)] at h1
        simp only [Option.map_some, Option.some.injEq] at h1
        have h2 := congrArg Prod.fst h1
        simp only [mcell] at h2
        rw [hpk] at h2
        simpa using h2
      refine ⟨es.modify p.1 fun e => { e with key := .int .i64 kk, val := .bool v }, cl, ?_, ?_⟩
      · have hst : (Instr.keyThatStays (((es[p.1]?).map (·.key)).getD (.int .i64 kk)) (.int .i64 kk)).run P s.w = .ok (.int .i64 kk) s.w := by
          rw [Array.getElem?_eq_getElem hes]
          simp only [Option.map_some, Option.getD_some, hkey]
          unfold Instr.keyThatStays
          have : Instr.sameBits 10000 (.int .i64 kk) (.int .i64 kk) = true := by simp [Instr.sameBits]
          rw [if_pos this]; rfl
        simp only [Result.andThen, Option.map_some]
        rw [Sem.run_bind', hst]
        simp [Result.andThen, Go.MapKept.run_setObj_map _ hb]
      · have : (es.modify p.1 fun e => { e with key := Value.int .i64 kk, val := Value.bool v }).toList.map (fun e => (e.key, e.val)) = (es.toList.map fun e => (e.key, e.val)).set p.1 (mcell (kk, v)) := by
          rw [Array.toList_modify]
          apply List.ext_getElem?
          intro j
          simp only [List.getElem?_map, List.getElem?_modify, List.getElem?_set, List.length_map, Array.length_toList]
          by_cases hj : p.1 = j
          · subst hj; simp [hes, mcell]
          · simp [hj]
        rw [this, he, List.map_set]
  obtain ⟨es', cl', hr, he'⟩ := key
  have hset := Go.MapKept.heap_set (o' := .map es' cl') hb
  refine vd (w' := { s.w with heap := s.w.heap.setIfInBounds b (.map es' cl') }) ho hd hw (by simp [execOp, hop, hx, hy, hu, hr, Result.andThen]) (h ⟨{ s.w with heap := s.w.heap.setIfInBounds b (.map es' cl') }, s.g⟩ ⟨rfl, rfl, rfl, by simp, fun _ _ _ => rfl, fun b' hb' hm' => ⟨rfl, ?_⟩⟩ ⟨es', cl', hset.1, hc, he'⟩)
  refine hset.2 b' fun hne => ?_
  subst hne
  rw [hc] at hm'
  simp [memb] at hm'
end
theorem midx_some (m : MD) (k : Int) : ∀ i, (midx m k i).isSome = m.any (fun p => k == p.1) := by
 induction m with
 | nil => intro i; rfl
 | cons p m ih =>
  intro i
  unfold midx
  cases h : (k == p.1) with
  | true => simp [h]
  | false => simp [h, ih (i + 1)]
theorem mget_all {m : MD} (h : ∀ p ∈ m, p.2 = true) (k : Int) : mget m k = m.any (fun p => k == p.1) := by
 rw [← midx_some m k 0]
 unfold mget
 cases hx : midx m k 0 with
 | none => rfl
 | some p =>
  obtain ⟨h0, h1, h2⟩ := midx_lt k m 0 p.1 p.2 hx
  have hlt : p.1 < m.length := by omega
  have h3 := (h2 m[p.1] (by simp [List.getElem?_eq_getElem hlt])).2
  have h4 := h _ (List.getElem_mem hlt)
  simp only [Option.isSome_some]
  rw [← h3, h4]
theorem mset_new {m : MD} {k : Int} (h : m.any (fun p => k == p.1) = false) (v : Bool) : mset m k v = m ++ [(k, v)] := by
 rw [← midx_some m k 0] at h
 unfold mset
 cases hx : midx m k 0 with
 | none => rfl
 | some p => rw [hx] at h; cases h
end Go.Proofs.YtegicanjlefmdaaGreat.V
set_option linter.unusedVariables false
set_option linter.unusedSimpArgs false
namespace Go.Proofs.YtegicanjlefmdaaGreat.V
open Go
structure Pk (β : Type) where
 cs : List Value
 x : β
instance {β : Type} [Inhabited β] : Inhabited (Pk β) := ⟨⟨[], default⟩⟩
end Go.Proofs.YtegicanjlefmdaaGreat.V
set_option linter.unusedVariables false
set_option linter.unusedSimpArgs false
namespace Go.Proofs.YtegicanjlefmdaaGreat.V
open Go
def bcmpS (xs ys : List Int) : Int := Extern.BytealgCompare.cmp (str xs) (str ys)
def bcmp : List Int → List Int → Int
 | [], [] => 0
 | [], _ :: _ => -1
 | _ :: _, [] => 1
 | x :: xs, y :: ys => bif x == y then bcmp xs ys else bif decide (x < y) then -1 else 1
section
variable {P : Program} {f : FuncId} {N : Nat} {O ρ : Type} {m : Option O} {G : O → Option ρ} {R : ρ → Ending → World → Prop} {e : Env} {s : St} {k : List Item} {ops : Array Oper} {i d : Nat} {rest : List Nat} {o : Oper}
theorem add1 (a : Addr) (j : Nat) : (a.add 1).add j = a.add (j + 1) := by
 rw [Addr.add_add', Nat.add_comm]
theorem load_bytes {w : World} : ∀ (xs : List Int) (a : Addr) (acc : ByteArray), (∀ j u, (xs.map (Value.int .u8))[j]? = some u → w.cell? (a.add j) = some u) →
    (Extern.Bytes.loadBytes a xs.length acc).run P w = .ok (xs.foldl (fun r n => r.push (UInt8.ofNat n.toNat)) acc) w
  | [], a, acc, _ => by simp [Extern.Bytes.loadBytes]
  | x :: xs, a, acc, h => by
    have h0 := h 0 (.int .u8 x) rfl
    rw [V.add_zero] at h0
    have hl : (load a).run P w = .ok (.int .u8 x) w := by simp [load, Sem.run, h0]
    simp only [List.length_cons]
    unfold Extern.Bytes.loadBytes
    rw [Sem.run_bind', hl]
    simp only [Result.andThen, List.foldl_cons]
    exact load_bytes xs (a.add 1) _ fun j u hj => by rw [add1]; exact h (j + 1) u hj
theorem bytes_run {tg : TypeId} {v : Value} {xs : List Int} {C : List Nat} (hF : RdF (Kd.sl tg (Kd.int .u8)) s [v] xs C) : (Extern.Bytes.bytesOf v).run P s.w = .ok (str xs) s.w := by
 obtain ⟨v1, e1, A, cap, cells, rfl, hcap, hels, hc⟩ := hF
 obtain rfl : v = .slice A xs.length cap := by simpa using e1
 have hcells : cells = xs.map (.int .u8) := els_u8 hels
 cases A with
 | none =>
  have : xs = [] := by
   cases xs with
   | nil => rfl
   | cons x xs =>
    obtain ⟨ad, h, _⟩ := hc (by rw [hcells]; simp)
    cases h
  subst this
  simp [Extern.Bytes.bytesOf, str]
 | some a =>
  refine load_bytes xs a _ ?_
  rw [← hcells]
  by_cases hne : cells = []
  · rw [hne]; intro j u h; cases h
  · obtain ⟨ad, h, _, hcell⟩ := hc hne
    obtain rfl := Option.some.inj h
    exact hcell
theorem bcx {g : FuncId} {fn : Func} {X Y : Operand} {ts : Array TypeId} {t1 t2 : TypeId} {v u : Value} {xs ys : List Int} {C D : List Nat} (hX : RdF (Kd.sl t1 (Kd.int .u8)) s [v] xs C) (hY : RdF (Kd.sl t2 (Kd.int .u8)) s [u] ys D)
    (ho : ops[i]? = some o) (hd : o.dst = some d) (hN : Nat.blt d N = true) (hw : Region.wanted o (yv e ops) = true) (hop : o.op = .call { callee := .value (.func g), args := #[X, Y], argTypes := ts }) (hg : P.funcs[g]? = some fn) (hb : fn.body = none)
    (hn : (fn.name == "runtime.NumGoroutine") = false) (hnx : Extern.findNext fn = none) (hf : Extern.find fn = some Extern.BytealgCompare.compare) (hx : ev e X = v) (hy : ev e Y = u)
    (h : TM P f N m G R (.inRegion ops rest :: k) (upd e d (.int .i64 (bcmpS xs ys))) s.w) : TM P f N m G R (.inRegion ops (i :: rest) :: k) e s.w :=
  vl ho hd hN hw (ext_run hop hg hb hn hnx hf (by
    rw [show (#[X, Y] : Array Operand).map (ev e) = #[ev e X, ev e Y] from by simp, hx, hy]
    show Sem.run P (do let a ← Extern.Bytes.bytesOf v; let b ← Extern.Bytes.bytesOf u; pure (goInt (Extern.BytealgCompare.cmp a b))) s.w = _
    rw [Sem.run_bind', bytes_run hX]
    simp only [Result.andThen]
    rw [Sem.run_bind', bytes_run hY]
    rfl)) h
end
end Go.Proofs.YtegicanjlefmdaaGreat.V
set_option linter.unusedVariables false
set_option linter.unusedSimpArgs false
namespace Go.Proofs.YtegicanjlefmdaaGreat.V
open Go
def HoL {α β : Type} [Inhabited α] (te : TypeId) (K : Kd α) (A : Kd β) (q : Nat) (set : α → β → α) (s : St) (v : Value) (xs : List α) (ii : Int) (c : Nat) : Prop :=
 ∃ g cap cur c1 u0 c3 p1 p3, v = .slice (some ⟨g, 0, none⟩) xs.length cap ∧ s.w.heap[g]? = some (.cells cur te (0, 0)) ∧ xs.length ≤ cap ∧ cap ≤ maxLen ∧ cur.size = cap * K.n ∧
  cur.toList.take (xs.length * K.n) = c1 ++ (u0 ++ c3) ∧ u0.length = A.n ∧ c1.length = ii.toNat * K.n + q ∧ (g :: (p1 ++ p3)).Nodup ∧ (∀ b ∈ g :: (p1 ++ p3), s.g b = c ∧ b < s.w.heap.size) ∧ ii.toNat < xs.length ∧
  ∀ w' e2 y o2, A.ow w' e2 y o2 → Agr s.w w' (· ∈ p1 ++ p3) → ElsO K w' (xs.set ii.toNat (set (at_ xs ii) y)) (c1 ++ (e2 ++ c3)) (p1 ++ (o2 ++ p3))
theorem HoL.st {α β : Type} [Inhabited α] {te : TypeId} {K : Kd α} {A : Kd β} {q : Nat} {set : α → β → α} {s s' : St} {v : Value} {xs : List α} {ii : Int} {c : Nat} {S : List Nat} (h : HoL te K A q set s v xs ii c) (p : Stp S s s') (d : memb S c = false) : HoL te K A q set s' v xs ii c := by
 obtain ⟨g, cap, cur, c1, u0, c3, p1, p3, e1, e2, e3, e4, e5, e6, e7, e8, e9, e10, e11, e12⟩ := h
 have hs : ∀ b ∈ g :: (p1 ++ p3), s'.g b = s.g b ∧ s'.w.heap[b]? = s.w.heap[b]? := fun b hb => p.same b (e10 b hb).2 (by rw [(e10 b hb).1]; exact d)
 refine ⟨g, cap, cur, c1, u0, c3, p1, p3, e1, by rw [(hs g (by simp)).2]; exact e2, e3, e4, e5, e6, e7, e8, e9, fun b hb => ⟨by rw [(hs b hb).1]; exact (e10 b hb).1, Nat.lt_of_lt_of_le (e10 b hb).2 p.size⟩, e11, fun w' e2 y o2 hy ha => e12 w' e2 y o2 hy fun b hb hl => ?_⟩
 rw [ha b hb (Nat.lt_of_lt_of_le hl p.size), (hs b (by simp at hb ⊢; rcases hb with hb | hb <;> simp [hb])).2]
theorem take_ {α β : Type} [Inhabited α] {K : Kd α} {A : Kd β} {q te : Nat} {get : α → β} {set : α → β → α} {s : St} {v u : Value} {xs : List α} {c : Nat} {ii : Int} {ad : Addr} {es : List Value} {C : List Nat} (a : Nat) (L : LensG K A q get set)
    (hO : OwF (Kd.sl te K) s [v] xs c) (h0 : 0 ≤ ii) (h1 : ii < xs.length) (hA : IxA v K.n ii ad) (hC : CeF s ad es C) (hu : es[q]? = some u) (hqn : Nat.blt q K.n = true) (hn : A.n = 1) (h40 : Nat.ble 40 c = true) :
    ∃ s' : St, s.w = s'.w ∧ Stp [c] s s' ∧ OwF A s' [u] (get (at_ xs ii)) a ∧ HoL te K A q set s' v xs ii c ∧ CeF s' ad es C := by
  have h40' := Nat.le_of_ble_eq_true h40
  obtain ⟨os, ⟨v1, e1, cells, o1, o2, rfl, hR, hE⟩, hnd, hcol⟩ := hO
  obtain rfl : v = v1 := by simpa using e1
  obtain ⟨Aa, l, cap, hv, rfl⟩ := hA
  have hi : ii.toNat < xs.length := by omega
  have hq : q < K.n := by simp [Nat.blt] at hqn; omega
  obtain ⟨hl, hR2⟩ := hR
  rcases hR2 with ⟨h2, _⟩ | ⟨g, cap', cur, h2, hg, hlc, hcm, hsz, htk, rfl⟩
  · rw [h2] at hv; cases hv
  · rw [h2] at hv
    simp only [Value.slice.injEq, Option.some.injEq] at hv
    obtain ⟨rfl, rfl, rfl⟩ := hv
    obtain ⟨p1, p2, p3, rfl, hK, hset⟩ := hE.at_ ii.toNat hi
    rw [at_eq xs ii hi]
    obtain ⟨r1, r2, r3, q1, q2, q3, hes, hq1, rfl, hg2, hput⟩ := L _ _ _ _ hK
    have hr2 : r2.length = A.n := A.rd_len (A.ow_rd hg2)
    have hmul : (ii.toNat + 1) * K.n ≤ xs.length * K.n := Nat.mul_le_mul_right _ hi
    rw [Nat.add_mul, Nat.one_mul] at hmul
    have hcl : cells.length = xs.length * K.n := hl
    have hlt : (cells.take (ii.toNat * K.n)).length = ii.toNat * K.n := by rw [List.length_take]; omega
    have e0 : cells = (cells.take (ii.toNat * K.n) ++ r1) ++ (r2 ++ (r3 ++ cells.drop ((ii.toNat + 1) * K.n))) := by
      have : cells = cells.take (ii.toNat * K.n) ++ ((r1 ++ (r2 ++ r3)) ++ cells.drop ((ii.toNat + 1) * K.n)) := by
        rw [← hes, Nat.add_mul, Nat.one_mul, ← List.drop_drop, List.take_append_drop, List.take_append_drop]
      conv => lhs; rw [this]
      simp
    have hc1l : (cells.take (ii.toNat * K.n) ++ r1).length = ii.toNat * K.n + q := by rw [List.length_append, hlt, hq1]
    -- the cell is the one that was loaded
    have hru : r2 = [u] := by
      obtain ⟨u', rfl⟩ := List.length_eq_one_iff.1 (hr2.trans hn)
      have hcell := hC.2 q u hu
      rw [Addr.add_add', Addr.add_mid, Nat.zero_add] at hcell
      have hc2 : cells[ii.toNat * K.n + q]? = some u' := by
        rw [e0, List.getElem?_append_right (by omega), hc1l, Nat.sub_self]; rfl
      rw [← htk, List.getElem?_take] at hc2
      split at hc2
      · have : s.w.cell? ⟨g, ii.toNat * K.n + q, none⟩ = cur[ii.toNat * K.n + q]? := by simp [World.cell?, hg]
        rw [this, ← Array.getElem?_toList] at hcell
        rw [hcell] at hc2
        rw [Option.some.inj hc2]
      · cases hc2
    subst hru
    have hcnt : ∀ b, (g :: (p1 ++ (q1 ++ (q2 ++ q3)) ++ p3)).count b ≤ 1 := fun b => List.nodup_iff_count.1 hnd b
    have hgl : g < s.w.heap.size := (Array.getElem?_eq_some_iff.1 hg).1
    have hgq : g ∉ q2 := fun h => by
      have := hcnt g
      rw [List.count_cons_self] at this
      have h3 : 1 ≤ q2.count g := List.count_pos_iff.2 h
      simp only [List.count_append] at this
      omega
    have hout : ∀ b, b ∈ g :: ((p1 ++ q1) ++ (q3 ++ p3)) → b ∉ q2 := fun b hb hb2 => by
      have h3 : 1 ≤ q2.count b := List.count_pos_iff.2 hb2
      have h4 := hcnt b
      have h5 : 1 ≤ (g :: ((p1 ++ q1) ++ (q3 ++ p3))).count b := List.count_pos_iff.2 hb
      rw [List.count_cons] at h4 h5
      simp only [List.count_append] at h4 h5
      omega
    refine ⟨⟨s.w, fun b => open Classical in if b ∈ q2 then a else s.g b⟩, rfl, ⟨rfl, rfl, rfl, Nat.le_refl _, fun b hb hlo => ?_, fun b hb hm => ⟨?_, rfl⟩⟩, ⟨q2, hg2, ?_, fun b hb => by simp [hb]⟩, ?_, ?_⟩
    · have : b ∉ q2 := fun h => by
        have := hcol b (by simp [h])
        omega
      simp [this]
    · have : b ∉ q2 := fun h => by
        have := hcol b (by simp [h])
        rw [this] at hm; simp [memb] at hm
      simp [this]
    · rw [List.nodup_iff_count]
      intro b
      have h4 := hcnt b
      rw [List.count_cons] at h4
      simp only [List.count_append] at h4
      omega
    · refine ⟨g, cap', cur, _, [u], _, p1 ++ q1, q3 ++ p3, h2, hg, hlc, hcm, hsz, by rw [htk]; exact e0, hr2, hc1l, ?_, fun b hb => ⟨?_, ?_⟩, hi, fun w' e2 y o2 hy ha => ?_⟩
      · rw [List.nodup_iff_count]
        intro b
        have h4 := hcnt b
        rw [List.count_cons] at h4 ⊢
        simp only [List.count_append] at h4 ⊢
        omega
      · have := hout b hb
        simp only [this, if_false]
        refine hcol b ?_
        simp at hb ⊢
        rcases hb with rfl | hb | hb | hb | hb <;> simp [*]
      · simp at hb
        rcases hb with rfl | hb | hb | hb | hb
        · exact hgl
        · exact hE.lt b (by simp [hb])
        · exact hE.lt b (by simp [hb])
        · exact hE.lt b (by simp [hb])
        · exact hE.lt b (by simp [hb])
      · have h6 := hput w' y e2 o2 hy fun b hb hl => ha b (by simp at hb ⊢; rcases hb with hb | hb <;> simp [hb]) hl
        have h7 := hset w' _ _ _ h6 fun b hb hl => ha b (by simp at hb ⊢; rcases hb with hb | hb <;> simp [hb]) hl
        rw [← at_eq xs ii hi] at h7
        simpa using h7
    · refine ⟨?_, hC.2⟩
      have hb := hC.1
      rw [add_block] at hb ⊢
      have : (⟨g, 0, none⟩ : Addr).block ∉ q2 := hgq
      simp only [this, if_false]
      exact hb
section
variable {P : Program} {f : FuncId} {N : Nat} {O ρ : Type} {m : Option O} {G : O → Option ρ} {R : ρ → Ending → World → Prop} {e : Env} {s : St} {k : List Item} {ops : Array Oper} {i d : Nat} {rest : List Nat} {o : Oper}
theorem soh {α β : Type} [Inhabited α] {K : Kd α} {A : Kd β} {q : Nat} {set : α → β → α} {t te : TypeId} {x y : Operand} {v : Value} {vs : List Value} {xs : List α} {c d' : Nat} {ii : Int} {ad : Addr} {x' : β}
    (hH : HoL te K A q set s v xs ii c) (hA : IxA v K.n ii ad) (hX : OwF A s vs x' d') (hcd : Nat.beq c d' = false) (h10 : Nat.ble 40 d' = true) (hs : (P.info? t).map (·.size) = some A.n)
    (ho : ops[i]? = some o) (hd : o.dst = none) (hw : Region.wanted o (yv e ops) = true) (hop : o.op = .store t x y) (hx : ev e x = .pointer (some (ad.add q))) (hy : (ev e y).cells = vs.toArray)
    (h : ∀ s', Stp [c, d'] s s' → OwF (Kd.sl te K) s' [v] (xs.set ii.toNat (set (at_ xs ii) x')) c → TM P f N m G R (.inRegion ops rest :: k) e s'.w) : TM P f N m G R (.inRegion ops (i :: rest) :: k) e s.w := by
  have hcd' : c ≠ d' := fun h => by subst h; simp at hcd
  have hd10 := Nat.le_of_ble_eq_true h10
  obtain ⟨ox, hxo, hxn, hxc⟩ := hX
  have hvl : vs.length = A.n := A.rd_len (A.ow_rd hxo)
  have hv1 : ∀ u ∈ vs, u.oneCell' = true := A.rd_one (A.ow_rd hxo)
  obtain ⟨g, cap, cur, c1, u0, c3, p1, p3, rfl, hg, hlc, hcm, hsz, htk, hu0, hc1, hnd, hcol, hi, hmake⟩ := hH
  obtain ⟨Aa, l, cap2, hv, rfl⟩ := hA
  simp only [Value.slice.injEq, Option.some.injEq] at hv
  obtain ⟨rfl, rfl, rfl⟩ := hv
  have hcapm : xs.length * K.n ≤ cap * K.n := Nat.mul_le_mul_right _ hlc
  have hlen := congrArg List.length htk
  simp only [List.length_take, Array.length_toList, List.length_append] at hlen
  have hgc := (hcol g (by simp)).1
  have hgl := (hcol g (by simp)).2
  have hst := run_storeCells_at P g (ii.toNat * K.n + q) te vs 0 cur s.w hg (by rw [hvl, hsz]; omega) hv1
  simp only [Nat.add_zero] at hst
  have had : ((⟨g, 0, none⟩ : Addr).add (ii.toNat * K.n)).add q = ⟨g, ii.toNat * K.n + q, none⟩ := by rw [Addr.add_add', Addr.add_mid, Nat.zero_add]
  rw [had] at hx
  have hrun : (Instr.storeAt t (.pointer (some ⟨g, ii.toNat * K.n + q, none⟩)) (ev e y)).run P s.w = .ok () (s.w.setRow g (cur.toList.take (ii.toNat * K.n + q) ++ vs ++ cur.toList.drop (ii.toNat * K.n + q + vs.length)).toArray) := by
    unfold Instr.storeAt
    rw [Sem.run_bind']
    simp only [Instr.sureAddr, Sem.run_pure, Result.andThen]
    unfold storeVar
    rw [Sem.run_bind', size_run hs]
    simp only [Result.andThen, hy]
    simp [hvl]
    simp [hvl] at hst
    exact hst
  have hndc := List.nodup_cons.1 hnd
  refine vd (w' := s.w.setRow g (cur.toList.take (ii.toNat * K.n + q) ++ vs ++ cur.toList.drop (ii.toNat * K.n + q + vs.length)).toArray) ho hd hw (by simp [execOp, hop, hx, hrun, Result.andThen]) (h ⟨_, fun b => if s.g b = d' then c else s.g b⟩ ⟨rfl, rfl, rfl, by simp, fun b hb hl => ?_, fun b hb hm => ?_⟩ ?_)
  · have : ¬ s.g b = d' := by omega
    simp [this]
  · simp only [memb, Bool.or_eq_false_iff] at hm
    have q1 : s.g b ≠ c := fun h => by rw [h] at hm; simp at hm
    have q2 : ¬ s.g b = d' := fun h => by rw [h] at hm; simp at hm
    refine ⟨by simp [q2], setRow_other s.w g b _ fun e => q1 (by rw [e]; exact hgc)⟩
  · have hoth : ∀ b, b ≠ g → (s.w.setRow g (cur.toList.take (ii.toNat * K.n + q) ++ vs ++ cur.toList.drop (ii.toNat * K.n + q + vs.length)).toArray).heap[b]? = s.w.heap[b]? := fun b hb => setRow_other s.w g b _ hb
    have hgx : g ∉ ox := fun h => hcd' (hgc.symm.trans (hxc g h))
    have hA' := A.ow_frame hxo (w' := s.w.setRow g (cur.toList.take (ii.toNat * K.n + q) ++ vs ++ cur.toList.drop (ii.toNat * K.n + q + vs.length)).toArray) fun b hb _ => hoth b fun h => hgx (h ▸ hb)
    have hnew := hmake _ vs x' ox hA' fun b hb _ => hoth b fun h => hndc.1 (by subst h; exact hb)
    have hpre : cur.toList.take (ii.toNat * K.n + q) = c1 := by
      have := congrArg (List.take (ii.toNat * K.n + q)) htk
      rw [List.take_take, Nat.min_eq_left (by omega), ← hc1, List.take_left' rfl] at this
      rw [← hc1]; exact this
    have hsuf : (cur.toList.take (xs.length * K.n)).drop (ii.toNat * K.n + q + vs.length) = c3 := by
      rw [htk, ← List.append_assoc]
      exact List.drop_left' (by rw [List.length_append, hc1, hu0, hvl])
    refine ⟨[g] ++ (p1 ++ (ox ++ p3)), ⟨_, rfl, _, [g], _, rfl, ⟨?_, .inr ⟨g, cap, _, by rw [List.length_set], setRow_heap s.w g cur _ te _ hg, by simpa using hlc, hcm, ?_, ?_, rfl⟩⟩, hnew⟩, ?_, fun b hb => ?_⟩
    · simp only [List.length_set, List.length_append, hvl]
      omega
    · simp only [List.size_toArray, List.length_append, List.length_take, List.length_drop, Array.length_toList, hvl, hsz]
      omega
    · rw [List.length_set]
      have hla : (cur.toList.take (ii.toNat * K.n + q) ++ vs).length = ii.toNat * K.n + q + A.n := by
        rw [List.length_append, List.length_take, Array.length_toList, hvl, hsz]; omega
      rw [List.take_append, List.take_of_length_le (by omega), hla, hpre, List.append_assoc]
      congr 1
      congr 1
      rw [← hsuf, hvl, List.drop_take]
    · have hdj : ∀ b, b ∈ ox → b ∉ g :: (p1 ++ p3) := fun b hb hb2 => hcd' ((hcol b hb2).1.symm.trans (hxc b hb))
      rw [List.nodup_iff_count]
      intro b
      have c0 : (g :: (p1 ++ p3)).count b ≤ 1 := List.nodup_iff_count.1 hnd b
      have c1' : ox.count b ≤ 1 := List.nodup_iff_count.1 hxn b
      rw [List.count_cons] at c0
      simp only [List.singleton_append, List.count_cons, List.count_append] at c0 ⊢
      by_cases hb : b ∈ ox
      · have z0 : (g :: (p1 ++ p3)).count b = 0 := List.count_eq_zero.2 (hdj b hb)
        rw [List.count_cons] at z0
        simp only [List.count_append] at z0
        omega
      · have : ox.count b = 0 := List.count_eq_zero.2 hb
        omega
    · dsimp only
      simp only [List.singleton_append, List.mem_cons, List.mem_append] at hb
      rcases hb with rfl | hb | hb | hb
      · simp [hgc]
      · simp [(hcol b (by simp [hb])).1]
      · simp [hxc b hb]
      · simp [(hcol b (by simp [hb])).1]
theorem ixh {α β : Type} [Inhabited α] {te t : TypeId} {K : Kd α} {A : Kd β} {q : Nat} {set : α → β → α} {v : Value} {xs : List α} {c : Nat} {jj : Int} {kk : IntKind} {ii : Int} {X I : Operand} (hH : HoL te K A q set s v xs jj c) (hu : P.underlying t = some (.slice te)) (hs : (P.info? te).map (·.size) = some K.n)
    (ho : ops[i]? = some o) (hd : o.dst = some d) (hN : Nat.blt d N = true) (hw : Region.wanted o (yv e ops) = true) (hop : o.op = .indexAddr t X I) (hX : ev e X = v) (hI : ev e I = .int kk ii)
    (h : ∀ ad, 0 ≤ ii → ii < xs.length → IxA v K.n ii ad → TM P f N m G R (.inRegion ops rest :: k) (upd e d (.pointer (some ad))) s.w) :
    TM P f N (if 0 ≤ ii ∧ ii < xs.length then m else none) G R (.inRegion ops (i :: rest) :: k) e s.w := by
  refine mg fun hg => ?_
  obtain ⟨g, cap, cur, c1, u0, c3, p1, p3, rfl, _⟩ := hH
  refine vl (v := .pointer (some ((⟨g, 0, none⟩ : Addr).add (ii.toNat * K.n)))) ho hd hN hw ?_ (h _ hg.1 hg.2 ⟨_, _, cap, rfl, rfl⟩)
  have h1 := hg.1
  have h2 := hg.2
  simp [execOp, hop, hX, hI, Instr.indexAt, asIntOf, run_underlying hu, h1, h2, size_run hs, Result.andThen]
end
theorem RwF.sub {α : Type} {e : TypeId} {K : Kd α} {s : St} {v : Value} {xs : List α} {c : Nat} {C : List Nat} (h : RwF e K s v xs c C) {D : List Nat} (d : V.sub C D = true) : RwF e K s v xs c D := by
 obtain ⟨cells, os, h1, h2, h3⟩ := h
 exact ⟨cells, os, h1, h2, h3.mono fun b hb _ => sub_out d hb⟩
end Go.Proofs.YtegicanjlefmdaaGreat.V
set_option linter.unusedVariables false
set_option linter.unusedSimpArgs false
namespace Go.Proofs.YtegicanjlefmdaaGreat.V
open Go
theorem ElsR.set {α : Type} {K : Kd α} {w : World} {F : Nat → Prop} {xs : List α} {cells c' : List Value} {y : α} (h : ElsR K w F xs cells) (i : Nat) (hi : i < xs.length) (hy : K.rd w c' y F) : ElsR K w F (xs.set i y) (cells.take (i * K.n) ++ c' ++ cells.drop ((i + 1) * K.n)) := by
 rw [List.set_eq_take_append_cons_drop, if_pos hi, List.append_assoc]
 exact (h.take i).append ⟨c', _, rfl, hy, h.drop (i + 1)⟩
section
variable {P : Program} {f : FuncId} {N : Nat} {O ρ : Type} {m : Option O} {G : O → Option ρ} {R : ρ → Ending → World → Prop} {e : Env} {s : St} {k : List Item} {ops : Array Oper} {i d : Nat} {rest : List Nat} {o : Oper}
end
end Go.Proofs.YtegicanjlefmdaaGreat.V
set_option linter.unusedVariables false
set_option linter.unusedSimpArgs false
namespace Go.Proofs.YtegicanjlefmdaaGreat.V
open Go
section
variable {P : Program} {f : FuncId} {N : Nat} {O ρ : Type} {m : Option O} {G : O → Option ρ} {R : ρ → Ending → World → Prop} {e : Env} {s : St} {k : List Item} {ops : Array Oper} {i d : Nat} {rest : List Nat} {o : Oper}
theorem ixc_run {w : World} {t te cnt n q : Nat} {kk : IntKind} {ii : Int} {ad : Addr} (hu : P.underlying t = some (.array cnt te)) (hs : (P.info? te).map (·.size) = some n) (h0 : decide (0 ≤ ii ∧ ii < (cnt : Int)) = true) (hq : Nat.beq (ii.toNat * n) q = true) :
    (Instr.indexAt t (.pointer (some ad)) (.int kk ii)).run P w = .ok (.pointer (some (ad.add q))) w := by
  obtain ⟨h1, h2⟩ := of_decide_eq_true h0
  have hq' := Nat.eq_of_beq_eq_true hq
  subst hq'
  simp [Instr.indexAt, asIntOf, run_underlying hu, h1, h2, size_run hs, Instr.sureAddr, Result.andThen]
theorem ixc {t te cnt n q : Nat} {kk : IntKind} {ii : Int} {X I : Operand} {ad : Addr} (hu : P.underlying t = some (.array cnt te)) (hs : (P.info? te).map (·.size) = some n)
    (h0 : decide (0 ≤ ii ∧ ii < (cnt : Int)) = true) (hq : Nat.beq (ii.toNat * n) q = true)
    (ho : ops[i]? = some o) (hd : o.dst = some d) (hN : Nat.blt d N = true) (hw : Region.wanted o (yv e ops) = true) (hop : o.op = .indexAddr t X I) (hX : ev e X = .pointer (some ad)) (hI : ev e I = .int kk ii)
    (h : TM P f N m G R (.inRegion ops rest :: k) (upd e d (.pointer (some (ad.add q)))) s.w) : TM P f N m G R (.inRegion ops (i :: rest) :: k) e s.w :=
  vl ho hd hN hw (by simp [execOp, hop, hX, hI, ixc_run hu hs h0 hq, Result.andThen]) h
theorem bdA {t te cnt n : Nat} {parts : Array (Nat × Operand)} {z : Value} {cells : List Value} (hu : P.underlying t = some (.array cnt te)) (hs : (P.info? te).map (·.size) = some n) (hz : (P.info? t).bind (·.zero) = some z)
    (ho : ops[i]? = some o) (hd : o.dst = some d) (hN : Nat.blt d N = true) (hw : Region.wanted o (yv e ops) = true) (hop : o.op = .build t parts) (hfill : lfill (fun i => some (i * n, n)) z.cells.toList (parts.toList.map fun (i, x) => (i, ev e x)) = some cells)
    (h : TM P f N m G R (.inRegion ops rest :: k) (upd e d (.agg cells.toArray)) s.w) : TM P f N m G R (.inRegion ops (i :: rest) :: k) e s.w :=
  vl ho hd hN hw (by
    have : (Instr.build t (parts.map fun (i, x) => (i, ev e x))).run P s.w = .ok (.agg cells.toArray) s.w := by
      have hfl := lfill_eq _ _ _ _ hfill
      unfold Instr.build
      rw [Sem.run_bind', zero_run hz]
      simp only [Result.andThen]
      rw [Sem.run_bind', run_underlying hu]
      simp only [Result.andThen]
      rw [Sem.run_bind', size_run hs]
      simp only [Result.andThen]
      simp only [] at hfl
      simp only [Array.toList_map, hfl]
      rfl
    simp [execOp, hop, this, Result.andThen]) h
end
end Go.Proofs.YtegicanjlefmdaaGreat.V
set_option linter.unusedVariables false
set_option linter.unusedSimpArgs false
namespace Go.Proofs.YtegicanjlefmdaaGreat.V
open Go
section
variable {P : Program} {f : FuncId} {N : Nat} {O ρ : Type} {m : Option O} {G : O → Option ρ} {R : ρ → Ending → World → Prop} {e : Env} {k : List Item} {ops : Array Oper}
variable {s : St} {i d : Nat} {rest : List Nat} {o : Oper}
end
end Go.Proofs.YtegicanjlefmdaaGreat.V
set_option linter.unusedVariables false
set_option linter.unusedSimpArgs false
namespace Go.Proofs.YtegicanjlefmdaaGreat.V
open Go
abbrev RT {ρ : Type} (Q : ρ → Value → World → Prop) (r : ρ) (en : Ending) (w' : World) : Prop := ∃ v, en = .returned v ∧ Q r v w'
end Go.Proofs.YtegicanjlefmdaaGreat.V
set_option linter.unusedVariables false
set_option linter.unusedSimpArgs false
namespace Go.Proofs.YtegicanjlefmdaaGreat.V
open Go
section
variable {α : Type} {K : Kd α} {te : TypeId} {s : St} {v v' : Value} {xs : List α} {c : Nat}
end
section
variable {P : Program} {f : FuncId} {N : Nat} {O ρ : Type} {m : Option O} {G : O → Option ρ} {R : ρ → Ending → World → Prop} {e : Env} {s : St} {k : List Item} {ops : Array Oper} {i d : Nat} {rest : List Nat} {o : Oper}
end
end Go.Proofs.YtegicanjlefmdaaGreat.V
set_option linter.unusedVariables false
set_option linter.unusedSimpArgs false
set_option linter.unusedSectionVars false
namespace Go.Proofs.YtegicanjlefmdaaGreat.V
open Go
section
variable {α : Type} [Inhabited α]
end
section
variable {β : Type} [Inhabited β] {K : Kd β} {te : TypeId}
def PkB (K : Kd β) (s : St) (ps : List (Pk β × List Nat)) (c : Nat) : Prop := (∀ p ∈ ps, K.ow s.w p.1.cs p.1.x p.2) ∧ ((ps.map (·.2)).flatten).Nodup ∧ ∀ b ∈ (ps.map (·.2)).flatten, s.g b = c
theorem mem_fl {ps : List (Pk β × List Nat)} {p : Pk β × List Nat} (h : p ∈ ps) {b : Nat} (hb : b ∈ p.2) : b ∈ (ps.map (·.2)).flatten := List.mem_flatten.2 ⟨p.2, List.mem_map.2 ⟨p, h, rfl⟩, hb⟩
theorem PkB.st {s s' : St} {S : List Nat} {ps : List (Pk β × List Nat)} {c : Nat} (h : PkB K s ps c) (p : Stp S s s') (d : memb S c = false) : PkB K s' ps c := by
 refine ⟨fun q hq => K.ow_frame (h.1 q hq) fun b hb hl => (p.same b hl (by rw [h.2.2 b (mem_fl hq hb)]; exact d)).2, h.2.1, fun b hb => ?_⟩
 obtain ⟨l, hl, hbl⟩ := List.mem_flatten.1 hb
 obtain ⟨q, hq, rfl⟩ := List.mem_map.1 hl
 rw [(p.same b (K.ow_lt (h.1 q hq) b hbl) (by rw [h.2.2 b hb]; exact d)).1, h.2.2 b hb]
end
end Go.Proofs.YtegicanjlefmdaaGreat.V
set_option linter.unusedVariables false
set_option linter.unusedSimpArgs false
namespace Go.Proofs.YtegicanjlefmdaaGreat.V
open Go
def cov : List Nat → List Nat → List Nat → Bool
 | [], _, _ => true
 | c :: D, E, C => (memb E c || memb C c) && cov D E C
theorem cov_out {D E C : List Nat} (h : cov D E C = true) {n : Nat} (hn : memb D n = true) : memb E n = true ∨ memb C n = true := by
 induction D with
 | nil => cases hn
 | cons c D ih =>
  simp only [cov, Bool.and_eq_true, Bool.or_eq_true] at h
  simp only [memb, Bool.or_eq_true] at hn
  rcases hn with hn | hn
  · have := Nat.eq_of_beq_eq_true hn
    subst this; exact h.1
  · exact ih h.2 hn
structure Rc (E : List Nat) (q : Nat) (s s' : St) : Prop where
 w : s.w = s'.w
 inn : ∀ b, memb E (s.g b) = true → s'.g b = q
 out : ∀ b, memb E (s.g b) = false → s'.g b = s.g b
theorem RdF.rc {α : Type} {K : Kd α} {s s' : St} {cs : List Value} {x : α} {D E C : List Nat} {q : Nat} (h : RdF K s cs x D) (r : Rc E q s s') (hq : memb C q = true) (hc : cov D E C = true) : RdF K s' cs x C := by
 unfold RdF at h ⊢
 rw [← r.w]
 refine K.rd_mono h fun b hb _ => ?_
 rcases cov_out hc hb with h1 | h1
 · rw [r.inn b h1]; exact hq
 · cases hm : memb E (s.g b) with
   | true => rw [r.inn b hm]; exact hq
   | false => rw [r.out b hm]; exact h1
end Go.Proofs.YtegicanjlefmdaaGreat.V
set_option linter.unusedVariables false
set_option linter.unusedSimpArgs false
namespace Go.Proofs.YtegicanjlefmdaaGreat.V
open Go
theorem ZN.bl {F : Nat → Prop} {ps : List (List Nat × Nat)} {s : St} (z : ZN F ps s) {b c : Nat} {t : TypeId} {cs : List Value} (hm : ([b], c) ∈ ps) (h : BlW s.w b t cs) : BlF s b t cs c := ⟨h, z.pt _ hm b (by simp)⟩
theorem ZN.fwm {F : Nat → Prop} {p0 : Nat} {os : List Nat} {s s' : St} (z : ZN F [([p0], 2), (os, 40)] s) (p : Kp s s') {α : Type} {K : Kd α} {cs : List Value} {x : α} {C : List Nat} (h : OwC K s' cs x C) (hC : C.all (Nat.ble 40 ·) = true) : FW K os s.w s'.w cs x := by
 obtain ⟨qs, ho, hn, hc⟩ := h
 refine ⟨qs, ho, hn, fun b hb => ?_⟩
 by_cases hl : b < s.w.heap.size
 · left
   refine Classical.byContradiction fun hne => ?_
   have h40 := Nat.le_of_ble_eq_true (List.all_eq_true.1 hC _ (memb_iff.1 (hc b hb)))
   have hlt : s.g b < 40 := by
    by_cases h0 : b = p0
    · have := z.pt ([p0], 2) (by simp) b (by simp [h0])
      rw [this]; show (2 : Nat) < 40; omega
    · have := z.lo b (by simp [fl_, h0, hne])
      omega
   have := p.col b hl hlt
   omega
 · right; omega
theorem nwm2 {s : St} {p pb cB : Nat} {t : TypeId} {cs : List Value} {os : List Nat} {w' : World} (c : Nat) (hc : ∀ b ∈ os, s.g b = p) (hB : BlF s pb t cs cB) (ky : Ky (pb :: os) s.w w') (h40 : Nat.ble 40 p = true) (hne : Nat.beq p cB = false) : ∃ s' : St, s'.w = w' ∧ Stp [cB, p] s s' ∧ Nm s s' os c ∧ s'.g pb = cB := by
 have h40' := Nat.le_of_ble_eq_true h40
 have hpb : pb ∉ os := fun h => by
  have h1 := hc pb h
  rw [hB.2] at h1
  rw [h1, Nat.beq_refl] at hne; cases hne
 have hbl : pb < s.w.heap.size := (Array.getElem?_eq_some_iff.1 hB.1).1
 refine ⟨⟨w', fun b => open Classical in if b ∈ os then c else if b < s.w.heap.size then s.g b else c⟩, rfl, ⟨ky.os, ky.tape, ky.output, ky.size, fun b hb hl => ?_, fun b hb hm => ?_⟩, ⟨fun b hb hn => by simp [hb, hn], fun b hb => by simp [hb], fun b hb => ?_⟩, by simp [hpb, hbl, hB.2]⟩
 · have : b ∉ os := fun h => by have := hc b h; omega
   simp [this, hb]
 · have h1 : b ∉ os := fun h => by rw [hc b h] at hm; simp [memb] at hm
   have h2 : b ≠ pb := fun h => by rw [h, hB.2] at hm; simp [memb] at hm
   exact ⟨by simp [h1, hb], ky.same b hb (by simp [h1, h2])⟩
 · have : ¬ b < s.w.heap.size := by omega
   simp [this]
theorem bl_out {s : St} {b c p : Nat} {t : TypeId} {cs : List Value} {os : List Nat} (hB : BlF s b t cs c) (hc : ∀ b ∈ os, s.g b = p) (hne : Nat.beq p c = false) : b ∉ os := fun h => by
 have h1 := hc b h
 rw [hB.2] at h1
 rw [h1, Nat.beq_refl] at hne; cases hne
theorem apart2 {F : Nat → Prop} {b : Nat} {os : List Nat} (h1 : ∀ x, F x → x ∉ [b]) (h2 : ∀ x, F x → x ∉ os) : ∀ x, F x → x ∉ b :: os := fun x hx => by
 have := h1 x hx
 have := h2 x hx
 simp_all
section
variable {P : Program} {N : Nat} {e : Env} {s : St} {ops : Array Oper} {i d : Nat} {o : Oper}
end
end Go.Proofs.YtegicanjlefmdaaGreat.V
set_option linter.unusedVariables false
set_option linter.unusedSimpArgs false
set_option linter.unusedSectionVars false
namespace Go.Proofs.YtegicanjlefmdaaGreat.V
open Go
theorem mgs {P : Program} {f : FuncId} {N : Nat} {O ρ : Type} {m : Option O} {G : O → Option ρ} {R : ρ → Ending → World → Prop} {e : Env} {w : World} {k : List Item} {a b : Prop} [Decidable a] [Decidable b] (h : TM P f N (if b then (if a then m else none) else none) G R k e w) : TM P f N (if a then (if b then m else none) else none) G R k e w := by
 have : (if a then (if b then m else none) else none) = (if b then (if a then m else none) else none) := by
  by_cases ha : a <;> by_cases hb : b <;> simp [ha, hb]
 rw [this]; exact h
section
variable {P : Program} {f : FuncId} {N : Nat} {O ρ : Type} {G : O → Option ρ} {R : ρ → Ending → World → Prop} {k : List Item} {e : Env} {ops : Array Oper}
theorem clV {α : Type} {x : Option α} {km : α → Option O} {i d : Nat} {rest : List Nat} {o : Oper} {g : FuncId} {fn : Func} {c : Code} {args : Array Operand} {ts : Array TypeId} {vs : List Value} {s : St} {V : α → Value} (cc : Nat) (t0 : E5 (ops[i]?) (some o) (o.dst) (some d) (Nat.blt d N) (true) (Region.wanted o (yv e ops)) (true) (o.op) (.call { callee := .value (.func g), args := args, argTypes := ts })) (hg : P.funcs[g]? = some fn) (t6 : E3 (fn.body) (some c) ((fn.name == "runtime.NumGoroutine")) (false) (args.toList.map (ev e)) (vs)) (hc : ∀ a, x = some a → Calls P g vs.toArray s.w fun en w' => ∃ v, en = .returned v ∧ v = V a ∧ Ky [] s.w w')
  (h : ∀ a s', Stp [] s s' → Nw s s' cc → TM P f N (km a) G R (.inRegion ops rest :: k) (upd e d (V a)) s'.w) : TM P f N (x.bind km) G R (.inRegion ops (i :: rest) :: k) e s.w :=
 cl (e5_ t0).1 (e5_ t0).2.1 (e5_ t0).2.2.1 (e5_ t0).2.2.2.1 (e5_ t0).2.2.2.2 hg (e3_ t6).1 (e3_ t6).2.1 (e3_ t6).2.2 hc fun a v w' _ hq => by
  obtain ⟨rfl, ky⟩ := hq
  obtain ⟨s', rfl, p, n⟩ := nwx s w' cc ky
  exact h a s' p n
theorem clO {α : Type} {x : Option α} {km : α → Option O} {i d : Nat} {rest : List Nat} {o : Oper} {g : FuncId} {fn : Func} {c : Code} {args : Array Operand} {ts : Array TypeId} {vs : List Value} {s : St} {β : Type} {K : Kd β} {X : α → β} (cc : Nat) (t0 : E5 (ops[i]?) (some o) (o.dst) (some d) (Nat.blt d N) (true) (Region.wanted o (yv e ops)) (true) (o.op) (.call { callee := .value (.func g), args := args, argTypes := ts })) (hg : P.funcs[g]? = some fn) (t6 : E3 (fn.body) (some c) ((fn.name == "runtime.NumGoroutine")) (false) (args.toList.map (ev e)) (vs)) (hc : ∀ a, x = some a → Calls P g vs.toArray s.w fun en w' => ∃ v, en = .returned v ∧ FO K s.w w' [v] (X a) ∧ Ky [] s.w w')
  (h : ∀ a v s', Stp [] s s' → OwF K s' [v] (X a) cc → TM P f N (km a) G R (.inRegion ops rest :: k) (upd e d v) s'.w) : TM P f N (x.bind km) G R (.inRegion ops (i :: rest) :: k) e s.w :=
 cl (e5_ t0).1 (e5_ t0).2.1 (e5_ t0).2.2.1 (e5_ t0).2.2.2.1 (e5_ t0).2.2.2.2 hg (e3_ t6).1 (e3_ t6).2.1 (e3_ t6).2.2 hc fun a v w' _ hq => by
  obtain ⟨f, ky⟩ := hq
  obtain ⟨s', rfl, p, n⟩ := nwx s w' cc ky
  exact h a v s' p (f.c n)
theorem clB {α : Type} {x : Option α} {km : α → Option O} {i d : Nat} {rest : List Nat} {o : Oper} {g : FuncId} {fn : Func} {c : Code} {args : Array Operand} {ts : Array TypeId} {vs : List Value} {s : St} {V : α → Value} {W : α → List Value} {b tb cb : Nat} {cs : List Value} (hB : BlF s b tb cs cb) (t0 : E5 (ops[i]?) (some o) (o.dst) (some d) (Nat.blt d N) (true) (Region.wanted o (yv e ops)) (true) (o.op) (.call { callee := .value (.func g), args := args, argTypes := ts })) (hg : P.funcs[g]? = some fn) (t6 : E3 (fn.body) (some c) ((fn.name == "runtime.NumGoroutine")) (false) (args.toList.map (ev e)) (vs)) (hc : ∀ a, x = some a → Calls P g vs.toArray s.w fun en w' => ∃ v, en = .returned v ∧ v = V a ∧ BlW w' b tb (W a) ∧ Ky [b] s.w w')
  (h : ∀ a s', Stp [cb] s s' → BlF s' b tb (W a) cb → TM P f N (km a) G R (.inRegion ops rest :: k) (upd e d (V a)) s'.w) : TM P f N (x.bind km) G R (.inRegion ops (i :: rest) :: k) e s.w :=
 cl (e5_ t0).1 (e5_ t0).2.1 (e5_ t0).2.2.1 (e5_ t0).2.2.2.1 (e5_ t0).2.2.2.2 hg (e3_ t6).1 (e3_ t6).2.1 (e3_ t6).2.2 hc fun a v w' _ hq => by
  obtain ⟨rfl, bw, ky⟩ := hq
  obtain ⟨s', rfl, p, n, g⟩ := nwb 0 hB ky
  exact h a s' p (blf_mk bw g)
end
end Go.Proofs.YtegicanjlefmdaaGreat.V
