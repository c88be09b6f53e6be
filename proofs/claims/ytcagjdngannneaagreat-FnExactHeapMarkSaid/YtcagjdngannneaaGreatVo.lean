/- == of structs. -/
import Derived.Test.YtcagjdngannneaaGreatVn
import Derived.Laws.StructEq
set_option linter.unusedVariables false
set_option linter.unusedSimpArgs false
namespace Go.Proofs.YtcagjdngannneaaGreat.V
open Go
section
variable {P : Program} {d : Nat} {xs ys : Array Value} {f : Field} {fs : List Field} {a b : Value} {r s : Bool} {w : World}
theorem q_int {t : TypeId} {k : IntKind} {a b : Int} (hu : P.underlying t = some (.int k)) : (Op.equalIn (d + 1) t (.int k a) (.int k b)).run P w = .ok (a == b) w := by
  unfold Op.equalIn
  rw [Sem.run_bind', run_underlying hu]; simp [Result.andThen]
theorem q_bool {t : TypeId} {a b : Bool} (hu : P.underlying t = some .bool) : (Op.equalIn (d + 1) t (.bool a) (.bool b)).run P w = .ok (a == b) w := by
  unfold Op.equalIn
  rw [Sem.run_bind', run_underlying hu]; simp [Result.andThen]
theorem q_str {t : TypeId} {a b : ByteArray} (hu : P.underlying t = some .string) : (Op.equalIn (d + 1) t (.string a) (.string b)).run P w = .ok (a == b) w := by
  unfold Op.equalIn
  rw [Sem.run_bind', run_underlying hu]; simp [Result.andThen]
theorem p_one {t : TypeId} {o : Nat} {dd : TypeDesc} {v : Value} (hu : P.underlying t = some dd) (hr : dd.isRow = false) (hv : xs[o]? = some v) : (part t xs o).run P w = .ok v w := by
  unfold part
  rw [Sem.run_bind', agg_run hu, hr]
  simp [Result.andThen, hv]
theorem p_row {t : TypeId} {o n : Nat} {dd : TypeDesc} {vs : Array Value} (hu : P.underlying t = some dd) (hr : dd.isRow = true) (hs : (P.info? t).map (·.size) = some n) (hv : xs.extract o (o + n) = vs) : (part t xs o).run P w = .ok (.agg vs) w := by
  unfold part
  rw [Sem.run_bind', agg_run hu, hr]
  simp [Result.andThen, size_run hs, hv]
theorem f_one (hn : (f.name == "_") = false) (ha : (part f.type xs f.offset).run P w = .ok a w) (hb : (part f.type ys f.offset).run P w = .ok b w) (he : (Op.equalIn d f.type a b).run P w = .ok r w) : (Op.eqFields d xs ys [f]).run P w = .ok r w := by
  have hn' : f.name ≠ "_" := by simpa using hn
  simp only [Op.eqFields, if_pos hn', Sem.run_bind, ha, hb, he, Result.andThen_ok]
  cases r <;> simp
theorem f_more (hn : (f.name == "_") = false) (ha : (part f.type xs f.offset).run P w = .ok a w) (hb : (part f.type ys f.offset).run P w = .ok b w) (he : (Op.equalIn d f.type a b).run P w = .ok r w) (hr : (Op.eqFields d xs ys fs).run P w = .ok s w) : (Op.eqFields d xs ys (f :: fs)).run P w = .ok (r && s) w := by
  have hn' : f.name ≠ "_" := by simpa using hn
  rw [Op.eqFields]
  simp only [if_pos hn', Sem.run_bind, ha, hb, he, Result.andThen_ok]
  cases r
  · simp
  · simpa using hr
theorem q_st {t : TypeId} {fs : Array Field} (hu : P.underlying t = some (.struct fs)) (hp : P.stoodInHeld t = false) (h : (Op.eqFields d xs ys fs.toList).run P w = .ok r w) : (Op.equalIn (d + 1) t (.agg xs) (.agg ys)).run P w = .ok r w := by
  have hf : P.fieldsOf t = fs := by simp [Program.fieldsOf, hu]
  rw [run_equalIn_struct (P := P) w d t xs ys (by rw [hf]; exact hu) hp, hf]
  exact h
end
section
variable {P : Program} {f : FuncId} {N : Nat} {O ρ : Type} {m : Option O} {G : O → Option ρ} {R : ρ → Ending → World → Prop} {e : Env} {s : St} {k : List Item} {ops : Array Oper} {i d : Nat} {rest : List Nat} {o : Oper}
theorem seq_run {t : TypeId} {x y : Operand} {xs ys : Array Value} {r : Bool} {w : World} (hg : P.eqGuardType P.depth t = false) (he : (Op.equalIn 10000 t (.agg xs) (.agg ys)).run P w = .ok r w) : (do eqGuard .eql t x y (.agg xs) (.agg ys); binOp .eql t (.agg xs) (.agg ys) : Sem Value).run P w = .ok (.bool r) w ∧
    (do eqGuard .neq t x y (.agg xs) (.agg ys); binOp .neq t (.agg xs) (.agg ys) : Sem Value).run P w = .ok (.bool (!r)) w := by
  have : (Op.equal t (.agg xs) (.agg ys)).run P w = .ok r w := he
  constructor
  · rw [Sem.run_bind']; simp [eqGuard, hg, binOp, this, Result.andThen]
  · rw [Sem.run_bind']; simp [eqGuard, hg, binOp, this, Result.andThen]
theorem seq_ {t t2 : TypeId} {x y : Operand} {xs ys : Array Value} {r : Bool} (hg : P.eqGuardType P.depth t = false) (he : ∀ w, (Op.equalIn 10000 t (.agg xs) (.agg ys)).run P w = .ok r w)
    (ho : ops[i]? = some o) (hd : o.dst = some d) (hN : Nat.blt d N = true) (hw : Region.wanted o (yv e ops) = true) (hop : o.op = .binOp .eql t x y t2) (hx : ev e x = .agg xs) (hy : ev e y = .agg ys)
    (h : TM P f N m G R (.inRegion ops rest :: k) (upd e d (.bool r)) s.w) : TM P f N m G R (.inRegion ops (i :: rest) :: k) e s.w :=
  vl ho hd hN hw (by
    have := (seq_run (x := x) (y := y) hg (he s.w)).1
    simp only [execOp, hop, hx, hy]
    rw [Sem.run_bind', this]; rfl) h
theorem sne_ {t t2 : TypeId} {x y : Operand} {xs ys : Array Value} {r : Bool} (hg : P.eqGuardType P.depth t = false) (he : ∀ w, (Op.equalIn 10000 t (.agg xs) (.agg ys)).run P w = .ok r w)
    (ho : ops[i]? = some o) (hd : o.dst = some d) (hN : Nat.blt d N = true) (hw : Region.wanted o (yv e ops) = true) (hop : o.op = .binOp .neq t x y t2) (hx : ev e x = .agg xs) (hy : ev e y = .agg ys)
    (h : TM P f N m G R (.inRegion ops rest :: k) (upd e d (.bool (!r))) s.w) : TM P f N m G R (.inRegion ops (i :: rest) :: k) e s.w :=
  vl ho hd hN hw (by
    have := (seq_run (x := x) (y := y) hg (he s.w)).2
    simp only [execOp, hop, hx, hy]
    rw [Sem.run_bind', this]; rfl) h
end
end Go.Proofs.YtcagjdngannneaaGreat.V
