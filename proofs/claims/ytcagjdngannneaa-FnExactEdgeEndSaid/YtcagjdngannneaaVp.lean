
import Derived.Test.YtcagjdngannneaaVo
set_option linter.unusedVariables false
set_option linter.unusedSimpArgs false
namespace Go.Proofs.Ytcagjdngannneaa.V
open Go
def CallV (P : Program) (fv : Value) (args : List Value) (w : World) (R : Ending → World → Prop) : Prop :=
  ∃ g fn c fs cs, fv = .func (.func g) (List.toArray fs) (List.toArray cs) ∧ P.funcs[g]? = some fn ∧ fn.body = some c ∧ (fn.name == "runtime.NumGoroutine") = false ∧ Calls P g (List.toArray (fs ++ (args ++ cs))) w R
theorem Ky.trans {w w' w'' : World} (h : Ky [] w w') (h2 : Ky [] w' w'') : Ky [] w w'' :=
  ⟨h2.os.trans h.os, h2.tape.trans h.tape, h2.output.trans h.output, Nat.le_trans h.size h2.size, fun b hb _ => (h2.same b (Nat.lt_of_lt_of_le hb h.size) (by simp)).trans (h.same b hb (by simp))⟩
theorem RdF.top {α : Type} {K : Kd α} {s : St} {cs : List Value} {x : α} {C : List Nat} (h : RdF K s cs x C) : K.rd s.w cs x (fun _ => True) := K.rd_mono h fun _ _ _ => trivial
theorem RdF.ky {α : Type} {K : Kd α} {s : St} {cs : List Value} {x : α} {C : List Nat} {w' : World} (h : RdF K s cs x C) (k : Ky [] s.w w') : K.rd w' cs x (fun _ => True) :=
  K.rd_mono (K.rd_frame (K.rd_mono h fun b hb hl => (⟨hl, hb⟩ : b < s.w.heap.size ∧ memb C (s.g b) = true)) fun b hb _ => k.same b hb.1 (by simp)) fun _ _ _ => trivial
theorem BlF.ky {s : St} {b c : Nat} {t : TypeId} {cs : List Value} {w' : World} (h : BlF s b t cs c) (k : Ky [] s.w w') : BlW w' b t cs := by
  have hl : b < s.w.heap.size := (Array.getElem?_eq_some_iff.1 h.1).1
  unfold BlW; rw [k.same b hl (by simp)]; exact h.1
theorem Z0.b0 {F : Nat → Prop} {s : St} (z : Z0 F s) {b : Nat} {t : TypeId} {cs : List Value} (h : BlW s.w b t cs) (hF : F b) : BlF s b t cs 0 := ⟨h, (z.z b).1 hF⟩
theorem Z1.b0 {F : Nat → Prop} {os : List Nat} {s : St} (z : Z1 F os s) {b : Nat} {t : TypeId} {cs : List Value} (h : BlW s.w b t cs) (hF : F b) : BlF s b t cs 0 := ⟨h, (z.z b).1 hF⟩
section
variable {P : Program} {f : FuncId} {N : Nat} {O ρ : Type} {m : Option O} {G : O → Option ρ} {R : ρ → Ending → World → Prop} {e : Env} {w : World} {k : List Item} {ops : Array Oper}
theorem clv {α : Type} {x : Option α} {km : α → Option O} {i d : Nat} {rest : List Nat} {o : Oper} {y : Operand} {fv : Value} {args : Array Operand} {ts : Array TypeId} {vs : List Value} {Q : α → Value → World → Prop}
    (ho : ops[i]? = some o) (hd : o.dst = some d) (hN : Nat.blt d N = true) (hw : Region.wanted o (yv e ops) = true)
    (hop : o.op = .call { callee := .value y, args := args, argTypes := ts }) (hy : ev e y = fv) (hargs : args.toList.map (ev e) = vs)
    (hc : ∀ a, x = some a → CallV P fv vs w fun en w' => ∃ v, en = .returned v ∧ Q a v w')
    (h : ∀ a v w', x = some a → Q a v w' → TM P f N (km a) G R (.inRegion ops rest :: k) (upd e d v) w') : TM P f N (x.bind km) G R (.inRegion ops (i :: rest) :: k) e w := by
  intro oo hoo r hr
  obtain ⟨a, ha, hkm⟩ := Option.bind_eq_some_iff.1 hoo
  obtain ⟨g, fn, c, fs, cs, rfl', hg, hb, hn, hcalls⟩ := hc a ha
  have hn' : ¬ fn.name = "runtime.NumGoroutine" := by simpa using hn
  have hm : args.map (ev e) = vs.toArray := by rw [← hargs, ← Array.toList_map]
  have hrun : (execOp (ev e) o).run P w = .ok (.enter g (List.toArray (fs ++ (vs ++ cs)))) w := by
    simp [execOp, hop, resolve, hy, rfl', Deferred.ofValue, invoke, callFunc, hg, hb, hn', hm]
  refine T.call_core (E := fun v => upd e d v) ho hw (fun a' ha' v => by rw [hd]; exact ha'.put d hN v) hrun hcalls ?_
  rintro en w' ⟨v, rfl, hQ⟩
  exact ⟨v, rfl, h a v w' ha hQ oo hkm r hr⟩
theorem mkf {i d g : Nat} {rest : List Nat} {o : Oper} {first cap : Array Operand} {fs cs : List Value} (ho : ops[i]? = some o) (hd : o.dst = some d) (hN : Nat.blt d N = true) (hw : Region.wanted o (yv e ops) = true) (hop : o.op = .makeFunc (.func g) first cap)
    (hf : first.toList.map (ev e) = fs) (hc : cap.toList.map (ev e) = cs)
    (h : TM P f N m G R (.inRegion ops rest :: k) (upd e d (.func (.func g) (List.toArray fs) (List.toArray cs))) w) : TM P f N m G R (.inRegion ops (i :: rest) :: k) e w :=
  vl ho hd hN hw (by
    have h1 : first.map (ev e) = fs.toArray := by rw [← hf, ← Array.toList_map]
    have h2 : cap.map (ev e) = cs.toArray := by rw [← hc, ← Array.toList_map]
    simp [execOp, hop, Instr.makeFunc, h1, h2]) h
theorem mx {i d : Nat} {rest : List Nat} {o : Oper} {x y : Operand} {ts : Array TypeId} {k1 k2 : IntKind} {a b : Int} (ho : ops[i]? = some o) (hd : o.dst = some d) (hN : Nat.blt d N = true) (hw : Region.wanted o (yv e ops) = true) (hop : o.op = .call { callee := .builtin .max, args := #[x, y], argTypes := ts }) (hx : ev e x = .int k1 a) (hy : ev e y = .int k2 b)
    (h : TM P f N m G R (.inRegion ops rest :: k) (upd e d (.int k1 (if b > a then b else a))) w) : TM P f N m G R (.inRegion ops (i :: rest) :: k) e w :=
  vl ho hd hN hw (by simp [execOp, hop, resolve, invoke, builtin, Builtin.max_, Builtin.max2, hx, hy, Result.andThen]) h
end
end Go.Proofs.Ytcagjdngannneaa.V
