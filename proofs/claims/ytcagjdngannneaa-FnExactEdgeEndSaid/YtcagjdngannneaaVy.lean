
import Derived.Test.YtcagjdngannneaaVx
set_option linter.unusedVariables false
set_option linter.unusedSimpArgs false
namespace Go.Proofs.Ytcagjdngannneaa.V
open Go
theorem ElsR.set {α : Type} {K : Kd α} {w : World} {F : Nat → Prop} {xs : List α} {cells c' : List Value} {y : α} (h : ElsR K w F xs cells) (i : Nat) (hi : i < xs.length) (hy : K.rd w c' y F) : ElsR K w F (xs.set i y) (cells.take (i * K.n) ++ c' ++ cells.drop ((i + 1) * K.n)) := by
  rw [List.set_eq_take_append_cons_drop, if_pos hi, List.append_assoc]
  exact (h.take i).append ⟨c', _, rfl, hy, h.drop (i + 1)⟩
section
variable {P : Program} {f : FuncId} {N : Nat} {O ρ : Type} {m : Option O} {G : O → Option ρ} {R : ρ → Ending → World → Prop} {e : Env} {s : St} {k : List Item} {ops : Array Oper} {i d : Nat} {rest : List Nat} {o : Oper}
theorem apRR {α : Type} {K : Kd α} {t te : TypeId} {x y : Operand} {v u : Value} {xs ys : List α} {c c2 : Nat} {C D : List Nat} (hT : SlT P t te K.n) (hD : RwF te K s v xs c C) (hS : RwF te K s u ys c2 D) (hc : memb (C ++ D) c = false)
    (ho : ops[i]? = some o) (hd : o.dst = some d) (hN : Nat.blt d N = true) (hw : Region.wanted o (yv e ops) = true) (hop : o.op = .call { callee := .builtin .append, args := #[x, y], argTypes := #[t, t] }) (hx : ev e x = v) (hy : ev e y = u)
    (h : ∀ v' s', Stp [c] s s' → RwF te K s' v' (xs ++ ys) c (C ++ D) → TM P f N m G R (.inRegion ops rest :: k) (upd e d v') s'.w) :
    TM P f N (if xs.length + ys.length ≤ Lim then m else none) G R (.inRegion ops (i :: rest) :: k) e s.w := by
  refine mg fun hl => ?_
  obtain ⟨cells, os, hR, hcol, hE⟩ := hD
  obtain ⟨cells', os', hR2, hcol2, hE'⟩ := hS
  obtain ⟨v', w', hr, hR', hg, hb⟩ := append_core (P := P) (ty := o.type) hT hR (hR2.slv hE'.one) hl
  refine vl (v := v') (w' := w') ho hd hN hw (by simp [execOp, hop, resolve, invoke, builtin, hx, hy, hr, Result.andThen]) ?_
  have hp : ∃ s' : St, s'.w = w' ∧ Stp [c] s s' ∧ (∀ b, b < s.w.heap.size → s'.g b = s.g b) ∧ (∀ b, s.w.heap.size ≤ b → s'.g b = c) := by
    refine ⟨⟨w', fun b => if b < s.w.heap.size then s.g b else c⟩, rfl, ⟨hg.os, hg.tape, hg.output, hg.size, fun b hb _ => by simp [hb], fun b hb hm => ⟨by simp [hb], hg.block b hb fun h => ?_⟩⟩, fun b hb => by simp [hb], fun b hb => ?_⟩
    · have := hcol b (blk_own hR h.symm)
      rw [this] at hm; simp [memb] at hm
    · have : ¬ b < s.w.heap.size := by omega
      simp [this]
  obtain ⟨s', rfl, p, hold, hnew⟩ := hp
  have hsub : ∀ n, memb C n = true → memb (C ++ D) n = true := fun n hn => memb_iff.2 (List.mem_append_left _ (memb_iff.1 hn))
  have hsub' : ∀ n, memb D n = true → memb (C ++ D) n = true := fun n hn => memb_iff.2 (List.mem_append_right _ (memb_iff.1 hn))
  refine h v' s' p ⟨cells ++ cells', Value.blk v', by rw [List.length_append]; exact hR', fun b hb' => ?_, ?_⟩
  · rcases hb b hb' with h1 | h1
    · rw [hold b (hR.lt b h1)]; exact hcol b h1
    · exact hnew b h1
  · have h1 : ElsR K s.w (fun b => b < s.w.heap.size ∧ memb (C ++ D) (s.g b) = true) (xs ++ ys) (cells ++ cells') := (hE.mono fun b hb hl => ⟨hl, hsub _ hb⟩).append (hE'.mono fun b hb hl => ⟨hl, hsub' _ hb⟩)
    refine (h1.frame fun b hb hl => (p.same b hl ?_).2).mono fun b hb _ => by rw [hold b hb.1]; exact hb.2
    cases hm : memb [c] (s.g b) with
    | false => rfl
    | true =>
      have := memb_iff.1 hm
      simp at this
      rw [this] at hb
      rw [hb.2] at hc; cases hc
end
end Go.Proofs.Ytcagjdngannneaa.V
