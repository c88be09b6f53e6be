
import Derived.Test.YtcagjdngannneaaVs
set_option linter.unusedVariables false
set_option linter.unusedSimpArgs false
namespace Go.Proofs.Ytcagjdngannneaa.V
open Go
def fl_ (ps : List (List Nat × Nat)) : List Nat := (ps.map (·.1)).flatten
structure ZN (F : Nat → Prop) (ps : List (List Nat × Nat)) (s : St) : Prop where
  z : ∀ b, F b ↔ s.g b = 0
  lo : ∀ b, b ∉ fl_ ps → s.g b < 2
  pt : ∀ p ∈ ps, ∀ b ∈ p.1, s.g b = p.2
section
variable {F : Nat → Prop} {ps : List (List Nat × Nat)} {s s' : St}
theorem ZN.rd (z : ZN F ps s) {α : Type} {K : Kd α} {cs : List Value} {x : α} (h : K.rd s.w cs x F) : RdF K s cs x [0] :=
  K.rd_mono h fun b hb _ => by rw [(z.z b).1 hb]; rfl
theorem ZN.ow (z : ZN F ps s) {α : Type} {K : Kd α} {cs : List Value} {x : α} {p : List Nat} {c : Nat} (hm : (p, c) ∈ ps) (hn : p.Nodup) (h : K.ow s.w cs x p) : OwF K s cs x c := ⟨p, h, hn, fun b hb => z.pt _ hm b hb⟩
theorem ZN.ky (z : ZN F ps s) (p : Kp s s') : Ky (fl_ ps) s.w s'.w := ⟨p.os, p.tape, p.output, p.size, fun b hb hn => p.same b hb (z.lo b hn)⟩
def OwC {α : Type} (K : Kd α) (s : St) (cs : List Value) (x : α) (C : List Nat) : Prop := ∃ os, K.ow s.w cs x os ∧ os.Nodup ∧ ∀ b ∈ os, memb C (s.g b) = true
theorem ZN.fw (z : ZN F ps s) (p : Kp s s') {α : Type} {K : Kd α} {cs : List Value} {x : α} {C : List Nat} (h : OwC K s' cs x C) (hC : C.all (Nat.ble 2 ·) = true) : FW K (fl_ ps) s.w s'.w cs x := by
  obtain ⟨os, ho, hn, hc⟩ := h
  refine ⟨os, ho, hn, fun b hb => ?_⟩
  by_cases hl : b < s.w.heap.size
  · left
    refine Classical.byContradiction fun hne => ?_
    have h1 := z.lo b hne
    have h2 := p.col b hl (by omega)
    have h3 := hc b hb
    rw [h2] at h3
    have := List.all_eq_true.1 hC _ (memb_iff.1 h3)
    have := Nat.le_of_ble_eq_true this
    omega
  · right; omega
end
structure Nm (s s' : St) (os : List Nat) (c : Nat) : Prop where
  old : ∀ b, b < s.w.heap.size → b ∉ os → s'.g b = s.g b
  mv : ∀ b ∈ os, s'.g b = c
  new : ∀ b, s.w.heap.size ≤ b → s'.g b = c
theorem FW.m {α : Type} {K : Kd α} {s s' : St} {os : List Nat} {cs : List Value} {x : α} {c : Nat} (h : FW K os s.w s'.w cs x) (n : Nm s s' os c) : OwF K s' cs x c := by
  obtain ⟨os', ho, hn, hf⟩ := h
  refine ⟨os', ho, hn, fun b hb => ?_⟩
  rcases hf b hb with h | h
  · exact n.mv b h
  · exact n.new b h
section
variable {P : Program} {f : FuncId} {N : Nat} {O ρ : Type} {m : Option O} {G : O → Option ρ} {R : ρ → Ending → World → Prop} {e : Env} {s : St} {k : List Item} {ops : Array Oper} {i d : Nat} {rest : List Nat} {o : Oper}
end
end Go.Proofs.Ytcagjdngannneaa.V
