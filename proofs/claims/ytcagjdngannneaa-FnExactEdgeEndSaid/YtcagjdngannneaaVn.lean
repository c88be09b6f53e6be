
import Derived.Test.YtcagjdngannneaaVm
set_option linter.unusedVariables false
set_option linter.unusedSimpArgs false
namespace Go.Proofs.Ytcagjdngannneaa.V
open Go
def BlW (w : World) (b : Nat) (t : TypeId) (cs : List Value) : Prop := w.heap[b]? = some (.cells cs.toArray t (0, 0))
def BlN (w w' : World) (b : Nat) (t : TypeId) (cs : List Value) : Prop := w.heap.size ≤ b ∧ BlW w' b t cs
theorem Z1.bl {F : Nat → Prop} {os : List Nat} {s : St} (z : Z1 F os s) {b : Nat} {t : TypeId} {cs : List Value} (h : BlW s.w b t cs) (hb : b ∈ os) : BlF s b t cs 2 := ⟨h, (z.o b).1 hb⟩
theorem BlF.fo {s0 s : St} {b c : Nat} {t : TypeId} {cs : List Value} (h : BlF s b t cs c) (p : Kp s0 s) (hc : Nat.ble 40 c = true) (hz : ∀ b, s0.g b < 40) : BlN s0.w s.w b t cs := by
  refine ⟨?_, h.1⟩
  by_cases hl : b < s0.w.heap.size
  · have := p.col b hl (hz b)
    have h3 := hz b
    have := Nat.le_of_ble_eq_true hc
    have := h.2
    omega
  · omega
theorem BlF.w {s : St} {b c : Nat} {t : TypeId} {cs : List Value} (h : BlF s b t cs c) : BlW s.w b t cs := h.1
theorem BlN.c {s s' : St} {b c : Nat} {t : TypeId} {cs : List Value} (h : BlN s.w s'.w b t cs) (n : Nw s s' c) : BlF s' b t cs c := ⟨h.2, n.new b h.1⟩
def FRF {α : Type} (K : Kd α) (F : Nat → Prop) (w w' : World) (cs : List Value) (x : α) : Prop := K.rd w' cs x (fun b => F b ∧ b < w.heap.size)
theorem FRF.c {α : Type} {K : Kd α} {s s' : St} {cs : List Value} {x : α} {c : Nat} {C : List Nat} (h : FRF K (fun b => memb C (s.g b) = true) s.w s'.w cs x) (n : Nw s s' c) : RdF K s' cs x C :=
  K.rd_mono h fun b hb _ => by rw [n.old b hb.2]; exact hb.1
end Go.Proofs.Ytcagjdngannneaa.V
