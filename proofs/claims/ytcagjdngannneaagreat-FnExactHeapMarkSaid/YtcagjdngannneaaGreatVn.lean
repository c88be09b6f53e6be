/- Pointers handed in and out. -/
import Derived.Test.YtcagjdngannneaaGreatVm
set_option linter.unusedVariables false
set_option linter.unusedSimpArgs false
namespace Go.Proofs.YtcagjdngannneaaGreat.V
open Go
def BlW (w : World) (b : Nat) (t : TypeId) (cs : List Value) : Prop := w.heap[b]? = some (.cells cs.toArray t (0, 0))
/-- made by the call -/
def BlN (w w' : World) (b : Nat) (t : TypeId) (cs : List Value) : Prop := w.heap.size ≤ b ∧ BlW w' b t cs
theorem Z1.bl {F : Nat → Prop} {os : List Nat} {s : St} (z : Z1 F os s) {b : Nat} {t : TypeId} {cs : List Value} (h : BlW s.w b t cs) (hb : b ∈ os) : BlF s b t cs 2 := ⟨h, (z.o b).1 hb⟩
theorem nwb {s : St} {b c : Nat} {t : TypeId} {cs : List Value} {w' : World} (col : Nat) (hB : BlF s b t cs c) (ky : Ky [b] s.w w') : ∃ s' : St, s'.w = w' ∧ Stp [c] s s' ∧ Nw s s' col ∧ s'.g b = c := by
  have hb : b < s.w.heap.size := (Array.getElem?_eq_some_iff.1 hB.1).1
  refine ⟨⟨w', fun x => if x < s.w.heap.size then s.g x else col⟩, rfl, ⟨ky.os, ky.tape, ky.output, ky.size, fun x hx _ => by simp [hx], fun x hx hm => ⟨by simp [hx], ky.same x hx fun h => ?_⟩⟩, ⟨fun x hx => by simp [hx], fun x hx => ?_⟩, ?_⟩
  · simp at h; subst h; rw [hB.2] at hm; simp [memb] at hm
  · have : ¬ x < s.w.heap.size := by omega
    simp [this]
  · simp only [hb, if_true]; exact hB.2
theorem BlF.fo {s0 s : St} {b c : Nat} {t : TypeId} {cs : List Value} (h : BlF s b t cs c) (p : Kp s0 s) (hc : Nat.ble 40 c = true) (hz : ∀ b, s0.g b < 40) : BlN s0.w s.w b t cs := by
  refine ⟨?_, h.1⟩
  by_cases hl : b < s0.w.heap.size
  · have := p.col b hl (hz b)
    have h3 := hz b
    have := Nat.le_of_ble_eq_true hc
    have := h.2
    omega
  · omega
theorem blf_mk {s : St} {b c : Nat} {t : TypeId} {cs : List Value} (h : BlW s.w b t cs) (g : s.g b = c) : BlF s b t cs c := ⟨h, g⟩
theorem BlF.w {s : St} {b c : Nat} {t : TypeId} {cs : List Value} (h : BlF s b t cs c) : BlW s.w b t cs := h.1
theorem BlN.c {s s' : St} {b c : Nat} {t : TypeId} {cs : List Value} (h : BlN s.w s'.w b t cs) (n : Nw s s' c) : BlF s' b t cs c := ⟨h.2, n.new b h.1⟩
theorem BlF.apart {s : St} {b c : Nat} {t : TypeId} {cs : List Value} {C : List Nat} (h : BlF s b t cs c) (hm : memb C c = false) : ∀ x, memb C (s.g x) = true → x ∉ [b] := fun x hx hb => by
  simp at hb; subst hb; rw [h.2, hm] at hx; cases hx
/-- read, and leads to F alone -/
def FRF {α : Type} (K : Kd α) (F : Nat → Prop) (w w' : World) (cs : List Value) (x : α) : Prop := K.rd w' cs x (fun b => F b ∧ b < w.heap.size)
theorem FRF.c {α : Type} {K : Kd α} {s s' : St} {cs : List Value} {x : α} {c : Nat} {C : List Nat} (h : FRF K (fun b => memb C (s.g b) = true) s.w s'.w cs x) (n : Nw s s' c) : RdF K s' cs x C :=
  K.rd_mono h fun b hb _ => by rw [n.old b hb.2]; exact hb.1
theorem Z0.rf {F : Nat → Prop} {s0 s : St} (z : Z0 F s0) (p : Kp s0 s) {α : Type} {K : Kd α} {cs : List Value} {x : α} (h : RdF K s0 cs x [0]) : FRF K F s0.w s.w cs x :=
  K.rd_mono (K.rd_frame (F := fun b => b < s0.w.heap.size ∧ memb [0] (s0.g b) = true) (K.rd_mono h fun b hb hl => ⟨hl, hb⟩) fun b hb _ => p.same b hb.1 (by have := memb_iff.1 hb.2; simp at this; omega)) fun b hb _ => ⟨(z.z b).2 (by have := memb_iff.1 hb.2; simpa using this), hb.1⟩
theorem Z1.rf {F : Nat → Prop} {os : List Nat} {s0 s : St} (z : Z1 F os s0) (p : Kp s0 s) {α : Type} {K : Kd α} {cs : List Value} {x : α} (h : RdF K s0 cs x [0]) : FRF K F s0.w s.w cs x :=
  K.rd_mono (K.rd_frame (F := fun b => b < s0.w.heap.size ∧ memb [0] (s0.g b) = true) (K.rd_mono h fun b hb hl => ⟨hl, hb⟩) fun b hb _ => p.same b hb.1 (by have := memb_iff.1 hb.2; simp at this; omega)) fun b hb _ => ⟨(z.z b).2 (by have := memb_iff.1 hb.2; simpa using this), hb.1⟩
end Go.Proofs.YtcagjdngannneaaGreat.V
