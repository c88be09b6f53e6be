
import Derived.Test.YtcagjdngannneaaGreatVu
set_option linter.unusedVariables false
set_option linter.unusedSimpArgs false
namespace Go.Proofs.YtcagjdngannneaaGreat.V
open Go
theorem RdF.kyo {α : Type} {K : Kd α} {s : St} {cs : List Value} {x : α} {C os : List Nat} {w' : World} {p : Nat} (h : RdF K s cs x C) (hc : ∀ b ∈ os, s.g b = p) (k : Ky os s.w w') (d : memb C p = false) : K.rd w' cs x (fun _ => True) :=
  K.rd_mono (K.rd_frame h fun b hb hl => k.same b hl fun hm => by rw [hc b hm] at hb; rw [hb] at d; cases d) fun _ _ _ => trivial
theorem BlF.kyo {s : St} {b c : Nat} {t : TypeId} {cs : List Value} {os : List Nat} {w' : World} {p : Nat} (h : BlF s b t cs c) (hc : ∀ b ∈ os, s.g b = p) (k : Ky os s.w w') (d : Nat.beq p c = false) : BlW w' b t cs := by
  have hl : b < s.w.heap.size := (Array.getElem?_eq_some_iff.1 h.1).1
  have := k.same b hl fun hm => by
    have h1 := hc b hm
    rw [h.2] at h1
    rw [h1, Nat.beq_refl] at d; cases d
  exact this.trans h.1
structure Pk (β : Type) where
  cs : List Value
  x : β
instance {β : Type} [Inhabited β] : Inhabited (Pk β) := ⟨⟨[], default⟩⟩
end Go.Proofs.YtcagjdngannneaaGreat.V
