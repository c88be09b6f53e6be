
import Derived.Test.YtcagjdngannneaaVD
set_option linter.unusedVariables false
set_option linter.unusedSimpArgs false
namespace Go.Proofs.Ytcagjdngannneaa.V
open Go
def cov : List Nat → List Nat → List Nat → Bool
  | [], _, _ => true
  | c :: D, E, C => (memb E c || memb C c) && cov D E C
theorem cov_out {D E C : List Nat} (h : cov D E C = true) {n : Nat} (hn : memb D n = true) : memb E n = true ∨ memb C n = true := by
  induction D with
  | nil => cases hn
  | cons c D ih =>
    simp only [cov, Bool.and_eq_true, Bool.or_eq_true] at h
    simp only [memb, Bool.or_eq_true] at hn
    rcases hn with hn | hn
    · have := Nat.eq_of_beq_eq_true hn
      subst this; exact h.1
    · exact ih h.2 hn
structure Rc (E : List Nat) (q : Nat) (s s' : St) : Prop where
  w : s.w = s'.w
  inn : ∀ b, memb E (s.g b) = true → s'.g b = q
  out : ∀ b, memb E (s.g b) = false → s'.g b = s.g b
theorem RdF.rc {α : Type} {K : Kd α} {s s' : St} {cs : List Value} {x : α} {D E C : List Nat} {q : Nat} (h : RdF K s cs x D) (r : Rc E q s s') (hq : memb C q = true) (hc : cov D E C = true) : RdF K s' cs x C := by
  unfold RdF at h ⊢
  rw [← r.w]
  refine K.rd_mono h fun b hb _ => ?_
  rcases cov_out hc hb with h1 | h1
  · rw [r.inn b h1]; exact hq
  · cases hm : memb E (s.g b) with
    | true => rw [r.inn b hm]; exact hq
    | false => rw [r.out b hm]; exact h1
end Go.Proofs.Ytcagjdngannneaa.V
