/- FnExactRedoList's model is true at every input. -/
import Derived.Test.YtndhbfkahbbkaaaPr
set_option linter.unusedVariables false
set_option linter.unusedSimpArgs false
namespace Go.Proofs.Ytndhbfkahbbkaaa
open Go V
theorem laws_FnExactRedoList_true (a0 : (List Int)) (a1 : (List Record)) (a2 : Int) (h0 : (a0.length ≤ maxLen ∧ ∀ y ∈ a0, InK .i64 y)) (h1 : (a1.length ≤ maxLen ∧ ∀ y ∈ a1, ok_Record y)) (h2 : InK .i64 a2) : laws_FnExactRedoList.f a0 a1 a2 = some true := by
  unfold laws_FnExactRedoList.f
  by_cases hb : (a0.length : Int) > 1048576
  · rw [if_pos (by simpa using hb)]
  · rw [if_neg (by simpa using hb)]
    obtain ⟨r, er, hr⟩ := szRecordS a1 1048576 h1.1 (fun x hx => (h1.2 x hx).2.2.2.2.2.1) (by omega) (by omega)
    rw [er, Option.bind_some]
    by_cases hneg : r < 0
    · rw [if_pos (by simpa using hneg)]
    · rw [if_neg (by simpa using hneg)]
      have hs := hr (by omega)
      have hd := dsum_mem a1
      obtain ⟨R, hR, es, ei⟩ := redoList a0 a1 a2 (by omega)
      have hm := markIntS R.1 1 (by omega) (by omega) (by omega)
      have hm0 := markIntS a0 1 (by omega) (by omega) (by omega)
      obtain ⟨q, l, hm1, hq⟩ := markRecordS a1 (1 + (a0.length : Int)) (by omega) (by omega) (by omega) (by omega)
      have hh := heldIntS 1 R.1.length (by omega) (by omega) (by omega)
      have t0 := toIntS a0 (by omega)
      have t1 := toRecordS a1 (by omega) (fun x hx => by have := hd x hx; omega)
      have q0 := eqIntS a0 a0 (by simp only [maxLen]; omega)
      have q1 := eqRecordS a1 a1 h1.1 (fun x hx => (h1.2 x hx).2.2.2.2.2.1)
      have q2 := eqIntS R.1 R.1 (by simp only [maxLen]; omega)
      simp only [t0, t1, es, ei, q0, q1, q2, hm0, hm1, hm, hh, Option.bind_some]
      have n1 : ¬ q < 0 := by omega
      have n2 : ¬ (1 + (R.1.length : Int) < 0) := by omega
      simp [n1, n2]
end Go.Proofs.Ytndhbfkahbbkaaa
