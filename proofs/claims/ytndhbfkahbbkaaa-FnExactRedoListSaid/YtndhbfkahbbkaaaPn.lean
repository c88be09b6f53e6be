/- Plain laws: records marked. -/
import Derived.Test.YtndhbfkahbbkaaaPm
set_option linter.unusedVariables false
set_option linter.unusedSimpArgs false
namespace Go.Proofs.Ytndhbfkahbbkaaa
open Go V
theorem at_set {α : Type} [Inhabited α] (l : List α) (i : Nat) (v : α) (h : i < l.length) : at_ (l.set i v) (i : Int) = v := by
  rw [at_nat _ _ (by rw [List.length_set]; exact h)]; simp
theorem markRecordS (a : List Record) (x : Int) (h0 : 0 ≤ x) (h1 : x ≤ 100000000000) (h : a.length ≤ 10000000000) (hs : dsum a ≤ 10000000000) : ∃ r l, laws_markRecordS.f a x = some (r, l) ∧ 0 ≤ r := by
  unfold laws_markRecordS.f
  have key : ∀ (m i : Nat) (x : Int) (l : List Record), i + m = l.length → 0 ≤ x → x + 5 * (m : Int) + (dsum (l.drop i) : Int) ≤ 200000000000 → l.length ≤ 10000000000 → ∃ r l', iter laws_markRecordS.b0 (l, x, (i : Int)) = some (r, l') ∧ 0 ≤ r := by
    intro m
    induction m with
    | zero =>
      intro i x l hi h0 h1 hl
      have hb : laws_markRecordS.b0 (l, x, (i : Int)) = some (.inr (x, l)) := by
        unfold laws_markRecordS.b0
        simp only []
        rw [if_neg (by simp; omega)]; rfl
      rw [iter_eq, hb]
      exact ⟨x, l, rfl, h0⟩
    | succ m ih =>
      intro i x l hi h0 h1 hl
      have hk : i < l.length := by omega
      have hd : l.drop i = l[i] :: l.drop (i + 1) := List.drop_eq_getElem_cons hk
      rw [hd] at h1
      simp only [dsum, List.map_cons, List.sum_cons] at h1
      have hm := markByteS l[i].Data (x + 1 + 1 + 1 + 1 + 1) (by omega) (by omega) (by omega)
      have hb : ∃ l', laws_markRecordS.b0 (l, x, (i : Int)) = some (.inl (l', x + 5 + (l[i].Data.length : Int), ((i + 1 : Nat) : Int))) ∧ l'.length = l.length ∧ l'.drop (i + 1) = l.drop (i + 1) := by
        unfold laws_markRecordS.b0
        have g : (0 : Int) ≤ (i : Int) ∧ (i : Int) < (l.length : Int) := ⟨by omega, by omega⟩
        have e : (i : Int) + 1 = ((i + 1 : Nat) : Int) := by omega
        have ha : ∀ v : Record, at_ (l.set i v) (i : Int) = v := fun v => at_set l i v hk
        have e5 : x + 1 + 1 + 1 + 1 + 1 + (l[i].Data.length : Int) = x + 5 + (l[i].Data.length : Int) := by omega
        rw [if_pos (by simp; omega)]
        simp only [if_pos g, Option.bind_some, Int.toNat_natCast, List.length_set, ha, List.set_set, at_nat l i hk]
        rw [w64 (n := x + 1) (by omega) (by omega), w64 (n := x + 1 + 1) (by omega) (by omega), w64 (n := x + 1 + 1 + 1) (by omega) (by omega), w64 (n := x + 1 + 1 + 1 + 1) (by omega) (by omega), w64 (n := x + 1 + 1 + 1 + 1 + 1) (by omega) (by omega), hm]
        simp only [Option.bind_some]
        rw [w64 (by omega) (by omega), e, e5]
        refine ⟨_, rfl, by rw [List.length_set], ?_⟩
        rw [List.drop_set_of_lt (by omega)]
      obtain ⟨l', hb, hl', hd'⟩ := hb
      rw [iter_eq, hb]
      simp only [Option.bind_some]
      refine ih (i + 1) _ l' (by omega) (by omega) ?_ (by omega)
      rw [hd']
      simp only [dsum]
      omega
  refine key a.length 0 x a (by omega) h0 ?_ h
  rw [List.drop_zero]; omega
end Go.Proofs.Ytndhbfkahbbkaaa
