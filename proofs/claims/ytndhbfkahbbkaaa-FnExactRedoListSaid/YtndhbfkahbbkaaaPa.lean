/- Plain laws: loops by their states told in a closed form; lists of bytes compared, marked, held. -/
import Derived.Test.YtndhbfkahbbkaaaXs
set_option linter.unusedVariables false
set_option linter.unusedSimpArgs false
namespace Go.Proofs.Ytndhbfkahbbkaaa
open Go V
theorem w64 {n : Int} (h0 : -9223372036854775808 ≤ n) (h1 : n ≤ 9223372036854775807) : IntKind.i64.wrap n = n := by
  rw [IntKind.wrap_i64]; omega
theorem iter_for {S O : Type} {body : S → Option (S ⊕ O)} (n : Nat) (st : Nat → S) (o : O) (h : ∀ k, k < n → body (st k) = some (.inl (st (k + 1)))) (hn : body (st n) = some (.inr o)) : iter body (st 0) = some o := by
  have key : ∀ m, m ≤ n → iter body (st (n - m)) = some o := by
    intro m
    induction m with
    | zero => intro _; rw [iter_eq, Nat.sub_zero, hn]; rfl
    | succ m ih =>
      intro hm
      rw [iter_eq, h (n - (m + 1)) (by omega)]
      simp only [Option.bind_some]
      rw [show n - (m + 1) + 1 = n - m by omega]
      exact ih (by omega)
  have := key n (Nat.le_refl _)
  rwa [Nat.sub_self] at this
/-- a loop that looks at each place, and stops with 'false' at the first that is wrong -/
theorem iter_all {body : Int → Option (Int ⊕ Bool)} (n : Nat) (t : Nat → Bool) (h : ∀ k, k < n → body k = if t k = true then some (.inl ((k : Int) + 1)) else some (.inr false)) (hn : body n = some (.inr true)) : iter body 0 = some ((List.range n).all t) := by
  have key : ∀ m, m ≤ n → iter body ((n - m : Nat) : Int) = some ((List.range' (n - m) m).all t) := by
    intro m
    induction m with
    | zero => intro _; rw [iter_eq, Nat.sub_zero, hn]; rfl
    | succ m ih =>
      intro hm
      rw [iter_eq, h (n - (m + 1)) (by omega), List.range'_succ, List.all_cons]
      cases ht : t (n - (m + 1)) with
      | false => simp
      | true =>
        simp only [if_true, Option.bind_some, Bool.true_and]
        have e := ih (by omega)
        rw [show n - (m + 1) + 1 = n - m by omega, ← e]
        congr 1
        omega
  have := key n (Nat.le_refl _)
  rw [Nat.sub_self] at this
  rw [List.range_eq_range']
  exact this
theorem at_nat {α : Type} [Inhabited α] (xs : List α) (k : Nat) (h : k < xs.length) : at_ xs (k : Int) = xs[k] := by
  rw [at_eq xs k (by simpa using h)]; simp
theorem all_eq {α : Type} [DecidableEq α] (a b : List α) (h : a.length = b.length) : ((List.range a.length).all fun k => decide (a[k]? = b[k]?)) = decide (a = b) := by
  by_cases e : a = b
  · subst e; simp
  · have : ¬ ∀ k, k < a.length → a[k]? = b[k]? := fun hk => e (List.ext_getElem? fun k => by
      by_cases hl : k < a.length
      · exact hk k hl
      · rw [List.getElem?_eq_none (by omega), List.getElem?_eq_none (by omega)])
    simp only [e, decide_false]
    cases hb : (List.range a.length).all fun k => decide (a[k]? = b[k]?) with
    | false => rfl
    | true =>
      exact absurd (fun k hk => by
        have := List.all_eq_true.1 hb k (List.mem_range.2 hk)
        simpa using this) this
theorem eqByteS (a b : List Int) (h : a.length ≤ maxLen) : laws_eqByteS.f a b = some (decide (a = b)) := by
  unfold laws_eqByteS.f
  simp only [maxLen] at h
  by_cases hl : a.length = b.length
  · have hne : ((a.length : Int) != (b.length : Int)) = false := by simp [hl]
    rw [hne, if_neg (by decide), ← all_eq a b hl]
    refine iter_all a.length _ (fun k hk => ?_) ?_
    · unfold laws_eqByteS.b0
      have h1 : (k : Int) < (a.length : Int) := by omega
      have h2 : (k : Int) < (b.length : Int) := by omega
      have h0 : (0 : Int) ≤ (k : Int) := by omega
      rw [if_pos (by simpa using h1), if_pos ⟨h0, h1⟩, if_pos ⟨h0, h2⟩, at_nat a k hk, at_nat b k (by omega), w64 (by omega) (by omega)]
      rw [List.getElem?_eq_getElem hk, List.getElem?_eq_getElem (by omega)]
      by_cases he : a[k] = b[k] <;> simp [he]
    · unfold laws_eqByteS.b0
      rw [if_neg (by simp)]; rfl
  · have hne : ((a.length : Int) != (b.length : Int)) = true := by simp; omega
    rw [hne, if_pos rfl]
    have : a ≠ b := fun e => hl (by rw [e])
    simp [this]
/-- what marking makes of a list of so many bytes -/
def markB (x : Int) (n : Nat) : List Int := (List.range n).map fun i : Nat => IntKind.wrap .u8 (x + (i : Int))
theorem markByteS (a : List Int) (x : Int) (h0 : 0 ≤ x) (h1 : x ≤ 1000000000000) (h : a.length ≤ 1000000000000) : laws_markByteS.f a x = some (x + (a.length : Int), markB x a.length) := by
  unfold laws_markByteS.f
  have hst : (a, x, (0 : Int)) = ((markB x 0 ++ a.drop 0, x + ((0 : Nat) : Int), ((0 : Nat) : Int)) : List Int × Int × Int) := by simp [markB]
  rw [hst]
  refine (iter_for a.length (fun k => (markB x k ++ a.drop k, x + (k : Int), (k : Int))) _ (fun k hk => ?_) ?_)
  · unfold laws_markByteS.b0
    have hlen : (markB x k ++ a.drop k).length = a.length := by simp [markB]; omega
    simp only [hlen]
    have h2 : (k : Int) < (a.length : Int) := by omega
    rw [if_pos (by simpa using h2), if_pos ⟨by omega, h2⟩, w64 (by omega) (by omega), w64 (by omega) (by omega)]
    have hset : (markB x k ++ a.drop k).set ((k : Int)).toNat (IntKind.wrap .u8 (x + (k : Int))) = markB x (k + 1) ++ a.drop (k + 1) := by
      rw [Int.toNat_natCast, List.set_append, if_neg (by simp [markB])]
      have hl : (markB x k).length = k := by simp [markB]
      rw [hl, Nat.sub_self]
      rw [List.drop_eq_getElem_cons hk, List.set_cons_zero]
      simp [markB, List.range_succ]
    rw [hset]
    have e1 : x + (k : Int) + 1 = x + ((k + 1 : Nat) : Int) := by omega
    have e2 : (k : Int) + 1 = ((k + 1 : Nat) : Int) := by omega
    rw [e1, e2]
  · unfold laws_markByteS.b0
    have hlen : (markB x a.length ++ a.drop a.length).length = a.length := by simp [markB]
    simp only [hlen]
    rw [if_neg (by simp)]
    simp
theorem heldByteS (x : Int) (n : Nat) (h0 : 0 ≤ x) (h1 : x ≤ 1000000000000) (h : n ≤ 1000000000000) : laws_heldByteS.f (markB x n) x = some (x + (n : Int)) := by
  unfold laws_heldByteS.f
  have hl : (markB x n).length = n := by simp [markB]
  have hst : (x, (0 : Int)) = ((x + ((0 : Nat) : Int), ((0 : Nat) : Int)) : Int × Int) := by simp
  rw [hst]
  refine (iter_for n (fun k => (x + (k : Int), (k : Int))) _ (fun k hk => ?_) ?_)
  · unfold laws_heldByteS.b0
    simp only [hl]
    have h2 : (k : Int) < (n : Int) := by omega
    rw [if_pos (by simpa using h2), if_pos ⟨by omega, h2⟩, at_nat _ k (by omega)]
    have : (markB x n)[k]'(by omega) = IntKind.wrap .u8 (x + (k : Int)) := by simp [markB]
    rw [this, if_neg (by simp), w64 (by omega) (by omega), w64 (by omega) (by omega)]
    have e1 : x + (k : Int) + 1 = x + ((k + 1 : Nat) : Int) := by omega
    have e2 : (k : Int) + 1 = ((k + 1 : Nat) : Int) := by omega
    rw [e1, e2]
  · unfold laws_heldByteS.b0
    simp only [hl]
    rw [if_neg (by simp)]
    simp
end Go.Proofs.Ytndhbfkahbbkaaa
