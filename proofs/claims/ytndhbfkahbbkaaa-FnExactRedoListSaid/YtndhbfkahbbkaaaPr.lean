/- Plain laws: the statuses that records leave: the program's answer is the reference's. -/
import Derived.Test.YtndhbfkahbbkaaaPq
set_option linter.unusedVariables false
set_option linter.unusedSimpArgs false
namespace Go.Proofs.Ytndhbfkahbbkaaa
open Go V
theorem rin_iff {a b c : Int} : rin a b c = true ↔ b ≤ a ∧ a ≤ c := by simp [rin]
theorem statusSet_some (a : List Int) (x v : Int) (ha : a.length ≤ 401) (hx : 1 ≤ x ∧ x ≤ 400) (hv : 0 ≤ v ∧ v ≤ 2) : ∃ l, spec_StatusSet.f a x v = some (l, true) ∧ l.length ≤ 401 := by
  unfold spec_StatusSet.f
  simp only [in_rin, Option.bind_some]
  have h1 : rin x 1 400 = true := rin_iff.2 hx
  have h2 : rin v 0 2 = true := rin_iff.2 hv
  rw [if_neg (by simp; omega)]
  simp only [h1, h2, Bool.not_true, Option.bind_some, Bool.false_eq_true, if_false]
  rw [if_pos (by simp [Lim]; omega), List.nil_append]
  have key : ∀ (m : Nat) (l : List Int), l.length ≤ 401 → x.toNat + 1 - l.length = m → ∃ l', iter (spec_StatusSet.b0 x v) l = some (l', true) ∧ l'.length ≤ 401 := by
    intro m
    induction m with
    | zero =>
      intro l hl hm
      have hb : spec_StatusSet.b0 x v l = some (.inr (l.set x.toNat v, true)) := by
        unfold spec_StatusSet.b0
        rw [if_neg (by simp; omega), if_pos ⟨by omega, by omega⟩]; rfl
      rw [iter_eq, hb]
      exact ⟨_, rfl, by rw [List.length_set]; exact hl⟩
    | succ m ih =>
      intro l hl hm
      have hb : spec_StatusSet.b0 x v l = some (.inl (l ++ [0])) := by
        unfold spec_StatusSet.b0
        rw [if_pos (by simp; omega), if_pos (by simp [Lim]; omega)]
      rw [iter_eq, hb]
      exact ih (l ++ [0]) (by simp; omega) (by simp; omega)
  exact key _ a ha rfl
theorem rok_xid {r : Record} (h : ROK r = true) : 0 ≤ r.Xid ∧ r.Xid ≤ 400 ∧ (r.Kind = 5 → 1 ≤ r.Xid) := by
  unfold ROK at h
  by_cases k1 : r.Kind = 1
  · simp [k1] at h ⊢; omega
  · by_cases k2 : r.Kind = 2
    · simp [k1, k2, rin] at h ⊢; omega
    · by_cases k3 : r.Kind = 3
      · simp [k1, k2, k3, rin] at h ⊢; omega
      · by_cases k4 : r.Kind = 4
        · simp [k1, k2, k3, k4, rin] at h ⊢; omega
        · by_cases k5 : r.Kind = 5
          · simp [k1, k2, k3, k4, k5, rin] at h ⊢; omega
          · simp [k1, k2, k3, k4, k5] at h
theorem ss_le (a : List Int) (n : Int) (h : n ≤ 401) : (SS a n).length ≤ 401 := by
  unfold SS
  split
  · simp; omega
  · simp
theorem redo_loop (a1 : List Record) (ha : a1.length ≤ 1000000000000) : ∀ (m i : Nat) (n : Int) (o : List Int), i + m = a1.length → 1 ≤ n → n ≤ 401 → o.length ≤ 401 →
    ∃ R : List Int × Int, R.1.length ≤ 401 ∧ ((a1.drop i).all ROK = true → iter (spec_RedoList.b0 a1) (n, o, (i : Int)) = some R ∧ iter (impl_RedoList.b0 a1) (n, o, (i : Int)) = some R) ∧
      ((a1.drop i).all ROK = false → iter (spec_RedoList.b0 a1) (n, o, (i : Int)) = some ([], 0)) := by
  intro m
  induction m with
  | zero =>
    intro i n o hi h1 h2 ho
    refine ⟨(SS o n, n), ss_le o n h2, fun _ => ⟨?_, ?_⟩, fun h => ?_⟩
    · rw [iter_eq]; unfold spec_RedoList.b0
      rw [if_neg (by simp; omega), spec_StatusSettle]; rfl
    · rw [iter_eq]; unfold impl_RedoList.b0
      rw [if_neg (by simp; omega), impl_StatusSettle]; rfl
    · rw [List.drop_eq_nil_of_le (by omega)] at h; cases h
  | succ m ih =>
    intro i n o hi h1 h2 ho
    have hk : i < a1.length := by omega
    have e : (i : Int) + 1 = ((i + 1 : Nat) : Int) := by omega
    have g : (0 : Int) ≤ (i : Int) ∧ (i : Int) < (a1.length : Int) := ⟨by omega, by omega⟩
    have hd : a1.drop i = a1[i] :: a1.drop (i + 1) := List.drop_eq_getElem_cons hk
    cases hr : ROK a1[i] with
    | false =>
      refine ⟨([], 0), by simp, fun h => ?_, fun _ => ?_⟩
      · rw [hd, List.all_cons, hr] at h; cases h
      · rw [iter_eq]; unfold spec_RedoList.b0
        simp only [if_pos g, at_nat a1 i hk, spec_RecordOk, hr, Option.bind_some]
        rw [if_pos (by simp; omega)]; rfl
    | true =>
      obtain ⟨x0, x1, x5⟩ := rok_xid hr
      have hall : (a1.drop i).all ROK = (a1.drop (i + 1)).all ROK := by rw [hd, List.all_cons, hr, Bool.true_and]
      have hn : ∃ n', 1 ≤ n' ∧ n' ≤ 401 ∧ (if (decide (a1[i].Xid ≥ n)) = true then some (IntKind.wrap .i64 (a1[i].Xid + 1)) else some n) = some n' ∧ (if (IntKind.wrap .i64 (a1[i].Xid + 1)) > n then (IntKind.wrap .i64 (a1[i].Xid + 1)) else n) = n' := by
        rw [w64 (by omega) (by omega)]
        by_cases hx : a1[i].Xid ≥ n
        · exact ⟨a1[i].Xid + 1, by omega, by omega, by rw [if_pos (by simpa using hx)], by rw [if_pos (by omega)]⟩
        · exact ⟨n, by omega, by omega, by rw [if_neg (by simpa using hx)], by rw [if_neg (by omega)]⟩
      obtain ⟨n', n1, n2, e1, e2⟩ := hn
      have hs : ∃ o', o'.length ≤ 401 ∧ (if (a1[i].Kind == (5 : Int)) = true then ((spec_StatusSet.f o a1[i].Xid 1).bind fun r50 => some r50.1) else some o) = some o' := by
        by_cases hk5 : a1[i].Kind = 5
        · obtain ⟨l, el, hl⟩ := statusSet_some o a1[i].Xid 1 ho ⟨x5 hk5, x1⟩ (by omega)
          exact ⟨l, hl, by rw [if_pos (by simpa using hk5), el]; rfl⟩
        · exact ⟨o, ho, by rw [if_neg (by simpa using hk5)]⟩
      obtain ⟨o', ho', eo⟩ := hs
      have b1 : spec_RedoList.b0 a1 (n, o, (i : Int)) = some (.inl (n', o', ((i + 1 : Nat) : Int))) := by
        unfold spec_RedoList.b0
        simp only [if_pos g, at_nat a1 i hk, spec_RecordOk, hr, Option.bind_some]
        rw [if_pos (by simp; omega), if_neg (by decide), e1, Option.bind_some, eo, Option.bind_some, w64 (by omega) (by omega), e]
      have b2 : impl_RedoList.b0 a1 (n, o, (i : Int)) = some (.inl (n', o', ((i + 1 : Nat) : Int))) := by
        unfold impl_RedoList.b0
        simp only [if_pos g, at_nat a1 i hk, statusSet_eq]
        rw [if_pos (by simp; omega), eo, Option.bind_some, e2, w64 (by omega) (by omega), e]
      obtain ⟨R, hR, p, q⟩ := ih (i + 1) n' o' (by omega) n1 n2 ho'
      refine ⟨R, hR, fun h => ?_, fun h => ?_⟩
      · rw [hall] at h
        rw [iter_eq, b1, iter_eq (impl_RedoList.b0 a1), b2]
        exact p h
      · rw [hall] at h
        rw [iter_eq, b1]
        exact q h
theorem redoList (a0 : List Int) (a1 : List Record) (a2 : Int) (h : a1.length ≤ 1000000000000) : ∃ R : List Int × Int, R.1.length ≤ 401 ∧ spec_RedoList.f a0 a1 a2 = some R ∧ impl_RedoList.f a0 a1 a2 = some R := by
  unfold spec_RedoList.f impl_RedoList.f
  simp only [in_rin, within_rin, Option.bind_some]
  by_cases hl : (a0.length : Int) > 401
  · rw [if_pos (by simpa using hl)]
    exact ⟨([], 0), by simp, rfl, rfl⟩
  · rw [if_neg (by simpa using hl)]
    cases hr : rin a2 1 401 with
    | false => exact ⟨([], 0), by simp, rfl, rfl⟩
    | true =>
      have := rin_iff.1 hr
      simp only [Bool.not_true, Option.bind_some, Bool.false_eq_true, if_false]
      rw [areAllRecord a1 impl_RecordOk.f ROK h (fun x _ => impl_RecordOk x)]
      obtain ⟨R, hR, p, q⟩ := redo_loop a1 h a1.length 0 a2 a0 (by omega) (by omega) (by omega) (by omega)
      rw [List.drop_zero] at p q
      rw [if_pos (by simp [Lim]; omega), List.nil_append]
      cases ha : a1.all ROK with
      | true => exact ⟨R, hR, (p ha).1, (p ha).2⟩
      | false => exact ⟨([], 0), by simp, q ha, rfl⟩
end Go.Proofs.Ytndhbfkahbbkaaa
