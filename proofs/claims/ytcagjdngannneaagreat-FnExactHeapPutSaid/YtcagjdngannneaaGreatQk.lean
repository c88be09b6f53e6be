
import Derived.Test.YtcagjdngannneaaGreatQj
set_option linter.unusedVariables false
set_option linter.unusedSimpArgs false
set_option linter.unusedSectionVars false
namespace Go.Proofs.YtcagjdngannneaaGreat
open Go V Ieee

theorem iter_scanG {S O : Type} {body : S → Option (S ⊕ O)} (n : Nat) (st : Nat → S) (t : Nat → Bool) (o1 : Nat → O) (o2 : O) (h : ∀ k, k < n → body (st k) = if t k = true then some (.inl (st (k + 1))) else some (.inr (o1 k))) (hn : body (st n) = some (.inr o2)) :
    ((List.range n).all t = true ∧ iter body (st 0) = some o2) ∨ ((List.range n).all t = false ∧ ∃ k, k < n ∧ iter body (st 0) = some (o1 k)) := by
  have key : ∀ m, m ≤ n → (((List.range' (n - m) m).all t = true ∧ iter body (st (n - m)) = some o2) ∨ ((List.range' (n - m) m).all t = false ∧ ∃ k, k < n ∧ iter body (st (n - m)) = some (o1 k))) := by
    intro m
    induction m with
    | zero => intro _; left; exact ⟨rfl, by rw [iter_eq, Nat.sub_zero, hn]; rfl⟩
    | succ m ih =>
      intro hm
      have hb := h (n - (m + 1)) (by omega)
      rw [List.range'_succ, List.all_cons, show n - (m + 1) + 1 = n - m by omega] at *
      cases ht : t (n - (m + 1)) with
      | false =>
        right
        refine ⟨rfl, n - (m + 1), by omega, ?_⟩
        rw [ht, if_neg (by decide)] at hb
        exact iter_r hb
      | true =>
        rw [ht, if_pos rfl] at hb
        rw [iter_l hb, Bool.true_and]
        exact ih (by omega)
  have := key n (Nat.le_refl _)
  rw [Nat.sub_self] at this
  rw [List.range_eq_range']
  exact this
theorem iter_scan {S O : Type} {body : S → Option (S ⊕ O)} (n : Nat) (st : Nat → S) (t : Nat → Bool) (o1 o2 : O) (h : ∀ k, k < n → body (st k) = if t k = true then some (.inl (st (k + 1))) else some (.inr o1)) (hn : body (st n) = some (.inr o2)) :
    iter body (st 0) = some (if (List.range n).all t = true then o2 else o1) := by
  rcases iter_scanG n st t (fun _ => o1) o2 h hn with ⟨a, e⟩ | ⟨a, _, _, e⟩
  · rw [e, a]; rfl
  · rw [e, a]; rfl
theorem all_range {α : Type} (xs : List α) (f : α → Bool) (t : Nat → Bool) (h : ∀ k (hk : k < xs.length), t k = f xs[k]) : (List.range xs.length).all t = xs.all f := by
  rw [Bool.eq_iff_iff, List.all_eq_true, List.all_eq_true]
  constructor
  · intro ha x hx
    obtain ⟨k, hk, rfl⟩ := List.mem_iff_getElem.1 hx
    rw [← h k hk]; exact ha k (List.mem_range.2 hk)
  · intro ha k hk
    rw [h k (List.mem_range.1 hk)]; exact ha _ (List.getElem_mem _)

def okB (b : List Int) : Prop := b.length ≤ 1048576 ∧ ∀ x ∈ b, InK .u8 x
def okP (p : Page) : Prop := InK .i64 p.Lsn ∧ p.Slots.length ≤ 1048576 ∧ ∀ b ∈ p.Slots, okB b
def okH (h : Heap) : Prop := h.Pages.length ≤ 1048576 ∧ ∀ p ∈ h.Pages, okP p

def lsum (l : List (List Int)) : Nat := (l.map List.length).sum
theorem lsum_nil : lsum [] = 0 := rfl
theorem lsum_cons (x : List Int) (l : List (List Int)) : lsum (x :: l) = x.length + lsum l := by simp [lsum]
theorem lsum_app (a b : List (List Int)) : lsum (a ++ b) = lsum a + lsum b := by simp [lsum]
theorem lsum_le (c : Nat) (l : List (List Int)) (h : ∀ b ∈ l, b.length ≤ c) : lsum l ≤ c * l.length := by
  induction l with
  | nil => simp [lsum]
  | cons x l ih =>
    rw [lsum_cons, List.length_cons, Nat.mul_succ]
    have := h x (by simp)
    have := ih fun b hb => h b (by simp [hb])
    omega
theorem lsum_take (l : List (List Int)) (k : Nat) (h : k < l.length) : lsum (l.take (k + 1)) = lsum (l.take k) + l[k].length := by
  rw [List.take_succ_eq_append_getElem h, lsum_app, lsum_cons, lsum_nil]; omega
def PG (p : Page) : Bool := rin p.Lsn 0 1000000 && decide (p.Slots.length ≤ 16) && p.Slots.all (fun b => decide (b.length ≤ 92)) && !(decide (p.Slots.getLast? = some [])) && decide (1 + p.Slots.length + lsum p.Slots ≤ 240)
def PU (p : Page) : Int := if PG p = true then ((1 + p.Slots.length + lsum p.Slots : Nat) : Int) else -1
theorem pu_neg (p : Page) : decide (PU p < 0) = !PG p := by
  unfold PU
  cases PG p with
  | true => rw [if_pos rfl]; simp; omega
  | false => rfl
theorem pu_ge (p : Page) : decide (PU p ≥ 0) = PG p := by
  unfold PU
  cases PG p with
  | true => rw [if_pos rfl]; simp; omega
  | false => rfl
theorem last_at (l : List (List Int)) (h : 0 < l.length) : (((at_ l ((l.length : Int) - 1)).length : Int) == 0) = decide (l.getLast? = some []) := by
  have e : ((l.length : Int) - 1) = ((l.length - 1 : Nat) : Int) := by omega
  rw [e, at_nat l (l.length - 1) (by omega), List.getLast?_eq_getElem?, List.getElem?_eq_getElem (by omega)]
  generalize l[l.length - 1] = x
  cases x with
  | nil => rfl
  | cons a l => simp; omega
section
variable (p : Page) (hp : okP p)
include hp
theorem pu_step (hn : p.Slots.length ≤ 16) (k : Nat) (hk : k < p.Slots.length) : IntKind.wrap .i64 (((1 + p.Slots.length + lsum (p.Slots.take k) : Nat) : Int) + ((p.Slots[k]).length : Int)) = ((1 + p.Slots.length + lsum (p.Slots.take (k + 1)) : Nat) : Int) := by
  have h1 := lsum_le 1048576 (p.Slots.take k) (fun b hb => (hp.2.2 b (List.mem_of_mem_take hb)).1)
  have h2 := (hp.2.2 _ (List.getElem_mem hk)).1
  have h3 : (p.Slots.take k).length ≤ 16 := by simp; omega
  rw [lsum_take _ k hk, w64 (by omega) (by omega)]
  omega
theorem impl_PageUsed : impl_PageUsed.f p = some (PU p) := by
  unfold impl_PageUsed.f PU PG
  rw [within_rin, Option.bind_some]
  cases hr : rin p.Lsn 0 1000000 with
  | false => rfl
  | true =>
    by_cases hn : p.Slots.length ≤ 16
    · have hst : (IntKind.wrap .i64 ((1 : Int) + (p.Slots.length : Int)), (0 : Int)) = (((1 + p.Slots.length + lsum (p.Slots.take 0) : Nat) : Int), ((0 : Nat) : Int)) := by
        rw [w64 (by omega) (by omega)]; simp [lsum]
      rw [if_neg (by simp; omega), hst]
      rw [iter_scan p.Slots.length (fun k => (((1 + p.Slots.length + lsum (p.Slots.take k) : Nat) : Int), (k : Int))) (fun k => decide ((at_ p.Slots (k : Int)).length ≤ 92)) (-1) (if (decide (1 + p.Slots.length + lsum p.Slots ≤ 240) && !(decide (p.Slots.getLast? = some []))) = true then ((1 + p.Slots.length + lsum p.Slots : Nat) : Int) else -1)]
      · rw [all_range p.Slots (fun b => decide (b.length ≤ 92)) _ (fun k hk => by rw [at_nat _ k hk])]
        cases p.Slots.all (fun b => decide (b.length ≤ 92)) <;> cases decide (p.Slots.getLast? = some []) <;> simp [hn]
      · intro k hk
        unfold impl_PageUsed.b0
        simp only []
        rw [if_pos (by simp; omega), if_pos ⟨by omega, by omega⟩, at_nat _ k hk]
        by_cases hc : (p.Slots[k]).length ≤ 92
        · rw [if_neg (by simp; omega), if_pos (decide_eq_true hc), pu_step p hp hn k hk, w64 (by omega) (by omega)]; rfl
        · rw [if_pos (by simp; omega), if_neg (by rw [decide_eq_false hc]; decide)]
      · unfold impl_PageUsed.b0
        simp only []
        rw [if_neg (by simp), List.take_length]
        by_cases hs : 1 + p.Slots.length + lsum p.Slots ≤ 240
        · rw [if_neg (by simp; omega)]
          by_cases h0 : 0 < p.Slots.length
          · rw [if_pos (by simp; omega), w64 (by omega) (by omega), if_pos ⟨by omega, by omega⟩, last_at _ h0]
            cases decide (p.Slots.getLast? = some []) <;> simp [hs]
          · have : p.Slots = [] := by cases hq : p.Slots with | nil => rfl | cons a l => rw [hq] at h0; simp at h0
            rw [if_neg (by simp; omega), this]; rfl
        · rw [if_pos (by simp; omega), if_neg (by simp; omega)]; rfl
    · rw [if_pos (by simp; omega), if_neg (by simp; omega)]
theorem spec_PageUsed : spec_PageUsed.f p = some (PU p) := by
  unfold spec_PageUsed.f PU PG
  rw [in_rin, Option.bind_some]
  cases hr : rin p.Lsn 0 1000000 with
  | false => rfl
  | true =>
    by_cases hn : p.Slots.length ≤ 16
    · have hst : (IntKind.wrap .i64 ((1 : Int) + (p.Slots.length : Int)), (0 : Int)) = (((1 + p.Slots.length + lsum (p.Slots.take 0) : Nat) : Int), ((0 : Nat) : Int)) := by
        rw [w64 (by omega) (by omega)]; simp [lsum]
      rw [if_neg (by simp; omega), hst]
      rw [iter_scan p.Slots.length (fun k => (((1 + p.Slots.length + lsum (p.Slots.take k) : Nat) : Int), (k : Int))) (fun k => decide ((at_ p.Slots (k : Int)).length ≤ 92)) (-1) (if (decide (1 + p.Slots.length + lsum p.Slots ≤ 240) && !(decide (p.Slots.getLast? = some []))) = true then ((1 + p.Slots.length + lsum p.Slots : Nat) : Int) else -1)]
      · rw [all_range p.Slots (fun b => decide (b.length ≤ 92)) _ (fun k hk => by rw [at_nat _ k hk])]
        cases p.Slots.all (fun b => decide (b.length ≤ 92)) <;> cases decide (p.Slots.getLast? = some []) <;> simp [hn]
      · intro k hk
        unfold spec_PageUsed.b0
        simp only []
        rw [if_pos (by simp; omega), if_pos ⟨by omega, by omega⟩, at_nat _ k hk]
        by_cases hc : (p.Slots[k]).length ≤ 92
        · rw [if_neg (by simp; omega), if_pos ⟨by omega, by omega⟩, if_pos (decide_eq_true hc), pu_step p hp hn k hk, w64 (by omega) (by omega)]; rfl
        · rw [if_pos (by simp; omega), if_neg (by rw [decide_eq_false hc]; decide)]
      · unfold spec_PageUsed.b0
        simp only []
        rw [if_neg (by simp), List.take_length]
        by_cases h0 : 0 < p.Slots.length
        · rw [if_pos (by simp; omega), w64 (by omega) (by omega), if_pos ⟨by omega, by omega⟩, last_at _ h0]
          by_cases hs : 1 + p.Slots.length + lsum p.Slots ≤ 240
          · cases decide (p.Slots.getLast? = some []) with
            | true => simp [hs]
            | false => rw [Option.bind_some, if_neg (by decide), if_neg (by simp; omega)]; simp [hs]
          · rw [if_neg (c := (decide (1 + p.Slots.length + lsum p.Slots ≤ 240) && !(decide (p.Slots.getLast? = some []))) = true) (by simp; omega)]
            cases decide (p.Slots.getLast? = some []) with
            | true => simp
            | false => rw [Option.bind_some, if_neg (by decide), if_pos (by simp; omega)]; rfl
        · have : p.Slots = [] := by cases hq : p.Slots with | nil => rfl | cons a l => rw [hq] at h0; simp at h0
          rw [if_neg (by simp; omega), this]; rfl
    · rw [if_pos (by simp; omega), if_neg (by simp; omega)]
end
end Go.Proofs.YtcagjdngannneaaGreat
