
import Derived.Test.YtcagjdngannneaaQa
import Derived.Test.YtcagjdngannneaaXs
set_option linter.unusedVariables false
set_option linter.unusedSimpArgs false
set_option linter.unusedSectionVars false
namespace Go.Proofs.Ytcagjdngannneaa
open Go V Ieee
theorem szByteS (a : List Int) (n : Int) (hl : a.length ≤ maxLen) (h0 : 0 ≤ n) (h1 : n ≤ 1048576) : Sz (laws_szByteS.f a n) n a.length := by
  simp only [maxLen] at hl
  unfold laws_szByteS.f
  rw [w64 (by omega) (by omega)]
  by_cases hneg : n - (a.length : Int) < 0
  · rw [if_pos (by simpa using hneg)]; exact ⟨-1, rfl, by omega, fun h => by omega⟩
  · rw [if_neg (by simpa using hneg)]; exact ⟨_, rfl, by omega, fun h => rfl⟩
theorem szItem (a : Item) (n : Int) (ha : ok_Item a) (h0 : 0 ≤ n) (h1 : n ≤ 1048576) : Sz (laws_szItem.f a n) n a.T.length := by
  unfold laws_szItem.f
  obtain ⟨r, er, hr, hr2⟩ := szByteS a.T n ha.2.2.2.1 h0 h1
  rw [er, Option.bind_some]
  by_cases hn : r < 0
  · rw [if_pos (by simpa using hn)]; exact ⟨-1, rfl, by omega, fun h => by omega⟩
  · rw [if_neg (by simpa using hn)]; exact ⟨r, rfl, hr, hr2⟩
theorem toByteS (a : List Int) (h : a.length ≤ 1048576) : laws_toByteS.f a = some a := by
  unfold laws_toByteS.f
  rw [if_pos ⟨by omega, by simp only [Lim]; omega⟩]
  refine toS_gen a 0 (fun l k hk hl => ?_) (fun l => ?_)
  · unfold laws_toByteS.b0
    simp only []
    rw [if_pos (by simp; omega), if_pos ⟨by omega, by omega⟩, if_pos ⟨by omega, by omega⟩, at_nat _ k hk, w64 (by omega) (by omega)]; rfl
  · unfold laws_toByteS.b0
    simp only []
    rw [if_neg (by simp)]; rfl
theorem toItem (a : Item) (h : a.T.length ≤ 1048576) : laws_toItem.f a = some a := by
  unfold laws_toItem.f
  rw [toByteS _ h]; rfl
theorem eqByteS (a : List Int) (h : a.length ≤ 1048576) : laws_eqByteS.f a a = some true := by
  unfold laws_eqByteS.f
  have := eqS_gen (body := laws_eqByteS.b0 a a) a a (fun k hk _ => by
    unfold laws_eqByteS.b0
    rw [if_pos (by simp; omega), if_pos ⟨by omega, by omega⟩, if_pos ⟨by omega, by omega⟩, at_nat _ k hk, w64 (by omega) (by omega)]
    simp) (by
    unfold laws_eqByteS.b0
    rw [if_neg (by simp)]; rfl)
  rw [this]; simp
theorem sameFloat (x : Nat) : laws_sameFloat.f x x = some true := by
  unfold laws_sameFloat.f
  have hbe : ∀ b : Bool, (b == b) = true := fun b => by cases b <;> rfl
  cases hb : fcmp .f64 x x != some .eq with
  | true => rfl
  | false =>
    have he : (fcmp .f64 x x == some .eq) = true := by
      have : (fcmp .f64 x x != some .eq) = !(fcmp .f64 x x == some .eq) := rfl
      rw [this] at hb
      cases hq : (fcmp .f64 x x == some .eq) with
      | true => rfl
      | false => rw [hq] at hb; cases hb
    rw [if_neg (by decide), he, hbe]
    split <;> rfl
theorem eqItem (a : Item) (h : a.T.length ≤ 1048576) : laws_eqItem.f a a = some true := by
  unfold laws_eqItem.f
  rw [if_neg (by simp), if_neg (by simp), sameFloat, Option.bind_some, if_neg (by decide), eqByteS _ h]; rfl
theorem wsum_one (a : List Int) : wsum (fun _ => 1) a = a.length := by
  induction a with
  | nil => rfl
  | cons x l ih => rw [wsum_cons, ih, List.length_cons]; omega
theorem markS_genP {α : Type} {mb : List α × Int × Int → Option ((List α × Int × Int) ⊕ (Int × List α))} {hb : List α → Int × Int → Option ((Int × Int) ⊕ Int)} {wt : α → Nat} (HE : α → Int → Nat → Prop) (P : α → Prop) (a : List α) (hP : ∀ y ∈ a, P y) (x : Int) (h0 : 0 ≤ x) (h1 : x + (wsum wt a : Int) ≤ 100000000000)
    (hm : ∀ (l : List α) (x : Int) (k : Nat) (hk : k < l.length), l.length = a.length → P l[k] → 0 ≤ x → x + (wt l[k] : Int) ≤ 100000000000 → ∃ e', mb (l, x, (k : Int)) = some (.inl (l.set k e', x + (wt l[k] : Int), (k : Int) + 1)) ∧ HE e' x (wt l[k]))
    (hmn : ∀ l x, l.length = a.length → mb (l, x, (l.length : Int)) = some (.inr (x, l)))
    (hh : ∀ (l : List α) (x : Int) (k n : Nat) (hk : k < l.length), l.length = a.length → HE l[k] x n → 0 ≤ x → x + (n : Int) ≤ 100000000000 → hb l (x, (k : Int)) = some (.inl (x + (n : Int), (k : Int) + 1)))
    (hhn : ∀ l x, l.length = a.length → hb l (x, (l.length : Int)) = some (.inr x)) :
    ∃ a', iter mb (a, x, (0 : Int)) = some (x + (wsum wt a : Int), a') ∧ a'.length = a.length ∧ iter (hb a') (x, (0 : Int)) = some (x + (wsum wt a : Int)) := by
  have key : ∀ (m i : Nat) (x : Int) (l : List α), i + m = l.length → l.length = a.length → (∀ y ∈ l.drop i, P y) → 0 ≤ x → x + (wsum wt (l.drop i) : Int) ≤ 100000000000 →
      ∃ l', iter mb (l, x, (i : Int)) = some (x + (wsum wt (l.drop i) : Int), l') ∧ l'.length = l.length ∧ (∀ j, j < i → l'[j]? = l[j]?) ∧ iter (hb l') (x, (i : Int)) = some (x + (wsum wt (l.drop i) : Int)) := by
    intro m
    induction m with
    | zero =>
      intro i x l hi hla hPl hx0 hx1
      have : i = l.length := by omega
      subst this
      rw [List.drop_length]
      refine ⟨l, ?_, rfl, fun _ _ => rfl, ?_⟩
      · rw [iter_r (hmn l x hla)]; simp [wsum]
      · rw [iter_r (hhn l x hla)]; simp [wsum]
    | succ m ih =>
      intro i x l hi hla hPl hx0 hx1
      have hk : i < l.length := by omega
      have hd : l.drop i = l[i] :: l.drop (i + 1) := List.drop_eq_getElem_cons hk
      rw [hd] at hPl
      rw [hd, wsum_cons] at hx1 ⊢
      obtain ⟨e', hmb, hE⟩ := hm l x i hk hla (hPl _ List.mem_cons_self) hx0 (by omega)
      have e : (i : Int) + 1 = ((i + 1 : Nat) : Int) := by omega
      have hds : (l.set i e').drop (i + 1) = l.drop (i + 1) := List.drop_set_of_lt (by omega)
      obtain ⟨l', h1', h2', h3', h4'⟩ := ih (i + 1) (x + (wt l[i] : Int)) (l.set i e') (by rw [List.length_set]; omega) (by rw [List.length_set]; exact hla) (by rw [hds]; exact fun y hy => hPl y (List.mem_cons_of_mem _ hy)) (by omega) (by rw [hds]; omega)
      rw [hds] at h1' h4'
      rw [List.length_set] at h2'
      have hi' : i < l'.length := by omega
      have hli : l'[i] = e' := by
        have := h3' i (by omega)
        rw [List.getElem?_eq_getElem hi', List.getElem?_set_self hk] at this
        exact Option.some.inj this
      have hsum : x + (wt l[i] : Int) + (wsum wt (l.drop (i + 1)) : Int) = x + ((wt l[i] + wsum wt (l.drop (i + 1)) : Nat) : Int) := by omega
      refine ⟨l', ?_, h2', fun j hj => ?_, ?_⟩
      · rw [iter_l hmb, e, h1', hsum]
      · rw [h3' j (by omega), List.getElem?_set_ne (by omega)]
      · rw [iter_l (hh l' x i (wt l[i]) hi' (by omega) (by rw [hli]; exact hE) hx0 (by omega)), e, h4', hsum]
  obtain ⟨l', h1', h2', _, h4'⟩ := key a.length 0 x a (by omega) rfl (by rw [List.drop_zero]; exact hP) h0 (by rw [List.drop_zero]; exact h1)
  rw [List.drop_zero] at h1' h4'
  exact ⟨l', h1', h2', h4'⟩
theorem markByteS (a : List Int) (x : Int) (h0 : 0 ≤ x) (h1 : x + (a.length : Int) ≤ 100000000000) : ∃ a', laws_markByteS.f a x = some (x + (a.length : Int), a') ∧ a'.length = a.length ∧ laws_heldByteS.f a' x = some (x + (a.length : Int)) := by
  have := markS_gen (mb := laws_markByteS.b0) (hb := laws_heldByteS.b0) (wt := fun _ => 1) (fun e y n => e = IntKind.wrap .u8 y ∧ n = 1) a x h0 (by rw [wsum_one]; exact h1)
    (fun l y k hk hla hy hy1 => by
      refine ⟨IntKind.wrap .u8 y, ?_, rfl, rfl⟩
      unfold laws_markByteS.b0
      simp only []
      rw [if_pos (by simp; omega), if_pos ⟨by omega, by omega⟩, w64 (by omega) (by omega), w64 (by omega) (by omega)]; rfl)
    (fun l y hla => by
      unfold laws_markByteS.b0
      simp only []
      rw [if_neg (by simp)]; rfl)
    (fun l y k n hk hla he hy hy1 => by
      obtain ⟨e1, rfl⟩ := he
      unfold laws_heldByteS.b0
      simp only []
      rw [if_pos (by simp; omega), if_pos ⟨by omega, by omega⟩, at_nat _ k hk, e1, if_neg (by simp), w64 (by omega) (by omega), w64 (by omega) (by omega)]; rfl)
    (fun l y hla => by
      unfold laws_heldByteS.b0
      simp only []
      rw [if_neg (by simp)]; rfl)
  rw [wsum_one] at this
  exact this
end Go.Proofs.Ytcagjdngannneaa
