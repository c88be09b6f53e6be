
import Derived.Test.YtcagjdngannneaaGreatQm
set_option linter.unusedVariables false
set_option linter.unusedSimpArgs false
set_option linter.unusedSectionVars false
namespace Go.Proofs.YtcagjdngannneaaGreat
open Go V Ieee

theorem szByteS (a : List Int) (n : Int) (hl : a.length ≤ maxLen) (h0 : 0 ≤ n) (h1 : n ≤ 1048576) : Sz (laws_szByteS.f a n) n a.length := by
  simp only [maxLen] at hl
  unfold laws_szByteS.f
  rw [w64 (by omega) (by omega)]
  by_cases hneg : n - (a.length : Int) < 0
  · rw [if_pos (by simpa using hneg)]; exact ⟨-1, rfl, by omega, fun h => by omega⟩
  · rw [if_neg (by simpa using hneg)]; exact ⟨_, rfl, by omega, fun h => rfl⟩
theorem szByteSS (a : List (List Int)) (n : Int) (hl : a.length ≤ maxLen) (he : ∀ b ∈ a, b.length ≤ maxLen) (h0 : 0 ≤ n) (h1 : n ≤ 1048576) : Sz (laws_szByteSS.f a n) n (a.length + wsum List.length a) := by
  unfold laws_szByteSS.f
  have hl' := hl
  simp only [maxLen] at hl'
  refine szS_gen a n hl h0 h1 (fun k x hk x0 x1 => ?_) (fun x => ?_)
  · obtain ⟨r, er, hr, hr2⟩ := szByteS a[k] x (he _ (List.getElem_mem hk)) x0 x1
    refine ⟨r, hr, hr2, ?_⟩
    unfold laws_szByteSS.b0
    simp only []
    rw [if_pos (by simp; omega), if_pos ⟨by omega, by omega⟩, at_nat _ k hk, er, Option.bind_some, w64 (by omega) (by omega)]
    by_cases hn : r < 0
    · rw [if_pos (by simpa using hn), if_pos hn]
    · rw [if_neg (by simpa using hn), if_neg hn]
  · unfold laws_szByteSS.b0
    simp only []
    rw [if_neg (by simp)]; rfl
def zP (p : Page) : Nat := p.Slots.length + wsum List.length p.Slots
theorem szPage (p : Page) (n : Int) (hp : ok_Page p) (h0 : 0 ≤ n) (h1 : n ≤ 1048576) : Sz (laws_szPage.f p n) n (zP p) := by
  unfold laws_szPage.f
  obtain ⟨r, er, hr, hr2⟩ := szByteSS p.Slots n hp.2.1 (fun b hb => (hp.2.2 b hb).1) h0 h1
  rw [er, Option.bind_some]
  by_cases hn : r < 0
  · rw [if_pos (by simpa using hn)]; exact ⟨-1, rfl, by omega, fun h => by omega⟩
  · rw [if_neg (by simpa using hn)]; exact ⟨r, rfl, hr, hr2⟩
theorem szPageS (a : List Page) (n : Int) (hl : a.length ≤ maxLen) (he : ∀ b ∈ a, ok_Page b) (h0 : 0 ≤ n) (h1 : n ≤ 1048576) : Sz (laws_szPageS.f a n) n (a.length + wsum zP a) := by
  unfold laws_szPageS.f
  have hl' := hl
  simp only [maxLen] at hl'
  refine szS_gen a n hl h0 h1 (fun k x hk x0 x1 => ?_) (fun x => ?_)
  · obtain ⟨r, er, hr, hr2⟩ := szPage a[k] x (he _ (List.getElem_mem hk)) x0 x1
    refine ⟨r, hr, hr2, ?_⟩
    unfold laws_szPageS.b0
    simp only []
    rw [if_pos (by simp; omega), if_pos ⟨by omega, by omega⟩, at_nat _ k hk, er, Option.bind_some, w64 (by omega) (by omega)]
    by_cases hn : r < 0
    · rw [if_pos (by simpa using hn), if_pos hn]
    · rw [if_neg (by simpa using hn), if_neg hn]
  · unfold laws_szPageS.b0
    simp only []
    rw [if_neg (by simp)]; rfl
def zH (h : Heap) : Nat := h.Pages.length + wsum zP h.Pages
theorem szHeap (h : Heap) (n : Int) (hh : ok_Heap h) (h0 : 0 ≤ n) (h1 : n ≤ 1048576) : Sz (laws_szHeap.f h n) n (zH h) := by
  unfold laws_szHeap.f
  obtain ⟨r, er, hr, hr2⟩ := szPageS h.Pages n hh.1 hh.2 h0 h1
  rw [er, Option.bind_some]
  by_cases hn : r < 0
  · rw [if_pos (by simpa using hn)]; exact ⟨-1, rfl, by omega, fun h => by omega⟩
  · rw [if_neg (by simpa using hn)]; exact ⟨r, rfl, hr, hr2⟩
theorem okH_of (h : Heap) (hh : ok_Heap h) (hz : zH h ≤ 1048576) : okH h := by
  unfold zH at hz
  refine ⟨by omega, fun p hp => ?_⟩
  have h1 := wsum_mem zP _ p hp
  have hk := hh.2 p hp
  have h2 : zP p = p.Slots.length + wsum List.length p.Slots := rfl
  refine ⟨hk.1, by omega, fun b hb => ?_⟩
  have h3 := wsum_mem List.length _ b hb
  exact ⟨by omega, (hk.2.2 b hb).2⟩
theorem szItem (a : Item) (n : Int) (ha : ok_Item a) (h0 : 0 ≤ n) (h1 : n ≤ 1048576) : Sz (laws_szItem.f a n) n a.T.length := by
  unfold laws_szItem.f
  obtain ⟨r, er, hr, hr2⟩ := szByteS a.T n ha.2.2.2.1 h0 h1
  rw [er, Option.bind_some]
  by_cases hn : r < 0
  · rw [if_pos (by simpa using hn)]; exact ⟨-1, rfl, by omega, fun h => by omega⟩
  · rw [if_neg (by simpa using hn)]; exact ⟨r, rfl, hr, hr2⟩
def zT (t : Tuple) : Nat := t.Key.T.length + t.Value.T.length
theorem szTuple (t : Tuple) (n : Int) (ht : ok_Tuple t) (h0 : 0 ≤ n) (h1 : n ≤ 1048576) : Sz (laws_szTuple.f t n) n (zT t) := by
  unfold laws_szTuple.f zT
  obtain ⟨r, er, hr, hr2⟩ := szItem t.Key n ht.2.2.1 h0 h1
  rw [er, Option.bind_some]
  by_cases hn : r < 0
  · rw [if_pos (by simpa using hn)]; exact ⟨-1, rfl, by omega, fun h => by omega⟩
  · rw [if_neg (by simpa using hn)]
    obtain ⟨q, eq, hq, hq2⟩ := szItem t.Value r ht.2.2.2 (by omega) (by omega)
    rw [eq, Option.bind_some]
    by_cases hm : q < 0
    · rw [if_pos (by simpa using hm)]; exact ⟨-1, rfl, by omega, fun h => by omega⟩
    · rw [if_neg (by simpa using hm)]
      refine ⟨q, rfl, by omega, fun h => ?_⟩
      have := hr2 (by omega)
      have := hq2 h
      omega

theorem toByteS (a : List Int) (h : a.length ≤ 1048576) : laws_toByteS.f a = some a := by
  unfold laws_toByteS.f
  rw [if_pos ⟨by omega, by simp only [Lim]; omega⟩]
  refine toS_gen a 0 (fun l k hk hl => ?_) (fun l => ?_)
  · unfold laws_toByteS.b0
    simp only []
    rw [if_pos (by simp; omega), if_pos ⟨by omega, by omega⟩, if_pos ⟨by omega, by omega⟩, at_nat _ k hk, w64 (by omega) (by omega)]; rfl
  · unfold laws_toByteS.b0
    simp only []
    rw [if_neg (by simp)]; rfl
theorem toByteSS (a : List (List Int)) (h : a.length ≤ 1048576) (he : ∀ b ∈ a, b.length ≤ 1048576) : laws_toByteSS.f a = some a := by
  unfold laws_toByteSS.f
  rw [if_pos ⟨by omega, by simp only [Lim]; omega⟩]
  refine toS_gen a [] (fun l k hk hl => ?_) (fun l => ?_)
  · unfold laws_toByteSS.b0
    simp only []
    rw [if_pos (by simp; omega), if_pos ⟨by omega, by omega⟩, at_nat _ k hk, toByteS _ (he _ (List.getElem_mem hk)), Option.bind_some, if_pos ⟨by omega, by omega⟩, w64 (by omega) (by omega)]; rfl
  · unfold laws_toByteSS.b0
    simp only []
    rw [if_neg (by simp)]; rfl
theorem toPage (p : Page) (hp : okP p) : laws_toPage.f p = some p := by
  unfold laws_toPage.f
  rw [toByteSS p.Slots hp.2.1 (fun b hb => (hp.2.2 b hb).1)]; rfl
theorem toPageS (a : List Page) (h : a.length ≤ 1048576) (he : ∀ b ∈ a, okP b) : laws_toPageS.f a = some a := by
  unfold laws_toPageS.f
  rw [if_pos ⟨by omega, by simp only [Lim]; omega⟩]
  refine toS_gen a _ (fun l k hk hl => ?_) (fun l => ?_)
  · unfold laws_toPageS.b0
    simp only []
    rw [if_pos (by simp; omega), if_pos ⟨by omega, by omega⟩, at_nat _ k hk, toPage _ (he _ (List.getElem_mem hk)), Option.bind_some, if_pos ⟨by omega, by omega⟩, w64 (by omega) (by omega)]; rfl
  · unfold laws_toPageS.b0
    simp only []
    rw [if_neg (by simp)]; rfl
theorem toHeap (h : Heap) (hh : okH h) : laws_toHeap.f h = some h := by
  unfold laws_toHeap.f
  rw [toPageS _ hh.1 hh.2]; rfl
theorem toItem (a : Item) (h : a.T.length ≤ 1048576) : laws_toItem.f a = some a := by
  unfold laws_toItem.f
  rw [toByteS _ h]; rfl
theorem toTuple (t : Tuple) (h : zT t ≤ 1048576) : laws_toTuple.f t = some t := by
  unfold zT at h
  unfold laws_toTuple.f
  rw [toItem _ (by omega), Option.bind_some, toItem _ (by omega)]; rfl

theorem eqByteS (a : List Int) (h : a.length ≤ 1048576) : laws_eqByteS.f a a = some true := by
  unfold laws_eqByteS.f
  have := eqS_gen (body := laws_eqByteS.b0 a a) a a (fun k hk _ => by
    unfold laws_eqByteS.b0
    rw [if_pos (by simp; omega), if_pos ⟨by omega, by omega⟩, if_pos ⟨by omega, by omega⟩, at_nat _ k hk, w64 (by omega) (by omega)]
    simp) (by
    unfold laws_eqByteS.b0
    rw [if_neg (by simp)]; rfl)
  rw [this]; simp
theorem eqByteSS (a : List (List Int)) (h : a.length ≤ 1048576) (he : ∀ b ∈ a, b.length ≤ 1048576) : laws_eqByteSS.f a a = some true := by
  unfold laws_eqByteSS.f
  have := eqS_gen (body := laws_eqByteSS.b0 a a) a a (fun k hk _ => by
    unfold laws_eqByteSS.b0
    rw [if_pos (by simp; omega), if_pos ⟨by omega, by omega⟩, if_pos ⟨by omega, by omega⟩, at_nat _ k hk, eqByteS _ (he _ (List.getElem_mem hk)), w64 (by omega) (by omega)]
    simp) (by
    unfold laws_eqByteSS.b0
    rw [if_neg (by simp)]; rfl)
  rw [this]; simp
theorem eqPage (p : Page) (hp : okP p) : laws_eqPage.f p p = some true := by
  unfold laws_eqPage.f
  rw [if_neg (by simp), eqByteSS p.Slots hp.2.1 (fun b hb => (hp.2.2 b hb).1)]; rfl
theorem eqPageS (a : List Page) (h : a.length ≤ 1048576) (he : ∀ b ∈ a, okP b) : laws_eqPageS.f a a = some true := by
  unfold laws_eqPageS.f
  have := eqS_gen (body := laws_eqPageS.b0 a a) a a (fun k hk _ => by
    unfold laws_eqPageS.b0
    rw [if_pos (by simp; omega), if_pos ⟨by omega, by omega⟩, if_pos ⟨by omega, by omega⟩, at_nat _ k hk, eqPage _ (he _ (List.getElem_mem hk)), w64 (by omega) (by omega)]
    simp) (by
    unfold laws_eqPageS.b0
    rw [if_neg (by simp)]; rfl)
  rw [this]; simp
theorem eqHeap (h : Heap) (hh : okH h) : laws_eqHeap.f h h = some true := by
  unfold laws_eqHeap.f
  rw [eqPageS _ hh.1 hh.2]; rfl
theorem sameFloat (x : Nat) : laws_sameFloat.f x x = some true := by
  unfold laws_sameFloat.f
  have hbe : ∀ b : Bool, (b == b) = true := fun b => by cases b <;> rfl
  cases hb : fcmp .f64 x x != some .eq with
  | true => rfl
  | false =>
    have he : (fcmp .f64 x x == some .eq) = true := by
      have : (fcmp .f64 x x != some .eq) = !(fcmp .f64 x x == some .eq) := rfl
      rw [this] at hb
      cases hq : (fcmp .f64 x x == some .eq) with
      | true => rfl
      | false => rw [hq] at hb; cases hb
    rw [if_neg (by decide), he, hbe]
    split <;> rfl
theorem eqItem (a : Item) (h : a.T.length ≤ 1048576) : laws_eqItem.f a a = some true := by
  unfold laws_eqItem.f
  rw [if_neg (by simp), if_neg (by simp), sameFloat, Option.bind_some, if_neg (by decide), eqByteS _ h]; rfl
theorem eqTuple (t : Tuple) (h : zT t ≤ 1048576) : laws_eqTuple.f t t = some true := by
  unfold zT at h
  unfold laws_eqTuple.f
  rw [if_neg (by simp), if_neg (by simp), eqItem _ (by omega), Option.bind_some, if_neg (by decide), eqItem _ (by omega)]; rfl

theorem wsum_one (a : List Int) : wsum (fun _ => 1) a = a.length := by
  induction a with
  | nil => rfl
  | cons x l ih => rw [wsum_cons, ih, List.length_cons]; omega
theorem markS_genP {α : Type} {mb : List α × Int × Int → Option ((List α × Int × Int) ⊕ (Int × List α))} {hb : List α → Int × Int → Option ((Int × Int) ⊕ Int)} {wt : α → Nat} (HE : α → Int → Nat → Prop) (P : α → Prop) (a : List α) (hP : ∀ y ∈ a, P y) (x : Int) (h0 : 0 ≤ x) (h1 : x + (wsum wt a : Int) ≤ 100000000000)
    (hm : ∀ (l : List α) (x : Int) (k : Nat) (hk : k < l.length), l.length = a.length → P l[k] → 0 ≤ x → x + (wt l[k] : Int) ≤ 100000000000 → ∃ e', mb (l, x, (k : Int)) = some (.inl (l.set k e', x + (wt l[k] : Int), (k : Int) + 1)) ∧ HE e' x (wt l[k]))
    (hmn : ∀ l x, l.length = a.length → mb (l, x, (l.length : Int)) = some (.inr (x, l)))
    (hh : ∀ (l : List α) (x : Int) (k n : Nat) (hk : k < l.length), l.length = a.length → HE l[k] x n → 0 ≤ x → x + (n : Int) ≤ 100000000000 → hb l (x, (k : Int)) = some (.inl (x + (n : Int), (k : Int) + 1)))
    (hhn : ∀ l x, l.length = a.length → hb l (x, (l.length : Int)) = some (.inr x)) :
    ∃ a', iter mb (a, x, (0 : Int)) = some (x + (wsum wt a : Int), a') ∧ a'.length = a.length ∧ iter (hb a') (x, (0 : Int)) = some (x + (wsum wt a : Int)) := by
  have key : ∀ (m i : Nat) (x : Int) (l : List α), i + m = l.length → l.length = a.length → (∀ y ∈ l.drop i, P y) → 0 ≤ x → x + (wsum wt (l.drop i) : Int) ≤ 100000000000 →
      ∃ l', iter mb (l, x, (i : Int)) = some (x + (wsum wt (l.drop i) : Int), l') ∧ l'.length = l.length ∧ (∀ j, j < i → l'[j]? = l[j]?) ∧ iter (hb l') (x, (i : Int)) = some (x + (wsum wt (l.drop i) : Int)) := by
    intro m
    induction m with
    | zero =>
      intro i x l hi hla hPl hx0 hx1
      have : i = l.length := by omega
      subst this
      rw [List.drop_length]
      refine ⟨l, ?_, rfl, fun _ _ => rfl, ?_⟩
      · rw [iter_r (hmn l x hla)]; simp [wsum]
      · rw [iter_r (hhn l x hla)]; simp [wsum]
    | succ m ih =>
      intro i x l hi hla hPl hx0 hx1
      have hk : i < l.length := by omega
      have hd : l.drop i = l[i] :: l.drop (i + 1) := List.drop_eq_getElem_cons hk
      rw [hd] at hPl
      rw [hd, wsum_cons] at hx1 ⊢
      obtain ⟨e', hmb, hE⟩ := hm l x i hk hla (hPl _ List.mem_cons_self) hx0 (by omega)
      have e : (i : Int) + 1 = ((i + 1 : Nat) : Int) := by omega
      have hds : (l.set i e').drop (i + 1) = l.drop (i + 1) := List.drop_set_of_lt (by omega)
      obtain ⟨l', h1', h2', h3', h4'⟩ := ih (i + 1) (x + (wt l[i] : Int)) (l.set i e') (by rw [List.length_set]; omega) (by rw [List.length_set]; exact hla) (by rw [hds]; exact fun y hy => hPl y (List.mem_cons_of_mem _ hy)) (by omega) (by rw [hds]; omega)
      rw [hds] at h1' h4'
      rw [List.length_set] at h2'
      have hi' : i < l'.length := by omega
      have hli : l'[i] = e' := by
        have := h3' i (by omega)
        rw [List.getElem?_eq_getElem hi', List.getElem?_set_self hk] at this
        exact Option.some.inj this
      have hsum : x + (wt l[i] : Int) + (wsum wt (l.drop (i + 1)) : Int) = x + ((wt l[i] + wsum wt (l.drop (i + 1)) : Nat) : Int) := by omega
      refine ⟨l', ?_, h2', fun j hj => ?_, ?_⟩
      · rw [iter_l hmb, e, h1', hsum]
      · rw [h3' j (by omega), List.getElem?_set_ne (by omega)]
      · rw [iter_l (hh l' x i (wt l[i]) hi' (by omega) (by rw [hli]; exact hE) hx0 (by omega)), e, h4', hsum]
  obtain ⟨l', h1', h2', _, h4'⟩ := key a.length 0 x a (by omega) rfl (by rw [List.drop_zero]; exact hP) h0 (by rw [List.drop_zero]; exact h1)
  rw [List.drop_zero] at h1' h4'
  exact ⟨l', h1', h2', h4'⟩
theorem markByteS (a : List Int) (x : Int) (h0 : 0 ≤ x) (h1 : x + (a.length : Int) ≤ 100000000000) : ∃ a', laws_markByteS.f a x = some (x + (a.length : Int), a') ∧ a'.length = a.length ∧ laws_heldByteS.f a' x = some (x + (a.length : Int)) := by
  have := markS_gen (mb := laws_markByteS.b0) (hb := laws_heldByteS.b0) (wt := fun _ => 1) (fun e y n => e = IntKind.wrap .u8 y ∧ n = 1) a x h0 (by rw [wsum_one]; exact h1)
    (fun l y k hk hla hy hy1 => by
      refine ⟨IntKind.wrap .u8 y, ?_, rfl, rfl⟩
      unfold laws_markByteS.b0
      simp only []
      rw [if_pos (by simp; omega), if_pos ⟨by omega, by omega⟩, w64 (by omega) (by omega), w64 (by omega) (by omega)]; rfl)
    (fun l y hla => by
      unfold laws_markByteS.b0
      simp only []
      rw [if_neg (by simp)]; rfl)
    (fun l y k n hk hla he hy hy1 => by
      obtain ⟨e1, rfl⟩ := he
      unfold laws_heldByteS.b0
      simp only []
      rw [if_pos (by simp; omega), if_pos ⟨by omega, by omega⟩, at_nat _ k hk, e1, if_neg (by simp), w64 (by omega) (by omega), w64 (by omega) (by omega)]; rfl)
    (fun l y hla => by
      unfold laws_heldByteS.b0
      simp only []
      rw [if_neg (by simp)]; rfl)
  rw [wsum_one] at this
  exact this
theorem markByteSS (a : List (List Int)) (x : Int) (hl : a.length ≤ 1048576) (h0 : 0 ≤ x) (h1 : x + (wsum List.length a : Int) ≤ 100000000000) : ∃ a', laws_markByteSS.f a x = some (x + (wsum List.length a : Int), a') ∧ a'.length = a.length ∧ laws_heldByteSS.f a' x = some (x + (wsum List.length a : Int)) :=
  markS_gen (mb := laws_markByteSS.b0) (hb := laws_heldByteSS.b0) (wt := List.length) (fun e y n => laws_heldByteS.f e y = some (y + (n : Int))) a x h0 h1
    (fun l y k hk hla hy hy1 => by
      obtain ⟨e', em, _, eh⟩ := markByteS l[k] y hy hy1
      refine ⟨e', ?_, eh⟩
      unfold laws_markByteSS.b0
      simp only []
      rw [if_pos (by simp; omega), if_pos ⟨by omega, by omega⟩, at_nat _ k hk, em, Option.bind_some, w64 (by omega) (by omega)]; rfl)
    (fun l y hla => by
      unfold laws_markByteSS.b0
      simp only []
      rw [if_neg (by simp)]; rfl)
    (fun l y k n hk hla he hy hy1 => by
      unfold laws_heldByteSS.b0
      simp only []
      rw [if_pos (by simp; omega), if_pos ⟨by omega, by omega⟩, at_nat _ k hk, he, Option.bind_some, if_neg (by simp; omega), w64 (by omega) (by omega)])
    (fun l y hla => by
      unfold laws_heldByteSS.b0
      simp only []
      rw [if_neg (by simp)]; rfl)
def wP (p : Page) : Nat := 1 + wsum List.length p.Slots
theorem markPageS (a : List Page) (x : Int) (hl : a.length ≤ 1048576) (he : ∀ p ∈ a, p.Slots.length ≤ 1048576) (h0 : 0 ≤ x) (h1 : x + (wsum wP a : Int) ≤ 100000000000) : ∃ a', laws_markPageS.f a x = some (x + (wsum wP a : Int), a') ∧ a'.length = a.length ∧ laws_heldPageS.f a' x = some (x + (wsum wP a : Int)) :=
  markS_genP (mb := laws_markPageS.b0) (hb := laws_heldPageS.b0) (wt := wP) (fun e y n => e.Lsn = y ∧ laws_heldByteSS.f e.Slots (y + 1) = some (y + (n : Int))) (fun p => p.Slots.length ≤ 1048576) a he x h0 h1
    (fun l y k hk hla hp hy hy1 => by
      unfold wP at hy1 ⊢
      obtain ⟨e', em, _, eh⟩ := markByteSS (l[k]).Slots (y + 1) hp (by omega) (by omega)
      have ew : y + ((1 + wsum List.length (l[k]).Slots : Nat) : Int) = y + 1 + (wsum List.length (l[k]).Slots : Int) := by omega
      refine ⟨Page.mk y e', ?_, rfl, ?_⟩
      · unfold laws_markPageS.b0
        simp only []
        rw [if_pos (by simp; omega), if_pos ⟨by omega, by omega⟩, if_pos ⟨by omega, by rw [List.length_set]; omega⟩, at_nat l k hk, Int.toNat_natCast, at_set _ _ _ hk, w64 (by omega) (by omega), em, Option.bind_some, Option.bind_some, List.set_set, w64 (by omega) (by omega), ew]
      · rw [ew]; exact eh)
    (fun l y hla => by
      unfold laws_markPageS.b0
      simp only []
      rw [if_neg (by simp)]; rfl)
    (fun l y k n hk hla he hy hy1 => by
      unfold laws_heldPageS.b0
      simp only []
      rw [if_pos (by simp; omega), if_pos ⟨by omega, by omega⟩, at_nat _ k hk, he.1, if_neg (by simp), if_pos ⟨by omega, by omega⟩, w64 (by omega) (by omega), he.2, Option.bind_some, if_neg (by simp; omega), w64 (by omega) (by omega)])
    (fun l y hla => by
      unfold laws_heldPageS.b0
      simp only []
      rw [if_neg (by simp)]; rfl)
def wH (h : Heap) : Nat := wsum wP h.Pages
theorem markHeap (h : Heap) (x : Int) (hh : okH h) (h0 : 0 ≤ x) (h1 : x + (wH h : Int) ≤ 100000000000) : ∃ a', laws_markHeap.f h x = some (x + (wH h : Int), a') ∧ laws_heldHeap.f (Heap.mk a') x = some (x + (wH h : Int)) := by
  obtain ⟨a', em, _, eh⟩ := markPageS h.Pages x hh.1 (fun p hp => (hh.2 p hp).2.1) h0 h1
  refine ⟨a', ?_, ?_⟩
  · unfold laws_markHeap.f
    rw [em]; rfl
  · unfold laws_heldHeap.f
    show (laws_heldPageS.f a' x).bind _ = _
    rw [eh, Option.bind_some, if_neg (by simp; omega)]; rfl
theorem wH_le (h : Heap) : wH h ≤ zH h := by
  unfold wH zH
  have := wsum_le wP zP 1 h.Pages (fun p _ => by unfold wP zP; omega)
  omega
theorem markTuple (t : Tuple) (x : Int) (h0 : 0 ≤ x) (h1 : x + (zT t : Int) ≤ 100000000000) : ∃ t', laws_markTuple.f t x = some (x + (zT t : Int), t') := by
  unfold zT at h1 ⊢
  obtain ⟨a', em, _, _⟩ := markByteS t.Key.T x h0 (by omega)
  obtain ⟨b', en, _, _⟩ := markByteS t.Value.T (x + (t.Key.T.length : Int)) (by omega) (by omega)
  unfold laws_markTuple.f laws_markItem.f
  rw [em, Option.bind_some, Option.bind_some, en, Option.bind_some, Option.bind_some]
  have e : x + ((t.Key.T.length + t.Value.T.length : Nat) : Int) = x + (t.Key.T.length : Int) + (t.Value.T.length : Int) := by omega
  rw [e]
  exact ⟨_, rfl⟩

theorem wsum_app {α : Type} (wt : α → Nat) (a b : List α) : wsum wt (a ++ b) = wsum wt a + wsum wt b := by simp [wsum]
theorem wsum_set {α : Type} (wt : α → Nat) (l : List α) (i : Nat) (y : α) : wsum wt (l.set i y) ≤ wsum wt l + wt y := by
  induction l generalizing i with
  | nil => simp [wsum]
  | cons a l ih =>
    cases i with
    | zero => rw [List.set_cons_zero, wsum_cons, wsum_cons]; omega
    | succ i => rw [List.set_cons_succ, wsum_cons, wsum_cons]; have := ih i; omega
theorem wP_pg {p : Page} (h : PG p = true) : wP p ≤ 241 := by
  unfold PG at h
  simp only [Bool.and_eq_true, decide_eq_true_eq] at h
  have := h.2
  have e : lsum p.Slots = wsum List.length p.Slots := rfl
  unfold wP
  omega
theorem wP_pp (p : Page) (j : Int) (b : List Int) (n : Int) : wP (PP p j b n).1 ≤ 241 := by
  unfold PP
  split
  · rename_i h; exact wP_pg h.2.2.2.2
  · show wP P0 ≤ 241; decide
theorem pp_ok (p : Page) (j : Int) (b : List Int) (n : Int) (hp : okP p) (hb : okB b) (hn : InK .i64 n) : okP (PP p j b n).1 := by
  unfold PP
  split
  · rename_i h
    have := rin_iff.1 h.2.1
    exact ps_ok p _ b n hp hb hn (by omega)
  · exact okP0
theorem okH0 : okH H0 := ⟨by simp [H0], fun p hp => by cases hp⟩
theorem hw_ok (h : Heap) (i : Int) (p : Page) (hh : okH h) (hp : okP p) (h16 : i < 16) (hp2 : wP p ≤ 241) : okH (HW h i p) ∧ wH (HW h i p) ≤ wH h + 242 := by
  have hl : (hxs h i).length ≤ 1048576 ∧ (∀ q ∈ hxs h i, okP q) ∧ wsum wP (hxs h i) ≤ wH h + 1 := by
    unfold hxs
    split
    · refine ⟨by simp; omega, fun q hq => ?_, ?_⟩
      · rcases List.mem_append.1 hq with hq | hq
        · exact hh.2 q hq
        · rw [List.mem_singleton.1 hq]; exact okP0
      · rw [wsum_app]; exact Nat.le_refl _
    · exact ⟨hh.1, hh.2, Nat.le_succ _⟩
  refine ⟨⟨?_, fun q hq => ?_⟩, ?_⟩
  · show ((hxs h i).set _ _).length ≤ _
    rw [List.length_set]; exact hl.1
  · rcases List.mem_or_eq_of_mem_set hq with hq | rfl
    · exact hl.2.1 q hq
    · exact hp
  · show wsum wP ((hxs h i).set _ _) ≤ _
    have := wsum_set wP (hxs h i) i.toNat p
    have := hl.2.2
    omega
theorem hput_ok (h : Heap) (i j : Int) (t : Tuple) (n : Int) (hh : okH h) (ht : ok_Tuple t) (hn : InK .i64 n) : okH (HPut h i j t n).1 ∧ wH (HPut h i j t n).1 ≤ wH h + 242 := by
  unfold HPut
  split
  · unfold HP
    split
    · rename_i hc
      exact hw_ok h i _ hh (pp_ok _ _ _ _ (pgAt_ok h i hh hc.1 hc.2.1) (tb_ok t ht) hn) hc.2.2.1 (wP_pp _ _ _ _)
    · exact ⟨okH0, by show wH H0 ≤ _; have : wH H0 = 0 := rfl; omega⟩
  · exact ⟨okH0, by show wH H0 ≤ _; have : wH H0 = 0 := rfl; omega⟩
end Go.Proofs.YtcagjdngannneaaGreat
