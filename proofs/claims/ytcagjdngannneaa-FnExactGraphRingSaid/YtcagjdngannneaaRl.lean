
import Derived.Test.YtcagjdngannneaaRc
set_option linter.unusedVariables false
set_option linter.unusedSimpArgs false
set_option linter.unusedSectionVars false
namespace Go.Proofs.Ytcagjdngannneaa
open Go V Ieee
def zI (a : Item) : Nat := a.T.length
def zSp (s : Span) : Nat := s.From.T.length + s.To.T.length
theorem szSpan (s : Span) (n : Int) (hs : ok_Span s) (h0 : 0 ≤ n) (h1 : n ≤ 1048576) : Sz (laws_szSpan.f s n) n (zSp s) := by
  unfold laws_szSpan.f zSp
  obtain ⟨r, er, hr, hr2⟩ := szItem s.From n hs.1 h0 h1
  rw [er, Option.bind_some]
  by_cases hn : r < 0
  · rw [if_pos (by simpa using hn)]; exact ⟨-1, rfl, by omega, fun h => by omega⟩
  · rw [if_neg (by simpa using hn)]
    obtain ⟨q, eq, hq, hq2⟩ := szItem s.To r hs.2 (by omega) (by omega)
    rw [eq, Option.bind_some]
    by_cases hm : q < 0
    · rw [if_pos (by simpa using hm)]; exact ⟨-1, rfl, by omega, fun h => by omega⟩
    · rw [if_neg (by simpa using hm)]
      refine ⟨q, rfl, by omega, fun h => ?_⟩
      have := hr2 (by omega)
      have := hq2 h
      omega
theorem szSpanS (a : List Span) (n : Int) (hl : a.length ≤ maxLen) (he : ∀ b ∈ a, ok_Span b) (h0 : 0 ≤ n) (h1 : n ≤ 1048576) : Sz (laws_szSpanS.f a n) n (a.length + wsum zSp a) := by
  unfold laws_szSpanS.f
  have hl' := hl
  simp only [maxLen] at hl'
  refine szS_gen a n hl h0 h1 (fun k x hk x0 x1 => ?_) (fun x => ?_)
  · obtain ⟨r, er, hr, hr2⟩ := szSpan a[k] x (he _ (List.getElem_mem hk)) x0 x1
    refine ⟨r, hr, hr2, ?_⟩
    unfold laws_szSpanS.b0
    simp only []
    rw [if_pos (by simp; omega), if_pos ⟨by omega, by omega⟩, at_nat _ k hk]
    rw [er, Option.bind_some, w64 (by omega) (by omega)]
    by_cases hn : r < 0
    · rw [if_pos (by simpa using hn), if_pos hn]
    · rw [if_neg (by simpa using hn), if_neg hn]
  · unfold laws_szSpanS.b0
    simp only []
    rw [if_neg (by simp)]; rfl
theorem szItemS (a : List Item) (n : Int) (hl : a.length ≤ maxLen) (he : ∀ b ∈ a, ok_Item b) (h0 : 0 ≤ n) (h1 : n ≤ 1048576) : Sz (laws_szItemS.f a n) n (a.length + wsum zI a) := by
  unfold laws_szItemS.f
  have hl' := hl
  simp only [maxLen] at hl'
  refine szS_gen a n hl h0 h1 (fun k x hk x0 x1 => ?_) (fun x => ?_)
  · obtain ⟨r, er, hr, hr2⟩ := szItem a[k] x (he _ (List.getElem_mem hk)) x0 x1
    refine ⟨r, hr, hr2, ?_⟩
    unfold laws_szItemS.b0
    simp only []
    rw [if_pos (by simp; omega), if_pos ⟨by omega, by omega⟩, at_nat _ k hk]
    rw [er, Option.bind_some, w64 (by omega) (by omega)]
    by_cases hn : r < 0
    · rw [if_pos (by simpa using hn), if_pos hn]
    · rw [if_neg (by simpa using hn), if_neg hn]
  · unfold laws_szItemS.b0
    simp only []
    rw [if_neg (by simp)]; rfl
def lgI (a : Item) : Prop := a.T.length ≤ 1048576
def lgS (s : Span) : Prop := lgI s.From ∧ lgI s.To
theorem toSpan (s : Span) (h : lgS s) : laws_toSpan.f s = some s := by
  unfold laws_toSpan.f
  rw [toItem _ h.1, Option.bind_some, toItem _ h.2]; rfl
theorem eqSpan (s : Span) (h : lgS s) : laws_eqSpan.f s s = some true := by
  unfold laws_eqSpan.f
  rw [eqItem _ h.1, Option.bind_some, if_neg (by decide), eqItem _ h.2]; rfl
theorem toSpanS (a : List Span) (h : a.length ≤ 1048576) (he : ∀ b ∈ a, lgS b) : laws_toSpanS.f a = some a := by
  unfold laws_toSpanS.f
  rw [if_pos ⟨by omega, by simp only [Lim]; omega⟩]
  refine toS_gen a _ (fun l k hk hl => ?_) (fun l => ?_)
  · unfold laws_toSpanS.b0
    simp only []
    rw [if_pos (by simp; omega), if_pos ⟨by omega, by omega⟩, at_nat _ k hk]
    rw [toSpan _ (he _ (List.getElem_mem hk)), Option.bind_some, if_pos ⟨by omega, by omega⟩, w64 (by omega) (by omega)]; rfl
  · unfold laws_toSpanS.b0
    simp only []
    rw [if_neg (by simp)]; rfl
theorem toItemS (a : List Item) (h : a.length ≤ 1048576) (he : ∀ b ∈ a, lgI b) : laws_toItemS.f a = some a := by
  unfold laws_toItemS.f
  rw [if_pos ⟨by omega, by simp only [Lim]; omega⟩]
  refine toS_gen a _ (fun l k hk hl => ?_) (fun l => ?_)
  · unfold laws_toItemS.b0
    simp only []
    rw [if_pos (by simp; omega), if_pos ⟨by omega, by omega⟩, at_nat _ k hk]
    rw [toItem _ (he _ (List.getElem_mem hk)), Option.bind_some, if_pos ⟨by omega, by omega⟩, w64 (by omega) (by omega)]; rfl
  · unfold laws_toItemS.b0
    simp only []
    rw [if_neg (by simp)]; rfl
theorem eqSpanS (a : List Span) (h : a.length ≤ 1048576) (he : ∀ b ∈ a, lgS b) : laws_eqSpanS.f a a = some true := by
  unfold laws_eqSpanS.f
  have := eqS_gen (body := laws_eqSpanS.b0 a a) a a (fun k hk _ => by
    unfold laws_eqSpanS.b0
    rw [if_pos (by simp; omega), if_pos ⟨by omega, by omega⟩, if_pos ⟨by omega, by omega⟩, at_nat _ k hk]
    rw [eqSpan _ (he _ (List.getElem_mem hk)), w64 (by omega) (by omega)]
    simp) (by
    unfold laws_eqSpanS.b0
    rw [if_neg (by simp)]; rfl)
  rw [this]; simp
theorem eqItemS (a : List Item) (h : a.length ≤ 1048576) (he : ∀ b ∈ a, lgI b) : laws_eqItemS.f a a = some true := by
  unfold laws_eqItemS.f
  have := eqS_gen (body := laws_eqItemS.b0 a a) a a (fun k hk _ => by
    unfold laws_eqItemS.b0
    rw [if_pos (by simp; omega), if_pos ⟨by omega, by omega⟩, if_pos ⟨by omega, by omega⟩, at_nat _ k hk]
    rw [eqItem _ (he _ (List.getElem_mem hk)), w64 (by omega) (by omega)]
    simp) (by
    unfold laws_eqItemS.b0
    rw [if_neg (by simp)]; rfl)
  rw [this]; simp
theorem markS1 {α : Type} {mb : List α × Int × Int → Option ((List α × Int × Int) ⊕ (Int × List α))} {wt : α → Nat} (P : α → Prop) (Q : α → α → Prop) (hQ : ∀ a, Q a a) (a : List α) (hP : ∀ y ∈ a, P y) (x : Int) (h0 : 0 ≤ x) (h1 : x + (wsum wt a : Int) ≤ 100000000000)
    (hm : ∀ (l : List α) (x : Int) (k : Nat) (hk : k < l.length), l.length = a.length → P l[k] → 0 ≤ x → x + (wt l[k] : Int) ≤ 100000000000 → ∃ e', mb (l, x, (k : Int)) = some (.inl (l.set k e', x + (wt l[k] : Int), (k : Int) + 1)) ∧ Q l[k] e')
    (hmn : ∀ l x, l.length = a.length → mb (l, x, (l.length : Int)) = some (.inr (x, l))) :
    ∃ a', iter mb (a, x, (0 : Int)) = some (x + (wsum wt a : Int), a') ∧ a'.length = a.length := by
  have key : ∀ (m i : Nat) (x : Int) (l : List α), i + m = l.length → l.length = a.length → (∀ y ∈ l.drop i, P y) → 0 ≤ x → x + (wsum wt (l.drop i) : Int) ≤ 100000000000 →
      ∃ l', iter mb (l, x, (i : Int)) = some (x + (wsum wt (l.drop i) : Int), l') ∧ l'.length = l.length := by
    intro m
    induction m with
    | zero =>
      intro i x l hi hla hPl hx0 hx1
      have : i = l.length := by omega
      subst this
      rw [List.drop_length]
      refine ⟨l, ?_, rfl⟩
      rw [iter_r (hmn l x hla)]; simp [wsum]
    | succ m ih =>
      intro i x l hi hla hPl hx0 hx1
      have hk : i < l.length := by omega
      have hd : l.drop i = l[i] :: l.drop (i + 1) := List.drop_eq_getElem_cons hk
      rw [hd] at hPl
      rw [hd, wsum_cons] at hx1 ⊢
      obtain ⟨e', hmb, _⟩ := hm l x i hk hla (hPl _ List.mem_cons_self) hx0 (by omega)
      have e : (i : Int) + 1 = ((i + 1 : Nat) : Int) := by omega
      have hds : (l.set i e').drop (i + 1) = l.drop (i + 1) := List.drop_set_of_lt (by omega)
      obtain ⟨l', h1', h2'⟩ := ih (i + 1) (x + (wt l[i] : Int)) (l.set i e') (by rw [List.length_set]; omega) (by rw [List.length_set]; exact hla) (by rw [hds]; exact fun y hy => hPl y (List.mem_cons_of_mem _ hy)) (by omega) (by rw [hds]; omega)
      rw [hds] at h1'
      rw [List.length_set] at h2'
      have hsum : x + (wt l[i] : Int) + (wsum wt (l.drop (i + 1)) : Int) = x + ((wt l[i] + wsum wt (l.drop (i + 1)) : Nat) : Int) := by omega
      exact ⟨l', by rw [iter_l hmb, e, h1', hsum], h2'⟩
  obtain ⟨l', h1', h2'⟩ := key a.length 0 x a (by omega) rfl (by rw [List.drop_zero]; exact hP) h0 (by rw [List.drop_zero]; exact h1)
  rw [List.drop_zero] at h1'
  exact ⟨l', h1', h2'⟩
def wI (a : Item) : Nat := 3 + a.T.length
def wSp (s : Span) : Nat := wI s.From + wI s.To
theorem markItemS (a : List Item) (x : Int) (hl : a.length ≤ 1048576) (h0 : 0 ≤ x) (h1 : x + (wsum wI a : Int) ≤ 100000000000) : ∃ a', laws_markItemS.f a x = some (x + (wsum wI a : Int), a') ∧ a'.length = a.length :=
  markS1 (mb := laws_markItemS.b0) (wt := wI) (fun _ => True) (fun _ _ => True) (fun _ => trivial) a (fun _ _ => trivial) x h0 h1
    (fun l y k hk hla _ hy hy1 => by
      unfold wI at hy1 ⊢
      obtain ⟨e', em, _, _⟩ := markByteS (l[k]).T (y + 1 + 1 + 1) (by omega) (by omega)
      refine ⟨Item.mk y (y + 1) (FloatKind.f64.nearest (y + 1 + 1)) e', ?_, trivial⟩
      unfold laws_markItemS.b0
      simp only []
      rw [if_pos (by simp; omega), if_pos ⟨by omega, by omega⟩, if_pos ⟨by omega, by rw [List.length_set]; omega⟩, Option.bind_some, if_pos ⟨by omega, by simp; omega⟩, Option.bind_some, if_pos ⟨by omega, by simp; omega⟩]
      simp only [Int.toNat_natCast, at_set _ _ _ (show k < _ by simpa using hk), at_nat l k hk, List.set_set, at_set _ _ _ hk]
      simp only [show IntKind.wrap .i64 (y + 1) = y + 1 from w64 (by omega) (by omega), show IntKind.wrap .i64 (y + 1 + 1) = y + 1 + 1 from w64 (by omega) (by omega), show IntKind.wrap .i64 (y + 1 + 1 + 1) = y + 1 + 1 + 1 from w64 (by omega) (by omega)]
      rw [em, Option.bind_some, w64 (by omega) (by omega)]
      congr 3
      congr 1
      omega)
    (fun l y hla => by
      unfold laws_markItemS.b0
      simp only []
      rw [if_neg (by simp)]; rfl)
theorem markSpanS (a : List Span) (x : Int) (hl : a.length ≤ 1048576) (h0 : 0 ≤ x) (h1 : x + (wsum wSp a : Int) ≤ 100000000000) : ∃ a', laws_markSpanS.f a x = some (x + (wsum wSp a : Int), a') ∧ a'.length = a.length :=
  markS1 (mb := laws_markSpanS.b0) (wt := wSp) (fun _ => True) (fun _ _ => True) (fun _ => trivial) a (fun _ _ => trivial) x h0 h1
    (fun l y k hk hla _ hy hy1 => by
      unfold wSp wI at hy1 ⊢
      obtain ⟨e1, em1, _, _⟩ := markByteS (l[k]).From.T (y + 1 + 1 + 1) (by omega) (by omega)
      obtain ⟨e2, em2, _, _⟩ := markByteS (l[k]).To.T (y + 1 + 1 + 1 + ((l[k]).From.T.length : Int) + 1 + 1 + 1) (by omega) (by omega)
      refine ⟨Span.mk (Item.mk y (y + 1) (FloatKind.f64.nearest (y + 1 + 1)) e1) (Item.mk (y + 1 + 1 + 1 + ((l[k]).From.T.length : Int)) (y + 1 + 1 + 1 + ((l[k]).From.T.length : Int) + 1) (FloatKind.f64.nearest (y + 1 + 1 + 1 + ((l[k]).From.T.length : Int) + 1 + 1)) e2), ?_, trivial⟩
      unfold laws_markSpanS.b0
      simp only []
      rw [if_pos (by simp; omega), if_pos ⟨by omega, by omega⟩, Option.bind_some, if_pos ⟨by omega, by simp; omega⟩, Option.bind_some, if_pos ⟨by omega, by simp; omega⟩, Option.bind_some, if_pos ⟨by omega, by simp; omega⟩]
      simp only [Int.toNat_natCast, at_nat l k hk, List.set_set, at_set _ _ _ hk, List.length_set]
      simp only [show IntKind.wrap .i64 (y + 1) = y + 1 from w64 (by omega) (by omega), show IntKind.wrap .i64 (y + 1 + 1) = y + 1 + 1 from w64 (by omega) (by omega), show IntKind.wrap .i64 (y + 1 + 1 + 1) = y + 1 + 1 + 1 from w64 (by omega) (by omega)]
      rw [em1, Option.bind_some, Option.bind_some]
      simp only [at_set _ _ _ hk, List.set_set, List.length_set]
      rw [if_pos ⟨by omega, by omega⟩, Option.bind_some, if_pos ⟨by omega, by simp; omega⟩, Option.bind_some, if_pos ⟨by omega, by simp; omega⟩, Option.bind_some, if_pos ⟨by omega, by simp; omega⟩]
      simp only [Int.toNat_natCast, List.set_set, at_set _ _ _ hk, List.length_set]
      simp only [show IntKind.wrap .i64 (y + 1 + 1 + 1 + ((l[k]).From.T.length : Int) + 1) = y + 1 + 1 + 1 + ((l[k]).From.T.length : Int) + 1 from w64 (by omega) (by omega), show IntKind.wrap .i64 (y + 1 + 1 + 1 + ((l[k]).From.T.length : Int) + 1 + 1) = y + 1 + 1 + 1 + ((l[k]).From.T.length : Int) + 1 + 1 from w64 (by omega) (by omega), show IntKind.wrap .i64 (y + 1 + 1 + 1 + ((l[k]).From.T.length : Int) + 1 + 1 + 1) = y + 1 + 1 + 1 + ((l[k]).From.T.length : Int) + 1 + 1 + 1 from w64 (by omega) (by omega)]
      rw [em2, Option.bind_some, Option.bind_some, w64 (by omega) (by omega)]
      congr 3
      congr 1
      omega)
    (fun l y hla => by
      unfold laws_markSpanS.b0
      simp only []
      rw [if_neg (by simp)]; rfl)
theorem wI_le (l : List Item) : wsum wI l ≤ 4 * (l.length + wsum zI l) := wsum_le wI zI 4 l fun x _ => by unfold wI zI; omega
theorem wSp_le (l : List Span) : wsum wSp l ≤ 7 * (l.length + wsum zSp l) := wsum_le wSp zSp 7 l fun x _ => by unfold wSp wI zSp; omega
theorem lgI_of (l : List Item) (h : wsum zI l ≤ 1048576) : ∀ b ∈ l, lgI b := fun b hb => by have h1 : zI b ≤ 1048576 := Nat.le_trans (wsum_mem zI l b hb) h; exact h1
theorem lgS_of (l : List Span) (h : wsum zSp l ≤ 1048576) : ∀ b ∈ l, lgS b := fun b hb => by have h1 : zSp b ≤ 1048576 := Nat.le_trans (wsum_mem zSp l b hb) h; unfold zSp at h1; unfold lgS lgI; omega
end Go.Proofs.Ytcagjdngannneaa
