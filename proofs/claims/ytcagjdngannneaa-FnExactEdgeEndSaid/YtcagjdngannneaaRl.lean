
import Derived.Test.YtcagjdngannneaaRc
set_option linter.unusedVariables false
set_option linter.unusedSimpArgs false
set_option linter.unusedSectionVars false
namespace Go.Proofs.Ytcagjdngannneaa
open Go V Ieee
def zI (a : Item) : Nat := a.T.length
def zSp (s : Span) : Nat := s.From.T.length + s.To.T.length
theorem szSpan (s : Span) (n : Int) (hs : ok_Span s) (h0 : 0 ≤ n) (h1 : n ≤ 1048576) : Sz (laws_szSpan.f s n) n (zSp s) := by
  unfold laws_szSpan.f zSp
  obtain ⟨r, er, hr, hr2⟩ := szItem s.From n hs.1 h0 h1
  rw [er, Option.bind_some]
  by_cases hn : r < 0
  · rw [if_pos (by simpa using hn)]; exact ⟨-1, rfl, by omega, fun h => by omega⟩
  · rw [if_neg (by simpa using hn)]
    obtain ⟨q, eq, hq, hq2⟩ := szItem s.To r hs.2 (by omega) (by omega)
    rw [eq, Option.bind_some]
    by_cases hm : q < 0
    · rw [if_pos (by simpa using hm)]; exact ⟨-1, rfl, by omega, fun h => by omega⟩
    · rw [if_neg (by simpa using hm)]
      refine ⟨q, rfl, by omega, fun h => ?_⟩
      have := hr2 (by omega)
      have := hq2 h
      omega
theorem szSpanS (a : List Span) (n : Int) (hl : a.length ≤ maxLen) (he : ∀ b ∈ a, ok_Span b) (h0 : 0 ≤ n) (h1 : n ≤ 1048576) : Sz (laws_szSpanS.f a n) n (a.length + wsum zSp a) := by
  unfold laws_szSpanS.f
  have hl' := hl
  simp only [maxLen] at hl'
  refine szS_gen a n hl h0 h1 (fun k x hk x0 x1 => ?_) (fun x => ?_)
  · obtain ⟨r, er, hr, hr2⟩ := szSpan a[k] x (he _ (List.getElem_mem hk)) x0 x1
    refine ⟨r, hr, hr2, ?_⟩
    unfold laws_szSpanS.b0
    simp only []
    rw [if_pos (by simp; omega), if_pos ⟨by omega, by omega⟩, at_nat _ k hk]
    rw [er, Option.bind_some, w64 (by omega) (by omega)]
    by_cases hn : r < 0
    · rw [if_pos (by simpa using hn), if_pos hn]
    · rw [if_neg (by simpa using hn), if_neg hn]
  · unfold laws_szSpanS.b0
    simp only []
    rw [if_neg (by simp)]; rfl
theorem szItemS (a : List Item) (n : Int) (hl : a.length ≤ maxLen) (he : ∀ b ∈ a, ok_Item b) (h0 : 0 ≤ n) (h1 : n ≤ 1048576) : Sz (laws_szItemS.f a n) n (a.length + wsum zI a) := by
  unfold laws_szItemS.f
  have hl' := hl
  simp only [maxLen] at hl'
  refine szS_gen a n hl h0 h1 (fun k x hk x0 x1 => ?_) (fun x => ?_)
  · obtain ⟨r, er, hr, hr2⟩ := szItem a[k] x (he _ (List.getElem_mem hk)) x0 x1
    refine ⟨r, hr, hr2, ?_⟩
    unfold laws_szItemS.b0
    simp only []
    rw [if_pos (by simp; omega), if_pos ⟨by omega, by omega⟩, at_nat _ k hk]
    rw [er, Option.bind_some, w64 (by omega) (by omega)]
    by_cases hn : r < 0
    · rw [if_pos (by simpa using hn), if_pos hn]
    · rw [if_neg (by simpa using hn), if_neg hn]
  · unfold laws_szItemS.b0
    simp only []
    rw [if_neg (by simp)]; rfl
def lgI (a : Item) : Prop := a.T.length ≤ 1048576
def lgS (s : Span) : Prop := lgI s.From ∧ lgI s.To
theorem toSpan (s : Span) (h : lgS s) : laws_toSpan.f s = some s := by
  unfold laws_toSpan.f
  rw [toItem _ h.1, Option.bind_some, toItem _ h.2]; rfl
theorem eqSpan (s : Span) (h : lgS s) : laws_eqSpan.f s s = some true := by
  unfold laws_eqSpan.f
  rw [eqItem _ h.1, Option.bind_some, if_neg (by decide), eqItem _ h.2]; rfl
theorem toSpanS (a : List Span) (h : a.length ≤ 1048576) (he : ∀ b ∈ a, lgS b) : laws_toSpanS.f a = some a := by
  unfold laws_toSpanS.f
  rw [if_pos ⟨by omega, by simp only [Lim]; omega⟩]
  refine toS_gen a _ (fun l k hk hl => ?_) (fun l => ?_)
  · unfold laws_toSpanS.b0
    simp only []
    rw [if_pos (by simp; omega), if_pos ⟨by omega, by omega⟩, at_nat _ k hk]
    rw [toSpan _ (he _ (List.getElem_mem hk)), Option.bind_some, if_pos ⟨by omega, by omega⟩, w64 (by omega) (by omega)]; rfl
  · unfold laws_toSpanS.b0
    simp only []
    rw [if_neg (by simp)]; rfl
theorem toItemS (a : List Item) (h : a.length ≤ 1048576) (he : ∀ b ∈ a, lgI b) : laws_toItemS.f a = some a := by
  unfold laws_toItemS.f
  rw [if_pos ⟨by omega, by simp only [Lim]; omega⟩]
  refine toS_gen a _ (fun l k hk hl => ?_) (fun l => ?_)
  · unfold laws_toItemS.b0
    simp only []
    rw [if_pos (by simp; omega), if_pos ⟨by omega, by omega⟩, at_nat _ k hk]
    rw [toItem _ (he _ (List.getElem_mem hk)), Option.bind_some, if_pos ⟨by omega, by omega⟩, w64 (by omega) (by omega)]; rfl
  · unfold laws_toItemS.b0
    simp only []
    rw [if_neg (by simp)]; rfl
theorem eqSpanS (a : List Span) (h : a.length ≤ 1048576) (he : ∀ b ∈ a, lgS b) : laws_eqSpanS.f a a = some true := by
  unfold laws_eqSpanS.f
  have := eqS_gen (body := laws_eqSpanS.b0 a a) a a (fun k hk _ => by
    unfold laws_eqSpanS.b0
    rw [if_pos (by simp; omega), if_pos ⟨by omega, by omega⟩, if_pos ⟨by omega, by omega⟩, at_nat _ k hk]
    rw [eqSpan _ (he _ (List.getElem_mem hk)), w64 (by omega) (by omega)]
    simp) (by
    unfold laws_eqSpanS.b0
    rw [if_neg (by simp)]; rfl)
  rw [this]; simp
theorem eqItemS (a : List Item) (h : a.length ≤ 1048576) (he : ∀ b ∈ a, lgI b) : laws_eqItemS.f a a = some true := by
  unfold laws_eqItemS.f
  have := eqS_gen (body := laws_eqItemS.b0 a a) a a (fun k hk _ => by
    unfold laws_eqItemS.b0
    rw [if_pos (by simp; omega), if_pos ⟨by omega, by omega⟩, if_pos ⟨by omega, by omega⟩, at_nat _ k hk]
    rw [eqItem _ (he _ (List.getElem_mem hk)), w64 (by omega) (by omega)]
    simp) (by
    unfold laws_eqItemS.b0
    rw [if_neg (by simp)]; rfl)
  rw [this]; simp
def wI (a : Item) : Nat := 3 + a.T.length
def wSp (s : Span) : Nat := wI s.From + wI s.To
theorem wI_le (l : List Item) : wsum wI l ≤ 4 * (l.length + wsum zI l) := wsum_le wI zI 4 l fun x _ => by unfold wI zI; omega
theorem wSp_le (l : List Span) : wsum wSp l ≤ 7 * (l.length + wsum zSp l) := wsum_le wSp zSp 7 l fun x _ => by unfold wSp wI zSp; omega
theorem lgI_of (l : List Item) (h : wsum zI l ≤ 1048576) : ∀ b ∈ l, lgI b := fun b hb => by have h1 : zI b ≤ 1048576 := Nat.le_trans (wsum_mem zI l b hb) h; exact h1
theorem lgS_of (l : List Span) (h : wsum zSp l ≤ 1048576) : ∀ b ∈ l, lgS b := fun b hb => by have h1 : zSp b ≤ 1048576 := Nat.le_trans (wsum_mem zSp l b hb) h; unfold zSp at h1; unfold lgS lgI; omega
end Go.Proofs.Ytcagjdngannneaa
