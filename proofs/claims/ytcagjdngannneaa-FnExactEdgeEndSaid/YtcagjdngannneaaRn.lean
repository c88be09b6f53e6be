
import Derived.Test.YtcagjdngannneaaRl
import Derived.Test.YtcagjdngannneaaRo
set_option linter.unusedVariables false
set_option linter.unusedSimpArgs false
set_option linter.unusedSectionVars false
namespace Go.Proofs.Ytcagjdngannneaa
open Go V Ieee
def HI (e : Item) (y : Int) (n : Nat) : Prop := e.Kind = y ∧ e.N = y + 1 ∧ e.F = FloatKind.f64.nearest (y + 1 + 1) ∧ ∃ k : Nat, n = 3 + k ∧ laws_heldByteS.f e.T (y + 1 + 1 + 1) = some (y + 1 + 1 + 1 + (k : Int))
theorem markItemH (a : List Item) (x : Int) (hl : a.length ≤ 1048576) (h0 : 0 ≤ x) (h1 : x + (wsum wI a : Int) ≤ 100000000000) : ∃ a', laws_markItemS.f a x = some (x + (wsum wI a : Int), a') ∧ a'.length = a.length ∧ laws_heldItemS.f a' x = some (x + (wsum wI a : Int)) :=
  markS_genP (mb := laws_markItemS.b0) (hb := laws_heldItemS.b0) (wt := wI) HI (fun _ => True) a (fun _ _ => trivial) x h0 h1
    (fun l y k hk hla _ hy hy1 => by
      unfold wI at hy1 ⊢
      obtain ⟨e', em, _, eh⟩ := markByteS (l[k]).T (y + 1 + 1 + 1) (by omega) (by omega)
      refine ⟨Item.mk y (y + 1) (FloatKind.f64.nearest (y + 1 + 1)) e', ?_, rfl, rfl, rfl, (l[k]).T.length, rfl, eh⟩
      unfold laws_markItemS.b0
      simp only []
      rw [if_pos (by simp; omega), if_pos ⟨by omega, by omega⟩, if_pos ⟨by omega, by rw [List.length_set]; omega⟩, Option.bind_some, if_pos ⟨by omega, by simp; omega⟩, Option.bind_some, if_pos ⟨by omega, by simp; omega⟩]
      simp only [Int.toNat_natCast, at_set _ _ _ (show k < _ by simpa using hk), at_nat l k hk, List.set_set, at_set _ _ _ hk]
      simp only [show IntKind.wrap .i64 (y + 1) = y + 1 from w64 (by omega) (by omega), show IntKind.wrap .i64 (y + 1 + 1) = y + 1 + 1 from w64 (by omega) (by omega), show IntKind.wrap .i64 (y + 1 + 1 + 1) = y + 1 + 1 + 1 from w64 (by omega) (by omega)]
      rw [em, Option.bind_some, w64 (by omega) (by omega)]
      congr 3
      congr 1
      omega)
    (fun l y hla => by
      unfold laws_markItemS.b0
      simp only []
      rw [if_neg (by simp)]; rfl)
    (fun l y k n hk hla he hy hy1 => by
      obtain ⟨e1, e2, e3, q, rfl, e4⟩ := he
      unfold laws_heldItemS.b0
      have hr : 0 ≤ (k : Int) ∧ (k : Int) < (l.length : Int) := by omega
      simp only [if_pos hr, at_nat _ k hk]
      rw [if_pos (by simp; omega), e1, if_neg (by simp), e2, show IntKind.wrap .i64 (y + 1) = y + 1 from w64 (by omega) (by omega), if_neg (by simp), e3, show IntKind.wrap .i64 (y + 1 + 1) = y + 1 + 1 from w64 (by omega) (by omega), if_neg (by rw [near_self _ (by omega) (by omega)]; decide), show IntKind.wrap .i64 (y + 1 + 1 + 1) = y + 1 + 1 + 1 from w64 (by omega) (by omega), e4, Option.bind_some, if_neg (by simp; omega), w64 (by omega) (by omega)]
      congr 3
      omega)
    (fun l y hla => by
      unfold laws_heldItemS.b0
      simp only []
      rw [if_neg (by simp)]; rfl)
def HS (e : Span) (y : Int) (n : Nat) : Prop := ∃ p q : Nat, n = p + q ∧ HI e.From y p ∧ HI e.To (y + (p : Int)) q
theorem markSpanH (a : List Span) (x : Int) (hl : a.length ≤ 1048576) (h0 : 0 ≤ x) (h1 : x + (wsum wSp a : Int) ≤ 100000000000) : ∃ a', laws_markSpanS.f a x = some (x + (wsum wSp a : Int), a') ∧ a'.length = a.length ∧ laws_heldSpanS.f a' x = some (x + (wsum wSp a : Int)) :=
  markS_genP (mb := laws_markSpanS.b0) (hb := laws_heldSpanS.b0) (wt := wSp) HS (fun _ => True) a (fun _ _ => trivial) x h0 h1
    (fun l y k hk hla _ hy hy1 => by
      unfold wSp wI at hy1 ⊢
      obtain ⟨e1, em1, _, eh1⟩ := markByteS (l[k]).From.T (y + 1 + 1 + 1) (by omega) (by omega)
      obtain ⟨e2, em2, _, eh2⟩ := markByteS (l[k]).To.T (y + 1 + 1 + 1 + ((l[k]).From.T.length : Int) + 1 + 1 + 1) (by omega) (by omega)
      have ey : y + ((3 + (l[k]).From.T.length : Nat) : Int) = y + 1 + 1 + 1 + ((l[k]).From.T.length : Int) := by omega
      refine ⟨Span.mk (Item.mk y (y + 1) (FloatKind.f64.nearest (y + 1 + 1)) e1) (Item.mk (y + 1 + 1 + 1 + ((l[k]).From.T.length : Int)) (y + 1 + 1 + 1 + ((l[k]).From.T.length : Int) + 1) (FloatKind.f64.nearest (y + 1 + 1 + 1 + ((l[k]).From.T.length : Int) + 1 + 1)) e2), ?_, 3 + (l[k]).From.T.length, 3 + (l[k]).To.T.length, rfl, ⟨rfl, rfl, rfl, _, rfl, eh1⟩, by rw [ey]; exact ⟨rfl, rfl, rfl, _, rfl, eh2⟩⟩
      unfold laws_markSpanS.b0
      simp only []
      rw [if_pos (by simp; omega), if_pos ⟨by omega, by omega⟩, Option.bind_some, if_pos ⟨by omega, by simp; omega⟩, Option.bind_some, if_pos ⟨by omega, by simp; omega⟩, Option.bind_some, if_pos ⟨by omega, by simp; omega⟩]
      simp only [Int.toNat_natCast, at_nat l k hk, List.set_set, at_set _ _ _ hk, List.length_set]
      simp only [show IntKind.wrap .i64 (y + 1) = y + 1 from w64 (by omega) (by omega), show IntKind.wrap .i64 (y + 1 + 1) = y + 1 + 1 from w64 (by omega) (by omega), show IntKind.wrap .i64 (y + 1 + 1 + 1) = y + 1 + 1 + 1 from w64 (by omega) (by omega)]
      rw [em1, Option.bind_some, Option.bind_some]
      simp only [at_set _ _ _ hk, List.set_set, List.length_set]
      rw [if_pos ⟨by omega, by omega⟩, Option.bind_some, if_pos ⟨by omega, by simp; omega⟩, Option.bind_some, if_pos ⟨by omega, by simp; omega⟩, Option.bind_some, if_pos ⟨by omega, by simp; omega⟩]
      simp only [Int.toNat_natCast, List.set_set, at_set _ _ _ hk, List.length_set]
      simp only [show IntKind.wrap .i64 (y + 1 + 1 + 1 + ((l[k]).From.T.length : Int) + 1) = y + 1 + 1 + 1 + ((l[k]).From.T.length : Int) + 1 from w64 (by omega) (by omega), show IntKind.wrap .i64 (y + 1 + 1 + 1 + ((l[k]).From.T.length : Int) + 1 + 1) = y + 1 + 1 + 1 + ((l[k]).From.T.length : Int) + 1 + 1 from w64 (by omega) (by omega), show IntKind.wrap .i64 (y + 1 + 1 + 1 + ((l[k]).From.T.length : Int) + 1 + 1 + 1) = y + 1 + 1 + 1 + ((l[k]).From.T.length : Int) + 1 + 1 + 1 from w64 (by omega) (by omega)]
      rw [em2, Option.bind_some, Option.bind_some, w64 (by omega) (by omega)]
      congr 3
      congr 1
      omega)
    (fun l y hla => by
      unfold laws_markSpanS.b0
      simp only []
      rw [if_neg (by simp)]; rfl)
    (fun l y k n hk hla he hy hy1 => by
      obtain ⟨p, q, rfl, ⟨e1, e2, e3, u, rfl, e4⟩, ⟨f1, f2, f3, v, rfl, f4⟩⟩ := he
      unfold laws_heldSpanS.b0
      have hr : 0 ≤ (k : Int) ∧ (k : Int) < (l.length : Int) := by omega
      have ey : y + ((3 + u : Nat) : Int) = y + 1 + 1 + 1 + (u : Int) := by omega
      rw [ey] at f1 f2 f3 f4
      simp only [if_pos hr, at_nat _ k hk]
      rw [if_pos (by simp; omega), e1, if_neg (by simp), e2, show IntKind.wrap .i64 (y + 1) = y + 1 from w64 (by omega) (by omega), if_neg (by simp), e3, show IntKind.wrap .i64 (y + 1 + 1) = y + 1 + 1 from w64 (by omega) (by omega), if_neg (by rw [near_self _ (by omega) (by omega)]; decide), show IntKind.wrap .i64 (y + 1 + 1 + 1) = y + 1 + 1 + 1 from w64 (by omega) (by omega), e4, Option.bind_some, if_neg (by simp; omega)]
      rw [f1, if_neg (by simp), f2, show IntKind.wrap .i64 (y + 1 + 1 + 1 + (u : Int) + 1) = y + 1 + 1 + 1 + (u : Int) + 1 from w64 (by omega) (by omega), if_neg (by simp), f3, show IntKind.wrap .i64 (y + 1 + 1 + 1 + (u : Int) + 1 + 1) = y + 1 + 1 + 1 + (u : Int) + 1 + 1 from w64 (by omega) (by omega), if_neg (by rw [near_self _ (by omega) (by omega)]; decide), show IntKind.wrap .i64 (y + 1 + 1 + 1 + (u : Int) + 1 + 1 + 1) = y + 1 + 1 + 1 + (u : Int) + 1 + 1 + 1 from w64 (by omega) (by omega), f4, Option.bind_some, if_neg (by simp; omega), w64 (by omega) (by omega)]
      congr 3
      omega)
    (fun l y hla => by
      unfold laws_heldSpanS.b0
      simp only []
      rw [if_neg (by simp)]; rfl)
end Go.Proofs.Ytcagjdngannneaa
