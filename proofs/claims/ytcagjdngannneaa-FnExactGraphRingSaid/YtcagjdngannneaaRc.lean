
import Derived.Test.YtcagjdngannneaaQa
import Derived.Test.YtcagjdngannneaaXs
set_option linter.unusedVariables false
set_option linter.unusedSimpArgs false
set_option linter.unusedSectionVars false
namespace Go.Proofs.Ytcagjdngannneaa
open Go V Ieee
theorem szByteS (a : List Int) (n : Int) (hl : a.length ≤ maxLen) (h0 : 0 ≤ n) (h1 : n ≤ 1048576) : Sz (laws_szByteS.f a n) n a.length := by
  simp only [maxLen] at hl
  unfold laws_szByteS.f
  rw [w64 (by omega) (by omega)]
  by_cases hneg : n - (a.length : Int) < 0
  · rw [if_pos (by simpa using hneg)]; exact ⟨-1, rfl, by omega, fun h => by omega⟩
  · rw [if_neg (by simpa using hneg)]; exact ⟨_, rfl, by omega, fun h => rfl⟩
theorem szItem (a : Item) (n : Int) (ha : ok_Item a) (h0 : 0 ≤ n) (h1 : n ≤ 1048576) : Sz (laws_szItem.f a n) n a.T.length := by
  unfold laws_szItem.f
  obtain ⟨r, er, hr, hr2⟩ := szByteS a.T n ha.2.2.2.1 h0 h1
  rw [er, Option.bind_some]
  by_cases hn : r < 0
  · rw [if_pos (by simpa using hn)]; exact ⟨-1, rfl, by omega, fun h => by omega⟩
  · rw [if_neg (by simpa using hn)]; exact ⟨r, rfl, hr, hr2⟩
theorem toByteS (a : List Int) (h : a.length ≤ 1048576) : laws_toByteS.f a = some a := by
  unfold laws_toByteS.f
  rw [if_pos ⟨by omega, by simp only [Lim]; omega⟩]
  refine toS_gen a 0 (fun l k hk hl => ?_) (fun l => ?_)
  · unfold laws_toByteS.b0
    simp only []
    rw [if_pos (by simp; omega), if_pos ⟨by omega, by omega⟩, if_pos ⟨by omega, by omega⟩, at_nat _ k hk, w64 (by omega) (by omega)]; rfl
  · unfold laws_toByteS.b0
    simp only []
    rw [if_neg (by simp)]; rfl
theorem toItem (a : Item) (h : a.T.length ≤ 1048576) : laws_toItem.f a = some a := by
  unfold laws_toItem.f
  rw [toByteS _ h]; rfl
theorem eqByteS (a : List Int) (h : a.length ≤ 1048576) : laws_eqByteS.f a a = some true := by
  unfold laws_eqByteS.f
  have := eqS_gen (body := laws_eqByteS.b0 a a) a a (fun k hk _ => by
    unfold laws_eqByteS.b0
    rw [if_pos (by simp; omega), if_pos ⟨by omega, by omega⟩, if_pos ⟨by omega, by omega⟩, at_nat _ k hk, w64 (by omega) (by omega)]
    simp) (by
    unfold laws_eqByteS.b0
    rw [if_neg (by simp)]; rfl)
  rw [this]; simp
theorem sameFloat (x : Nat) : laws_sameFloat.f x x = some true := by
  unfold laws_sameFloat.f
  have hbe : ∀ b : Bool, (b == b) = true := fun b => by cases b <;> rfl
  cases hb : fcmp .f64 x x != some .eq with
  | true => rfl
  | false =>
    have he : (fcmp .f64 x x == some .eq) = true := by
      have : (fcmp .f64 x x != some .eq) = !(fcmp .f64 x x == some .eq) := rfl
      rw [this] at hb
      cases hq : (fcmp .f64 x x == some .eq) with
      | true => rfl
      | false => rw [hq] at hb; cases hb
    rw [if_neg (by decide), he, hbe]
    split <;> rfl
theorem eqItem (a : Item) (h : a.T.length ≤ 1048576) : laws_eqItem.f a a = some true := by
  unfold laws_eqItem.f
  rw [if_neg (by simp), if_neg (by simp), sameFloat, Option.bind_some, if_neg (by decide), eqByteS _ h]; rfl
theorem wsum_one (a : List Int) : wsum (fun _ => 1) a = a.length := by
  induction a with
  | nil => rfl
  | cons x l ih => rw [wsum_cons, ih, List.length_cons]; omega
theorem markByteS (a : List Int) (x : Int) (h0 : 0 ≤ x) (h1 : x + (a.length : Int) ≤ 100000000000) : ∃ a', laws_markByteS.f a x = some (x + (a.length : Int), a') ∧ a'.length = a.length ∧ laws_heldByteS.f a' x = some (x + (a.length : Int)) := by
  have := markS_gen (mb := laws_markByteS.b0) (hb := laws_heldByteS.b0) (wt := fun _ => 1) (fun e y n => e = IntKind.wrap .u8 y ∧ n = 1) a x h0 (by rw [wsum_one]; exact h1)
    (fun l y k hk hla hy hy1 => by
      refine ⟨IntKind.wrap .u8 y, ?_, rfl, rfl⟩
      unfold laws_markByteS.b0
      simp only []
      rw [if_pos (by simp; omega), if_pos ⟨by omega, by omega⟩, w64 (by omega) (by omega), w64 (by omega) (by omega)]; rfl)
    (fun l y hla => by
      unfold laws_markByteS.b0
      simp only []
      rw [if_neg (by simp)]; rfl)
    (fun l y k n hk hla he hy hy1 => by
      obtain ⟨e1, rfl⟩ := he
      unfold laws_heldByteS.b0
      simp only []
      rw [if_pos (by simp; omega), if_pos ⟨by omega, by omega⟩, at_nat _ k hk, e1, if_neg (by simp), w64 (by omega) (by omega), w64 (by omega) (by omega)]; rfl)
    (fun l y hla => by
      unfold laws_heldByteS.b0
      simp only []
      rw [if_neg (by simp)]; rfl)
  rw [wsum_one] at this
  exact this
end Go.Proofs.Ytcagjdngannneaa
