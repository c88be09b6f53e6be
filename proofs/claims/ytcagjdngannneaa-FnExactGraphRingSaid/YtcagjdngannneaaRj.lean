
import Derived.Test.YtcagjdngannneaaRi
set_option linter.unusedVariables false
set_option linter.unusedSimpArgs false
set_option linter.unusedSectionVars false
namespace Go.Proofs.Ytcagjdngannneaa
open Go V Ieee
theorem idxInt (l : List Int) (hl : l.length ≤ 1000000000) (f : Int → Option Bool) (g : Int → Bool) (h : ∀ x ∈ l, f x = some (g x)) : impl_areAll_int.f l f = some (l.all g) := by
  unfold impl_areAll_int.f slices_ContainsFunc_int_int.f slices_IndexFunc_int_int.f
  have := iter_ixf (body := slices_IndexFunc_int_int.b0 l (fun x0 => impl_areAll_int_1.f x0 f)) l (fun x => !g x) (fun k hk => by
    unfold slices_IndexFunc_int_int.b0 impl_areAll_int_1.f
    rw [if_pos (by simp; omega), if_pos ⟨by omega, by omega⟩, at_nat _ k hk]
    simp only [h _ (List.getElem_mem hk), Option.bind_some]
    rw [w64 (by omega) (by omega)]) (by
    unfold slices_IndexFunc_int_int.b0
    rw [if_neg (by simp)]; rfl)
  rw [this, Option.bind_some, ixf_any, Option.bind_some]
  simp [List.any_eq_not_all_not]
section
variable (l : List Deed)
def RDY (is : List Bool) (i : Nat) : Bool := !(at_ is (i : Int)) && (AHp l i l.length).all fun a => at_ is a
def PCK (is : List Bool) : Option Nat := (List.range l.length).find? (RDY l is)
def TK : Nat → List Int × List Bool → List Int × List Bool
  | 0, s => s
  | n + 1, s => match PCK l s.2 with
    | none => s
    | some i => TK n (s.1 ++ [(i : Int)], s.2.set i true)
theorem pck_some {is : List Bool} {i : Nat} (h : PCK l is = some i) : i < l.length ∧ RDY l is i = true := ⟨List.mem_range.1 (List.mem_of_find?_eq_some h), List.find?_some h⟩
theorem cnt_set {is : List Bool} {i : Nat} (hi : i < is.length) (h : at_ is (i : Int) = false) : (is.set i true).count false + 1 = is.count false := by
  rw [at_nat _ i hi] at h
  have := List.count_set (a := true) (b := false) (l := is) hi
  rw [h] at this
  simp at this
  have h1 : 1 ≤ is.count false := List.count_pos_iff.2 (by rw [← h]; exact List.getElem_mem hi)
  omega
theorem tk_inv : ∀ (n : Nat) (s : List Int × List Bool), s.2.length = l.length → s.1.length + s.2.count false = l.length → s.2.count false ≤ n → (TK l n s).2.length = l.length ∧ (TK l n s).1.length + (TK l n s).2.count false = l.length ∧ PCK l (TK l n s).2 = none
  | 0, s, h1, h2, h3 => by
    refine ⟨h1, h2, List.find?_eq_none.2 fun i hi hr => ?_⟩
    have hi := List.mem_range.1 hi
    have h4 : s.2.count false = 0 := by omega
    have h5 : at_ s.2 (i : Int) = false := by
      simp only [RDY, Bool.and_eq_true, Bool.not_eq_true'] at hr
      exact hr.1
    rw [at_nat _ i (by omega)] at h5
    have := List.count_pos_iff.2 (show false ∈ s.2 by rw [← h5]; exact List.getElem_mem (by omega))
    omega
  | n + 1, s, h1, h2, h3 => by
    unfold TK
    cases hp : PCK l s.2 with
    | none => exact ⟨h1, h2, hp⟩
    | some i =>
      obtain ⟨hi, hr⟩ := pck_some l hp
      simp only [RDY, Bool.and_eq_true, Bool.not_eq_true'] at hr
      have hc := cnt_set (is := s.2) (i := i) (by omega) hr.1
      exact tk_inv n _ (by simpa using h1) (by simp; omega) (by simp; omega)
variable (hl : l.length ≤ 100)
include hl
theorem impl_pick (o : List Int) (is : List Bool) (hlen : is.length = l.length) : iter (impl_taken.b1 (AH l) (o, is)) ((-1 : Int), (0 : Int)) = some (match PCK l is with
    | some i => (i : Int)
    | none => -1) := by
  have hal : (AH l).length = l.length := by simp [AH]
  have key : ∀ (m k : Nat), k + m = l.length → iter (impl_taken.b1 (AH l) (o, is)) ((-1 : Int), (k : Int)) = some (match (List.range' k m).find? (RDY l is) with
      | some i => (i : Int)
      | none => -1) := by
    intro m
    induction m with
    | zero =>
      intro k hk
      have : k = l.length := by omega
      subst this
      refine iter_r ?_
      unfold impl_taken.b1
      simp only []
      rw [if_neg (by simp [hal])]; rfl
    | succ m ih =>
      intro k hk
      have hlt : k < l.length := by omega
      rw [List.range'_succ, List.find?_cons]
      have hah : at_ (AH l) (k : Int) = AHp l k l.length := by rw [at_nat _ k (by omega)]; simp [AH]
      have hall : (impl_areAll_int.f (at_ (AH l) (k : Int)) (fun x0 => impl_taken_1.f x0 is)) = some ((AHp l k l.length).all fun a => at_ is a) := by
        rw [hah]
        have := ahp_len l k l.length
        refine idxInt _ (by omega) _ _ fun a ha => ?_
        have := ahp_lt l (b := k) l.length a ha
        unfold impl_taken_1.f
        rw [if_pos (by omega)]
      have hbody : impl_taken.b1 (AH l) (o, is) ((-1 : Int), (k : Int)) = if RDY l is k = true then some (.inr (k : Int)) else some (.inl ((-1 : Int), ((k + 1 : Nat) : Int))) := by
        unfold impl_taken.b1 RDY
        simp only []
        rw [if_pos (show decide ((k : Int) < ((AH l).length : Int)) = true by simp; omega), if_pos (show 0 ≤ (k : Int) ∧ (k : Int) < ((AH l).length : Int) by omega), if_pos (show 0 ≤ (k : Int) ∧ (k : Int) < (is.length : Int) by omega), hall, w64 (by omega) (by omega)]
        cases at_ is (k : Int) with
        | true => rfl
        | false => cases (AHp l k l.length).all fun a => at_ is a <;> rfl
      cases hr : RDY l is k with
      | true => rw [hr, if_pos rfl] at hbody; exact iter_r hbody
      | false =>
        rw [hr, if_neg (by decide)] at hbody
        rw [iter_l hbody]
        exact ih (k + 1) (by omega)
  have := key l.length 0 (by omega)
  rw [← List.range_eq_range'] at this
  exact this
theorem impl_take : ∀ (n : Nat) (s : List Int × List Bool), s.2.length = l.length → s.1.length + s.2.count false = l.length → s.2.count false ≤ n → iter (impl_taken.b0 (AH l)) s = some (TK l n s)
  | 0, s, h1, h2, h3 => by
    have hp := (tk_inv l 0 s h1 h2 h3).2.2
    refine iter_r ?_
    unfold impl_taken.b0
    rw [impl_pick l hl _ _ h1, show PCK l s.2 = none from hp]; rfl
  | n + 1, s, h1, h2, h3 => by
    unfold TK
    cases hp : PCK l s.2 with
    | none =>
      refine iter_r ?_
      unfold impl_taken.b0
      rw [impl_pick l hl _ _ h1, hp]; rfl
    | some i =>
      obtain ⟨hi, hr⟩ := pck_some l hp
      simp only [RDY, Bool.and_eq_true, Bool.not_eq_true'] at hr
      have hc := cnt_set (is := s.2) (i := i) (by omega) hr.1
      rw [← impl_take n (s.1 ++ [(i : Int)], s.2.set i true) (by simpa using h1) (by simp; omega) (by simp; omega)]
      refine iter_l ?_
      unfold impl_taken.b0
      rw [impl_pick l hl _ _ h1, hp, Option.bind_some]
      simp only []
      rw [if_neg (by simp), if_pos (by omega), if_pos (by simp [Lim]; omega)]; rfl
def IS0 : List Bool := List.replicate l.length false
omit hl in
theorem is0 : (IS0 l).length = l.length ∧ (IS0 l).count false = l.length := by simp [IS0]
def RES : List Int × List Bool := TK l l.length ([], IS0 l)
omit hl in
theorem res_inv : (RES l).2.length = l.length ∧ (RES l).1.length + (RES l).2.count false = l.length ∧ PCK l (RES l).2 = none := tk_inv l l.length ([], IS0 l) (is0 l).1 (by simp [(is0 l).2]) (by simp [(is0 l).2])
theorem impl_taken : impl_taken.f (AH l) = some (RES l) := by
  have hal : (AH l).length = l.length := by simp [AH]
  unfold impl_taken.f
  rw [if_pos ⟨by omega, by simp only [Lim]; omega⟩, hal]
  exact impl_take l hl l.length ([], IS0 l) (is0 l).1 (by simp [(is0 l).2]) (by simp [(is0 l).2])

def NT (is : List Bool) : List Bool := is.map fun b => !b
omit hl in
theorem nt_len (is : List Bool) : (NT is).length = is.length := by simp [NT]
omit hl in
theorem nt_at (is : List Bool) (a : Int) (h : a.toNat < is.length) : at_ (NT is) a = !at_ is a := by
  rw [at_eq _ _ (by rw [nt_len]; exact h), at_eq _ _ h]; simp [NT]
omit hl in
theorem nt_set (is : List Bool) (i : Nat) : (NT is).set i false = NT (is.set i true) := by simp [NT, List.map_set]
def PR (o : List Int) (left : List Bool) (kk q : Int) : Option ((List Int) × (List Bool) × Int ⊕ (List Int) × (List Bool)) := if (decide (q < (0 : Int))) = true then (some (Sum.inr (o, left))) else (if o.length + ([q]).length ≤ Lim then (if 0 ≤ q ∧ q < (left.length : Int) then (some (Sum.inl ((o ++ [q]), (left.set (q).toNat false), (IntKind.wrap .i64 (kk + (1 : Int)))))) else none) else none)
theorem spec_pick (o : List Int) (is : List Bool) (kk : Int) (hlen : is.length = l.length) : iter (spec_l14take.b2 l (EDs l l.length) (o, NT is, kk)) ((-1 : Int), (0 : Int)) = PR o (NT is) kk (match PCK l is with
    | some i => (i : Int)
    | none => -1) := by
  have hn := nt_len is
  have hend : ∀ (q : Int) (k : Nat), (¬ (k < l.length) ∨ 0 ≤ q) → iter (spec_l14take.b2 l (EDs l l.length) (o, NT is, kk)) (q, (k : Int)) = PR o (NT is) kk q := fun q k h => by
    have : spec_l14take.b2 l (EDs l l.length) (o, NT is, kk) (q, (k : Int)) = (PR o (NT is) kk q).bind fun o => some (Sum.inr o) := by
      unfold spec_l14take.b2
      simp only []
      rw [if_neg (by simp only [Bool.and_eq_true, decide_eq_true_eq]; omega)]; rfl
    rw [iter_eq, this]
    cases PR o (NT is) kk q <;> rfl
  have key : ∀ (m k : Nat), k + m = l.length → iter (spec_l14take.b2 l (EDs l l.length) (o, NT is, kk)) ((-1 : Int), (k : Int)) = PR o (NT is) kk (match (List.range' k m).find? (RDY l is) with
      | some i => (i : Int)
      | none => -1) := by
    intro m
    induction m with
    | zero =>
      intro k hk
      rw [hend _ k (by omega)]; rfl
    | succ m ih =>
      intro k hk
      have hlt : k < l.length := by omega
      rw [List.range'_succ, List.find?_cons]
      have hfl : (FL1 (at_ (NT is)) (AHp l k l.length)).2 = !(AHp l k l.length).all fun a => at_ is a := by
        have hb := ahp_lt l (b := k) l.length
        unfold FL1
        cases hf : (AHp l k l.length).find? (at_ (NT is)) with
        | none =>
          rw [List.find?_eq_none] at hf
          have : ((AHp l k l.length).all fun a => at_ is a) = true := List.all_eq_true.2 fun a ha => by
            have := hf a ha
            rw [nt_at is a (by have := hb a ha; omega)] at this
            simpa using this
          rw [this]; rfl
        | some a =>
          have ha := List.mem_of_find?_eq_some hf
          have hs := List.find?_some hf
          rw [nt_at is a (by have := hb a ha; omega)] at hs
          have : ((AHp l k l.length).all fun a => at_ is a) = false := List.all_eq_false.2 ⟨a, ha, by simpa using hs⟩
          rw [this]; rfl
      have hbody : spec_l14take.b2 l (EDs l l.length) (o, NT is, kk) ((-1 : Int), (k : Int)) = some (.inl (if RDY l is k = true then (k : Int) else -1, ((k + 1 : Nat) : Int))) := by
        unfold spec_l14take.b2 RDY
        simp only []
        rw [if_pos (by simp; omega), spec_l14ahead l hl (NT is) (by omega) k hlt, Option.bind_some, if_pos (show 0 ≤ (k : Int) ∧ (k : Int) < ((NT is).length : Int) by omega), nt_at is _ (by simpa using (show k < is.length by omega)), hfl, w64 (by omega) (by omega)]
        cases at_ is (k : Int) with
        | true => rfl
        | false => cases (AHp l k l.length).all fun a => at_ is a <;> rfl
      rw [iter_l hbody]
      cases hr : RDY l is k with
      | true => rw [if_pos rfl, hend _ (k + 1) (by omega)]
      | false => rw [if_neg (by decide)]; exact ih (k + 1) (by omega)
  have := key l.length 0 (by omega)
  rw [← List.range_eq_range'] at this
  exact this
theorem spec_take : ∀ (n k : Nat) (s : List Int × List Bool), k + n = l.length → s.1.length = k → s.2.length = l.length → iter (spec_l14take.b1 l (EDs l l.length)) (s.1, NT s.2, (k : Int)) = some ((TK l n s).1, NT (TK l n s).2)
  | 0, k, s, hk, h1, h2 => by
    have : k = l.length := by omega
    subst this
    refine iter_r ?_
    unfold spec_l14take.b1
    simp only []
    rw [if_neg (by simp)]; rfl
  | n + 1, k, s, hk, h1, h2 => by
    have hb1 : spec_l14take.b1 l (EDs l l.length) (s.1, NT s.2, (k : Int)) = iter (spec_l14take.b2 l (EDs l l.length) (s.1, NT s.2, (k : Int))) ((-1 : Int), (0 : Int)) := by
      unfold spec_l14take.b1
      simp only []
      rw [if_pos (by simp; omega)]
    rw [spec_pick l hl _ _ _ h2] at hb1
    have hn := nt_len s.2
    unfold TK
    cases hp : PCK l s.2 with
    | none =>
      rw [hp] at hb1
      refine iter_r (hb1.trans ?_)
      unfold PR
      rw [if_pos (by decide)]
    | some i =>
      obtain ⟨hi, hr⟩ := pck_some l hp
      rw [hp] at hb1
      simp only []
      rw [← spec_take n (k + 1) (s.1 ++ [(i : Int)], s.2.set i true) (by omega) (by simp [h1]) (by simpa using h2)]
      refine iter_l (hb1.trans ?_)
      unfold PR
      simp only []
      rw [if_neg (by simp), if_pos (by simp [Lim]; omega), if_pos (by omega), w64 (by omega) (by omega), ← nt_set]; rfl
theorem spec_l14take : spec_l14take.f l (EDs l l.length) = some ((RES l).1, NT (RES l).2) := by
  unfold spec_l14take.f
  rw [if_pos ⟨by omega, by simp only [Lim]; omega⟩]
  have := iter_for (body := spec_l14take.b0 l (EDs l l.length)) l.length (fun k => (List.replicate k true ++ List.replicate (l.length - k) false, (k : Int))) ((RES l).1, NT (RES l).2) (fun k hk => ?_) ?_
  · simpa using this
  · unfold spec_l14take.b0
    simp only []
    rw [if_pos (by simp; omega), if_pos (by simp; omega), w64 (by omega) (by omega)]
    congr 3
    rw [show l.length - k = (l.length - (k + 1)) + 1 by omega, List.replicate_succ, Int.toNat_natCast, List.set_append_right _ _ (by simp)]
    simp [List.replicate_succ']
  · unfold spec_l14take.b0
    simp only []
    rw [if_neg (by simp)]
    have := spec_take l hl l.length 0 ([], IS0 l) (by omega) rfl (is0 l).1
    have e : NT (IS0 l) = List.replicate l.length true ++ List.replicate (l.length - l.length) false := by simp [NT, IS0]
    rw [e] at this
    simp only [] at this
    rw [show ((0 : Nat) : Int) = 0 from rfl] at this
    rw [this]; rfl
end
end Go.Proofs.Ytcagjdngannneaa
