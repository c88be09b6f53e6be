
import Derived.Test.YtcagjdngannneaaRq
set_option linter.unusedVariables false
set_option linter.unusedSimpArgs false
set_option linter.unusedSectionVars false
namespace Go.Proofs.Ytcagjdngannneaa
open Go V Ieee
def NEED (L : List Track) (t : Track) : Bool := t.Ended == 0 || L.any fun a => a.Ended == 0 && decide (t.Ended > a.Begun)
def eAt (t : Track) (now : Int) : Track := Track.mk t.Xid t.Begun now t.All t.Reads t.Writes t.In t.Out
def LFT (l : List Track) (own : Nat) (now : Int) (done : Bool) : List Track := if done = true then l.set own (eAt (at_ l (own : Int)) now) else l.eraseIdx own
def EEnd (l : List Track) (xid now : Int) (done : Bool) : List Track × Int :=
  if (!TKK l || decide (ACT l xid < 0) || decide (now ≤ (at_ l (ACT l xid)).Begun)) = true then ([], 1)
  else if (done && (at_ l (ACT l xid)).In && (at_ l (ACT l xid)).Out) = true then (l, 2)
  else ((LFT l (ACT l xid).toNat now done).filter (NEED (LFT l (ACT l xid).toNat now done)), 0)
theorem lft_len (l : List Track) (own : Nat) (now : Int) (done : Bool) : (LFT l own now done).length ≤ l.length := by
  unfold LFT
  split
  · rw [List.length_set]; exact Nat.le_refl _
  · exact List.length_eraseIdx_le _ _
theorem lft_lg (l : List Track) (own : Nat) (ho : own < l.length) (now : Int) (done : Bool) (h : ∀ t ∈ l, lgT t) : ∀ t ∈ LFT l own now done, lgT t := by
  intro t ht
  unfold LFT at ht
  split at ht
  · rcases List.mem_or_eq_of_mem_set ht with h1 | h1
    · exact h t h1
    · subst h1
      exact h (at_ l (own : Int)) (by rw [at_nat _ own ho]; exact List.getElem_mem _)
  · exact h t (List.mem_of_mem_eraseIdx ht)
theorem impl_tidy1 (L : List Track) (hl : L.length ≤ 1000000) (t : Track) : impl_tidy_1.f t L = some (!NEED L t) := by
  unfold impl_tidy_1.f impl_Track_isActive.f NEED
  rw [allTrack L (by omega) _ (fun a => !(a.Ended == 0) || decide (t.Ended ≤ a.Begun)) (fun a _ => by unfold impl_tidy_1_1.f impl_Track_isActive.f; rfl), Option.bind_some]
  cases t.Ended == 0 with
  | true => rfl
  | false =>
    rw [if_pos (by decide), Option.bind_some, Option.bind_some, Bool.false_or]
    congr 1
    rw [List.not_any_eq_all_not]
    congr 1
    funext a
    have : decide (t.Ended ≤ a.Begun) = !decide (t.Ended > a.Begun) := by by_cases h : t.Ended ≤ a.Begun <;> simp [h] <;> omega
    rw [this]
    cases a.Ended == 0 <;> cases decide (t.Ended > a.Begun) <;> rfl
theorem impl_tidyL (L : List Track) (hl : L.length ≤ 1000000) : impl_tidy.f L = some (L.filter (NEED L)) := by
  unfold impl_tidy.f
  rw [if_pos (by simp only [Lim]; omega), Option.bind_some, delF_eq _ (fun t => !NEED L t) L (fun t _ => impl_tidy1 L hl t), Option.bind_some]
  simp
theorem impl_EdgeEnd (l : List Track) (hl : l.length ≤ 1048576) (hok : ∀ t ∈ l, okTk t) (xid now : Int) (done : Bool) : impl_EdgeEnd.f l xid now done = some (EEnd l xid now done) := by
  unfold impl_EdgeEnd.f EEnd
  rw [impl_active l hl, Option.bind_some, impl_TracksOk l hok, Option.bind_some]
  cases hA : (!TKK l || decide (ACT l xid < 0)) with
  | true => rw [if_pos rfl]; rfl
  | false =>
    rw [if_neg (by decide), Bool.false_or]
    simp only [Bool.or_eq_false_iff, Bool.not_eq_false', decide_eq_false_iff_not] at hA
    obtain ⟨own, ho, hlt⟩ := act_lt l xid hA.2
    obtain ⟨h64, hto⟩ := tkk_len hA.1
    rw [ho, Int.toNat_natCast]
    have hr : 0 ≤ (own : Int) ∧ (own : Int) < (l.length : Int) := by omega
    rw [if_pos hr, Option.bind_some]
    cases hB : decide (now ≤ (at_ l (own : Int)).Begun) with
    | true => rfl
    | false =>
      simp only [Bool.false_eq_true, if_false]
      rw [impl_ownTracks l hl fun t ht => (hok t ht).2, Option.bind_some]
      have hgen : ∀ b : Bool, (b = (done && (at_ l (own : Int)).In && (at_ l (own : Int)).Out)) → ((if done = true then (if 0 ≤ (own : Int) ∧ (own : Int) < (l.length : Int) then some ((at_ l (own : Int)).In) else none) else some false).bind fun y23 => ((if y23 = true then (if 0 ≤ (own : Int) ∧ (own : Int) < (l.length : Int) then some ((at_ l (own : Int)).Out) else none) else some false))) = some b := by
        intro b hb
        rw [hb]
        simp only [if_pos hr]
        cases done with
        | false => rfl
        | true => cases (at_ l (own : Int)).In <;> rfl
      have h1 := hgen _ rfl
      rw [← Option.bind_assoc, h1, Option.bind_some]
      cases hC : (done && (at_ l (own : Int)).In && (at_ l (own : Int)).Out) with
      | true => rfl
      | false =>
        simp only [Bool.false_eq_true, if_false]
        have hL : (if done = true then (if 0 ≤ (own : Int) ∧ (own : Int) < (l.length : Int) then (some (l.set own (Track.mk (at_ l (own : Int)).Xid (at_ l (own : Int)).Begun now (at_ l (own : Int)).All (at_ l (own : Int)).Reads (at_ l (own : Int)).Writes (at_ l (own : Int)).In (at_ l (own : Int)).Out))).bind fun y46 => some y46 else none) else ((slices_Delete_impl_Track_impl_Track.f l (own : Int) (IntKind.wrap .i64 ((own : Int) + 1))).bind fun r49 => some r49)) = some (LFT l own now done) := by
          unfold LFT
          cases done with
          | true => rw [if_pos rfl, if_pos hr, if_pos rfl]; rfl
          | false =>
            rw [if_neg (by decide), if_neg (by decide), w64 (by omega) (by omega)]
            unfold slices_Delete_impl_Track_impl_Track.f dlF
            rw [if_pos ⟨by omega, by omega, by omega, by simp only [Lim]; omega⟩, Option.bind_some, List.eraseIdx_eq_take_drop_succ]
            rfl
        have hll := lft_len l own now done
        rw [hL, Option.bind_some, impl_tidyL _ (by omega), Option.bind_some]

def LK (l : List Track) (own : Nat) (now : Int) (done : Bool) (k : Nat) : List Track := if done = true then (l.set own (eAt (at_ l (own : Int)) now)).take k else (l.take k).eraseIdx own
theorem lk_succ (l : List Track) (own : Nat) (ho : own < l.length) (now : Int) (done : Bool) (k : Nat) (hk : k < l.length) : LK l own now done (k + 1) = LK l own now done k ++ (if k = own then (if done = true then [eAt (at_ l (own : Int)) now] else []) else [at_ l (k : Int)]) := by
  unfold LK
  cases done with
  | true =>
    simp only [if_true]
    rw [List.take_succ_eq_append_getElem (by rw [List.length_set]; exact hk)]
    congr 2
    by_cases h : k = own
    · subst h; simp
    · rw [if_neg h, List.getElem_set_ne (Ne.symm h), at_nat _ k hk]
  | false =>
    simp only [Bool.false_eq_true, if_false]
    rw [List.take_succ_eq_append_getElem hk]
    have hlt : (l.take k).length = k := by simp; omega
    by_cases h : k = own
    · subst h
      have e : (l.take k).eraseIdx k = l.take k := List.eraseIdx_of_length_le (by omega)
      rw [List.eraseIdx_append_of_length_le (by omega), hlt, Nat.sub_self, e]; simp
    · rw [if_neg h, at_nat _ k hk]
      rcases Nat.lt_or_ge own k with h1 | h1
      · rw [List.eraseIdx_append_of_lt_length (by omega)]
      · rw [List.eraseIdx_of_length_le (by simp; omega), List.eraseIdx_of_length_le (by omega)]
theorem lk_len (l : List Track) (own : Nat) (now : Int) (done : Bool) (k : Nat) : (LK l own now done k).length ≤ k := by
  unfold LK
  split
  · rw [List.length_take]; omega
  · exact Nat.le_trans (List.length_eraseIdx_le _ _) (by rw [List.length_take]; omega)
theorem spec_left (L : List Track) (hl : L.length ≤ 1000000) (hlg : ∀ t ∈ L, lgT t) (x : Int) : iter (spec_EdgeEnd.b1 (L, x)) (([] : List Track), (0 : Int)) = some (L.filter (NEED L), 0) := by
  have := iter_for (body := spec_EdgeEnd.b1 (L, x)) L.length (fun j => ((L.take j).filter (NEED L), (j : Int))) (L.filter (NEED L), 0) (fun j hj => ?_) ?_
  · simpa using this
  · have hm : at_ L (j : Int) ∈ L := by rw [at_nat _ j hj]; exact List.getElem_mem _
    have hfl : ((L.take j).filter (NEED L)).length ≤ 1000000 := Nat.le_trans (List.length_filter_le _ _) (by rw [List.length_take]; omega)
    have hr : 0 ≤ (j : Int) ∧ (j : Int) < (L.length : Int) := by omega
    have hin : iter (spec_EdgeEnd.b2 (L, x) ((L.take j).filter (NEED L), (j : Int))) ((at_ L (j : Int)).Ended == 0, (0 : Int)) = some (.inl ((L.take (j + 1)).filter (NEED L), ((j + 1 : Nat) : Int))) := by
      have := iter_runL (body := spec_EdgeEnd.b2 (L, x) ((L.take j).filter (NEED L), (j : Int))) L (fun (h : Bool) (q : Nat) => (h, (q : Int))) (fun h a => .inl (h || (a.Ended == 0 && decide ((at_ L (j : Int)).Ended > a.Begun))))
        (fun h => (.inl ((L.take j).filter (NEED L) ++ (if h = true then [at_ L (j : Int)] else []), ((j + 1 : Nat) : Int)) : ((List Track × Int) ⊕ (List Track × Int)))) (fun _ _ => True) (fun h q hq _ => ⟨?_, fun _ _ => trivial⟩) (fun h _ => ?_) ((at_ L (j : Int)).Ended == 0) trivial
      · refine this.trans ?_
        rw [runL_acc]
        have hN : ((at_ L (j : Int)).Ended == 0 || L.any fun a => a.Ended == 0 && decide ((at_ L (j : Int)).Ended > a.Begun)) = NEED L (at_ L (j : Int)) := rfl
        rw [hN, List.take_succ_eq_append_getElem hj, List.filter_append, ← at_nat _ j hj]
        cases hn : NEED L (at_ L (j : Int)) <;> simp [hn]
      · have hq' : 0 ≤ (q : Int) ∧ (q : Int) < (L.length : Int) := by omega
        unfold spec_EdgeEnd.b2
        simp only [if_pos hr, if_pos hq']
        rw [if_pos (by simp; omega), w64 (by omega) (by omega), at_nat _ q hq]
        cases h with
        | true => rfl
        | false => cases (L[q]).Ended == 0 <;> rfl
      · unfold spec_EdgeEnd.b2
        simp only [if_pos hr]
        rw [if_neg (by simp), w64 (by omega) (by omega)]
        cases h with
        | true => rw [if_pos rfl, if_pos (by simp [Lim]; have := List.length_filter_le (NEED L) (L.take j); rw [List.length_take] at this; omega)]; rfl
        | false => simp
    unfold spec_EdgeEnd.b1
    simp only []
    rw [if_pos (by simp; omega), if_pos hr, hin]
  · unfold spec_EdgeEnd.b1
    simp only []
    rw [if_neg (by simp), List.take_length, spec_l13copy _ (by have := List.length_filter_le (NEED L) L; omega) (fun t ht => hlg t (List.mem_filter.1 ht).1)]; rfl
theorem spec_EdgeEnd (l : List Track) (hl : l.length ≤ 1048576) (hok : ∀ t ∈ l, okTk t) (xid now : Int) (done : Bool) : spec_EdgeEnd.f l xid now done = some (EEnd l xid now done) := by
  unfold spec_EdgeEnd.f EEnd
  rw [spec_l13at l hl, Option.bind_some, spec_TracksOk l hok, Option.bind_some]
  cases hA : (!TKK l || decide (ACT l xid < 0)) with
  | true => rw [if_pos rfl]; rfl
  | false =>
    rw [if_neg (by decide), Bool.false_or]
    simp only [Bool.or_eq_false_iff, Bool.not_eq_false', decide_eq_false_iff_not] at hA
    obtain ⟨own, ho, hlt⟩ := act_lt l xid hA.2
    obtain ⟨h64, hto⟩ := tkk_len hA.1
    rw [ho, Int.toNat_natCast]
    have hr : 0 ≤ (own : Int) ∧ (own : Int) < (l.length : Int) := by omega
    rw [if_pos hr, Option.bind_some]
    cases hB : decide (now ≤ (at_ l (own : Int)).Begun) with
    | true => rfl
    | false =>
      simp only [Bool.false_eq_true, if_false]
      have h1 : ((if done = true then (if 0 ≤ (own : Int) ∧ (own : Int) < (l.length : Int) then some ((at_ l (own : Int)).In) else none) else some false).bind fun y23 => ((if y23 = true then (if 0 ≤ (own : Int) ∧ (own : Int) < (l.length : Int) then some ((at_ l (own : Int)).Out) else none) else some false))) = some (done && (at_ l (own : Int)).In && (at_ l (own : Int)).Out) := by
        simp only [if_pos hr]
        cases done with
        | false => rfl
        | true => cases (at_ l (own : Int)).In <;> rfl
      rw [← Option.bind_assoc, h1, Option.bind_some]
      cases hC : (done && (at_ l (own : Int)).In && (at_ l (own : Int)).Out) with
      | true => rw [if_pos rfl, if_pos rfl, spec_l13copy l hl fun t ht => (hok t ht).2]; rfl
      | false =>
        simp only [Bool.false_eq_true, if_false]
        have hfin : LK l own now done l.length = LFT l own now done := by
          unfold LK LFT
          cases done with
          | true => simp only [if_true]; exact List.take_of_length_le (by rw [List.length_set]; exact Nat.le_refl _)
          | false => simp only [Bool.false_eq_true, if_false, List.take_length]
        have := iter_for (body := spec_EdgeEnd.b0 l now done (own : Int)) l.length (fun k => (LK l own now done k, (k : Int))) ((LFT l own now done).filter (NEED (LFT l own now done)), 0) (fun k hk => ?_) ?_
        · refine Eq.trans ?_ this
          congr 2
          unfold LK
          cases done <;> rfl
        · have hlk := lk_len l own now done k
          unfold spec_EdgeEnd.b0
          simp only []
          rw [if_pos (by simp; omega), if_pos ⟨by omega, by omega⟩, w64 (by omega) (by omega), lk_succ l own hlt now done k hk]
          by_cases h : k = own
          · subst h
            rw [if_pos (by simp), if_pos rfl]
            cases done with
            | true => rw [if_neg (by decide), if_pos (by simp [Lim]; omega), if_pos rfl]; rfl
            | false => simp
          · rw [if_neg (show ¬ (((k : Int) == (own : Int)) = true) by simp; omega), if_pos (by simp [Lim]; omega), if_neg h]; rfl
        · have hll := lft_len l own now done
          unfold spec_EdgeEnd.b0
          simp only []
          rw [if_neg (by simp), hfin, spec_left _ (by omega) (lft_lg l own hlt now done fun t ht => (hok t ht).2)]; rfl
end Go.Proofs.Ytcagjdngannneaa
