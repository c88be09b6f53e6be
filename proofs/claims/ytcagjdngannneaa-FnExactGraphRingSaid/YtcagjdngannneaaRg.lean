
import Derived.Test.YtcagjdngannneaaRe
set_option linter.unusedVariables false
set_option linter.unusedSimpArgs false
set_option linter.unusedSectionVars false
namespace Go.Proofs.Ytcagjdngannneaa
open Go V Ieee
def okDd (d : Deed) : Prop := ok_Deed d ∧ d.Reads.length ≤ 1048576 ∧ d.Writes.length ≤ 1048576
def DO1 (d : Deed) : Bool := decide (d.Begun ≥ 1) && decide (d.Ended > d.Begun) && decide ((d.Reads.length : Int) ≤ 200) && d.Reads.all SPK && decide ((d.Writes.length : Int) ≤ 200) && d.Writes.all KOK
def TMS (l : List Deed) : List Int := l.flatMap fun d => [d.Begun, d.Ended]
def DKK (l : List Deed) : Bool := decide (l.length ≤ 100) && l.all DO1 && decide ((TMS l).Nodup)
theorem impl_isDeed (d : Deed) (h : okDd d) : impl_isDeed.f d = some (DO1 d) := by
  unfold impl_isDeed.f DO1
  rw [allSpan _ (by have := h.2.1; omega) _ SPK (fun s hs => impl_SpanOk s (h.1.2.2.2.1.2 s hs)), allItem _ (by have := h.2.2; omega) _ KOK (fun s hs => impl_KeyOk s (h.1.2.2.2.2.2 s hs).2.2.1)]
  cases hb : (decide (d.Begun ≥ (1 : Int)) && decide (d.Ended > d.Begun) && decide ((d.Reads.length : Int) ≤ (200 : Int))) with
  | false => rfl
  | true =>
    rw [if_pos rfl, Option.bind_some, Option.bind_some]
    cases hs : (d.Reads.all SPK && decide ((d.Writes.length : Int) ≤ (200 : Int))) with
    | false => rw [Bool.and_assoc true, hs]; rfl
    | true => rw [if_pos rfl, Bool.and_assoc true, hs]; rfl
theorem diffInt (l : List Int) (hl : l.length ≤ 1000000000) : impl_areDifferent_int.f l impl_DeedsOk_1.f = some (decide l.Nodup) := by
  unfold impl_areDifferent_int.f
  have := iter_runL (body := impl_areDifferent_int.b0 l impl_DeedsOk_1.f) l (fun (m : MD) (k : Nat) => ((k : Int), m)) (fun (m : MD) x => if mget m x = true then .inr false else .inl (mset m x true)) (fun _ => true) (fun _ _ => True) (fun s k hk _ => ⟨?_, fun _ _ => trivial⟩) (fun s _ => ?_) [] trivial
  · refine this.trans ?_
    rw [runL_diff (fun x => x) l [] (fun p hp => by cases hp) (by simp)]
    simp
  · unfold impl_areDifferent_int.b0 impl_DeedsOk_1.f
    simp only []
    rw [if_pos (by simp; omega), if_pos ⟨by omega, by omega⟩, at_nat _ k hk, Option.bind_some]
    cases mget s l[k] with
    | true => rfl
    | false => rw [if_neg (by decide), Option.bind_some, w64 (by omega) (by omega)]; rfl
  · unfold impl_areDifferent_int.b0
    simp only []
    rw [if_neg (by simp)]; rfl
theorem idxDeed (l : List Deed) (hl : l.length ≤ 1000000000) (f : Deed → Option Bool) (g : Deed → Bool) (h : ∀ x ∈ l, f x = some (g x)) : impl_areAll_impl_Deed.f l f = some (l.all g) := by
  unfold impl_areAll_impl_Deed.f slices_ContainsFunc_impl_Deed_impl_Deed.f slices_IndexFunc_impl_Deed_impl_Deed.f
  have := iter_ixf (body := slices_IndexFunc_impl_Deed_impl_Deed.b0 l (fun x0 => impl_areAll_impl_Deed_1.f x0 f)) l (fun x => !g x) (fun k hk => by
    unfold slices_IndexFunc_impl_Deed_impl_Deed.b0 impl_areAll_impl_Deed_1.f
    rw [if_pos (by simp; omega), if_pos ⟨by omega, by omega⟩, at_nat _ k hk]
    simp only [h _ (List.getElem_mem hk), Option.bind_some]
    rw [w64 (by omega) (by omega)]) (by
    unfold slices_IndexFunc_impl_Deed_impl_Deed.b0
    rw [if_neg (by simp)]; rfl)
  rw [this, Option.bind_some, ixf_any, Option.bind_some]
  simp [List.any_eq_not_all_not]
theorem runL_tms : ∀ (l : List Deed) (ts : List Int), runL (O := Bool) (fun (ts : List Int) d => .inl (ts ++ [d.Begun, d.Ended])) (fun ts => decide ts.Nodup) l ts = decide ((ts ++ TMS l).Nodup)
  | [], ts => by unfold runL; simp [TMS]
  | d :: l, ts => by
    unfold runL
    simp only []
    rw [runL_tms l]
    congr 2
    simp [TMS]
theorem impl_DeedsOk (l : List Deed) (h : ∀ d ∈ l, okDd d) : impl_DeedsOk.f l = some (DKK l) := by
  unfold impl_DeedsOk.f DKK
  by_cases hl : l.length ≤ 100
  · rw [if_neg (by simp; omega), idxDeed l (by omega) _ DO1 (fun d hd => impl_isDeed d (h d hd)), Option.bind_some, Option.bind_some, decide_eq_true hl]
    cases ha : l.all DO1 with
    | false => rfl
    | true =>
      rw [if_neg (by decide)]
      have := iter_runL (body := impl_DeedsOk.b0 l) l (fun (ts : List Int) (k : Nat) => (ts, (k : Int))) (fun ts d => .inl (ts ++ [d.Begun, d.Ended])) (fun ts => decide ts.Nodup) (fun ts k => ts.length = 2 * k) (fun s k hk hI => ⟨?_, fun s' hs' => ?_⟩) (fun s hI => ?_) [] rfl
      · refine this.trans ?_
        rw [runL_tms]; simp
      · unfold impl_DeedsOk.b0
        simp only []
        rw [if_pos (by simp; omega), if_pos ⟨by omega, by omega⟩, at_nat _ k hk, if_pos (by simp [Lim]; omega), w64 (by omega) (by omega)]; rfl
      · simp only [Sum.inl.injEq] at hs'
        rw [← hs', List.length_append, hI]; simp; omega
      · unfold impl_DeedsOk.b0
        simp only []
        rw [if_neg (by simp), diffInt _ (by omega)]; rfl
  · rw [if_pos (by simp; omega), decide_eq_false hl]; rfl
def specD : List Deed → List Int → Bool
  | [], _ => true
  | d :: l, ts => DO1 d && !(ts.any fun t => t == d.Begun || t == d.Ended) && specD l (ts ++ [d.Begun, d.Ended])
theorem specD_eq : ∀ (l : List Deed) (ts : List Int), ts.Nodup → specD l ts = (l.all DO1 && decide ((ts ++ TMS l).Nodup))
  | [], ts, h => by simp [specD, TMS, h]
  | d :: l, ts, h => by
    unfold specD
    rw [List.all_cons]
    cases hd : DO1 d with
    | false => rfl
    | true =>
      have hne : d.Begun ≠ d.Ended := by
        simp only [DO1, Bool.and_eq_true, decide_eq_true_eq] at hd
        omega
      have e : ts ++ TMS (d :: l) = (ts ++ [d.Begun, d.Ended]) ++ TMS l := by simp [TMS]
      rw [e]
      cases hany : ts.any (fun t => t == d.Begun || t == d.Ended) with
      | true =>
        have hno : ¬ ((ts ++ [d.Begun, d.Ended]) ++ TMS l).Nodup := fun hn => by
          obtain ⟨t, ht, he⟩ := List.any_eq_true.1 hany
          have h2 := (List.nodup_append.1 (List.nodup_append.1 hn).1).2.2 t ht
          simp only [Bool.or_eq_true, beq_iff_eq] at he
          rcases he with he | he
          · exact h2 _ (by simp) he
          · exact h2 d.Ended (by simp) he
        rw [decide_eq_false hno]; simp
      | false =>
        have hn2 : (ts ++ [d.Begun, d.Ended]).Nodup := by
          refine List.nodup_append.2 ⟨h, by simp [hne], fun a ha b hb hab => ?_⟩
          have := List.any_eq_false.1 hany a ha
          simp only [Bool.or_eq_true, beq_iff_eq, not_or] at this
          subst hab
          simp at hb
          rcases hb with hb | hb
          · exact this.1 hb
          · exact this.2 hb
        rw [specD_eq l _ hn2]; simp
theorem spec_DeedsOk (l : List Deed) (h : ∀ d ∈ l, okDd d) : spec_DeedsOk.f l = some (DKK l) := by
  unfold spec_DeedsOk.f DKK
  by_cases hl : l.length ≤ 100
  · rw [if_neg (by simp; omega), decide_eq_true hl, Bool.true_and]
    have hr : ∀ (xs : List Deed) (ts : List Int), runL (σ := List Int) (fun ts d => if DO1 d && !(ts.any fun t => t == d.Begun || t == d.Ended) then .inl (ts ++ [d.Begun, d.Ended]) else .inr false) (fun _ => true) xs ts = specD xs ts := by
      intro xs
      induction xs with
      | nil => intro ts; rfl
      | cons d xs ih =>
        intro ts
        unfold runL specD
        cases hc : DO1 d && !(ts.any fun t => t == d.Begun || t == d.Ended) with
        | false => rfl
        | true => rw [if_pos rfl]; simpa using ih _
    have := iter_runL (body := spec_DeedsOk.b0 l) l (fun (ts : List Int) (k : Nat) => (ts, (k : Int))) (fun ts d => if DO1 d && !(ts.any fun t => t == d.Begun || t == d.Ended) then .inl (ts ++ [d.Begun, d.Ended]) else .inr false) (fun _ => true) (fun ts k => ts.length = 2 * k) (fun s k hk hI => ⟨?_, fun s' hs' => ?_⟩) (fun s hI => ?_) [] rfl
    · refine this.trans ?_
      rw [hr, specD_eq _ _ (by simp)]; simp
    · have hd := h _ (List.getElem_mem hk)
      generalize hdd : l[k] = d at hd
      have hrd := hd.2.1
      have hwr := hd.2.2
      have h3 : iter (spec_DeedsOk.b3 l (s, (k : Int))) (0 : Int) = some (if s.any (fun t => t == d.Begun || t == d.Ended) = true then .inr false else .inl (s ++ [d.Begun, d.Ended], (k : Int) + 1)) := by
        refine iter_test s _ _ _ (fun j hj => ?_) ?_
        · unfold spec_DeedsOk.b3
          simp only []
          rw [if_pos (show decide ((j : Int) < (s.length : Int)) = true by simp; omega), if_pos (show 0 ≤ (j : Int) ∧ (j : Int) < (s.length : Int) by omega), at_nat _ j hj, at_nat _ k hk, hdd]
          cases h1 : s[j] == d.Begun with
          | true => rfl
          | false =>
            rw [if_neg (by simp), if_pos (show 0 ≤ (j : Int) ∧ (j : Int) < (s.length : Int) by omega), Option.bind_some, Bool.false_or]
            cases h2 : s[j] == d.Ended with
            | true => rfl
            | false => rw [if_neg (by simp), if_neg (by simp), w64 (by omega) (by omega)]
        · unfold spec_DeedsOk.b3
          simp only []
          rw [if_neg (by simp), at_nat _ k hk, hdd, if_pos (by simp [Lim]; omega), if_pos (by simp [Lim]; omega), w64 (by omega) (by omega)]
          simp
      have h2 : iter (spec_DeedsOk.b2 l (s, (k : Int))) (0 : Int) = some (if d.Writes.any (fun x => !KOK x) = true then .inr false else if s.any (fun t => t == d.Begun || t == d.Ended) = true then .inr false else .inl (s ++ [d.Begun, d.Ended], (k : Int) + 1)) := by
        refine iter_test d.Writes _ _ _ (fun j hj => ?_) ?_
        · unfold spec_DeedsOk.b2
          simp only []
          rw [at_nat _ k hk, hdd, if_pos (show decide ((j : Int) < (d.Writes.length : Int)) = true by simp; omega), if_pos (show 0 ≤ (j : Int) ∧ (j : Int) < (d.Writes.length : Int) by omega), at_nat _ j hj, spec_KeyOk _ (hd.1.2.2.2.2.2 _ (List.getElem_mem hj)).2.2.1, Option.bind_some, w64 (by omega) (by omega)]
        · unfold spec_DeedsOk.b2
          simp only []
          rw [at_nat _ k hk, hdd, if_neg (by simp), h3]; rfl
      have h1 : iter (spec_DeedsOk.b1 l (s, (k : Int))) (0 : Int) = some (if d.Reads.any (fun x => !SPK x) = true then .inr false else if d.Writes.any (fun x => !KOK x) = true then .inr false else if s.any (fun t => t == d.Begun || t == d.Ended) = true then .inr false else .inl (s ++ [d.Begun, d.Ended], (k : Int) + 1)) := by
        refine iter_test d.Reads _ _ _ (fun j hj => ?_) ?_
        · unfold spec_DeedsOk.b1
          simp only []
          rw [at_nat _ k hk, hdd, if_pos (show decide ((j : Int) < (d.Reads.length : Int)) = true by simp; omega), if_pos (show 0 ≤ (j : Int) ∧ (j : Int) < (d.Reads.length : Int) by omega), at_nat _ j hj]
          rw [spec_SpanOk _ (hd.1.2.2.2.1.2 _ (List.getElem_mem hj)), Option.bind_some, w64 (by omega) (by omega)]
        · unfold spec_DeedsOk.b1
          simp only []
          rw [at_nat _ k hk, hdd, if_neg (by simp), h2]; rfl
      unfold spec_DeedsOk.b0
      simp only []
      rw [if_pos (by simp; omega), if_pos ⟨by omega, by omega⟩, h1, at_nat _ k hk, hdd]
      have ea : d.Reads.all SPK = !d.Reads.any (fun x => !SPK x) := by simp [List.any_eq_not_all_not]
      have eb : d.Writes.all KOK = !d.Writes.any (fun x => !KOK x) := by simp [List.any_eq_not_all_not]
      unfold DO1
      rw [ea, eb]
      by_cases c1 : d.Begun ≥ 1 ∧ d.Ended > d.Begun ∧ (d.Reads.length : Int) ≤ 200 ∧ (d.Writes.length : Int) ≤ 200
      · rw [if_neg (by simp; omega), decide_eq_true c1.1, decide_eq_true c1.2.1, decide_eq_true c1.2.2.1, decide_eq_true c1.2.2.2]
        cases d.Reads.any (fun x => !SPK x) <;> cases d.Writes.any (fun x => !KOK x) <;> cases s.any (fun t => t == d.Begun || t == d.Ended) <;> rfl
      · rw [if_pos (by simp; omega)]
        have : (decide (d.Begun ≥ 1) && decide (d.Ended > d.Begun) && decide ((d.Reads.length : Int) ≤ 200) && decide ((d.Writes.length : Int) ≤ 200)) = false := by
          cases hb : (decide (d.Begun ≥ 1) && decide (d.Ended > d.Begun) && decide ((d.Reads.length : Int) ≤ 200) && decide ((d.Writes.length : Int) ≤ 200)) with
          | false => rfl
          | true =>
            simp only [Bool.and_eq_true, decide_eq_true_eq] at hb
            exact absurd ⟨hb.1.1.1, hb.1.1.2, hb.1.2, hb.2⟩ c1
        revert this
        cases decide (d.Begun ≥ 1) <;> cases decide (d.Ended > d.Begun) <;> cases decide ((d.Reads.length : Int) ≤ 200) <;> cases decide ((d.Writes.length : Int) ≤ 200) <;> cases d.Reads.any (fun x => !SPK x) <;> cases d.Writes.any (fun x => !KOK x) <;> cases s.any (fun t => t == d.Begun || t == d.Ended) <;> intro this <;> first | rfl | cases this
    · split at hs'
      · simp only [Sum.inl.injEq] at hs'
        rw [← hs', List.length_append, hI]; simp; omega
      · cases hs'
    · unfold spec_DeedsOk.b0
      simp only []
      rw [if_neg (by simp)]; rfl
  · rw [if_pos (by simp; omega), decide_eq_false hl]; rfl
end Go.Proofs.Ytcagjdngannneaa
