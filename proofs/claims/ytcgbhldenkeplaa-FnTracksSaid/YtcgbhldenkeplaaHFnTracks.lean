import Derived.Test.YtcgbhldenkeplaaP1
/- FnTracks's model is true at every input. -/
set_option linter.unusedVariables false
set_option linter.unusedSimpArgs false
set_option linter.unusedSectionVars false
namespace Go.Proofs.Ytcgbhldenkeplaa
open Go V Ieee
theorem tkk_iff {l : List Track} : TKK l = true ↔ l.length ≤ 64 ∧ (∀ t ∈ l, TO1 t = true) ∧ (l.map (·.Xid)).Nodup := by
  unfold TKK
  simp only [Bool.and_eq_true, decide_eq_true_eq, List.all_eq_true, and_assoc]
theorem tkk_sub {l l' : List Track} (h : l'.Sublist l) (hk : TKK l = true) : TKK l' = true := by
  obtain ⟨h1, h2, h3⟩ := tkk_iff.1 hk
  exact tkk_iff.2 ⟨Nat.le_trans h.length_le h1, fun t ht => h2 t (h.subset ht), (h.map _).nodup h3⟩
theorem tkk_set {l : List Track} (own : Nat) (ho : own < l.length) (now : Int) (hn : now > (at_ l (own : Int)).Begun) (hk : TKK l = true) : TKK (l.set own (eAt (at_ l (own : Int)) now)) = true := by
  obtain ⟨h1, h2, h3⟩ := tkk_iff.1 hk
  refine tkk_iff.2 ⟨by rw [List.length_set]; exact h1, fun t ht => ?_, ?_⟩
  · rcases List.mem_or_eq_of_mem_set ht with ht | ht
    · exact h2 t ht
    · rw [ht]
      have h4 := h2 (at_ l (own : Int)) (by rw [at_nat _ own ho]; exact List.getElem_mem _)
      unfold TO1 at h4 ⊢
      unfold eAt
      simp only [Bool.and_eq_true, Bool.or_eq_true, decide_eq_true_eq] at h4 ⊢
      obtain ⟨⟨⟨⟨⟨⟨⟨a1, a2⟩, a3⟩, a4⟩, a5⟩, a6⟩, a7⟩, a8⟩ := h4
      exact ⟨⟨⟨⟨⟨⟨⟨a1, a2⟩, .inr hn⟩, a4⟩, a5⟩, a6⟩, a7⟩, a8⟩
  · have e : (l.set own (eAt (at_ l (own : Int)) now)).map (·.Xid) = l.map (·.Xid) := by
      rw [List.map_set]
      have : (eAt (at_ l (own : Int)) now).Xid = (l.map (·.Xid))[own]'(by simpa using ho) := by rw [List.getElem_map, at_nat _ own ho]; rfl
      rw [this, List.set_getElem_self]
    rw [e]; exact h3
theorem xid_inj {l : List Track} (h : (l.map (·.Xid)).Nodup) {i j : Nat} (hi : i < l.length) (hj : j < l.length) (e : (l[i]).Xid = (l[j]).Xid) : i = j := by
  have := List.pairwise_iff_getElem.1 h
  rcases Nat.lt_trichotomy i j with hij | hij | hij
  · exact absurd (by rw [List.getElem_map, List.getElem_map]; exact e) (this i j (by simpa using hi) (by simpa using hj) hij)
  · exact hij
  · exact absurd (by rw [List.getElem_map, List.getElem_map]; exact e.symm) (this j i (by simpa using hj) (by simpa using hi) hij)
def bothG (x : Int) (t : Track) : Bool := t.Xid == x && t.In && t.Out
theorem trk_b1 (r30 : List Track × Int × Int × Bool) (r65 r69 : List Track × Int) (x85 : Bool × Int) (hl : r69.1.length ≤ 1000) (h65 : ∀ t ∈ r65.1, okTk t) (h69 : ∀ t ∈ r69.1, okTk t) :
    iter (laws_FnTracks.b1 r30 r65 r69 x85) (0 : Int) = some (if (r69.1.any fun x => x.Xid == r30.2.1) = true then false else (x85.1 == (r65.2 == (2 : Int))) && TKK r69.1 && TKK r65.1) := by
  refine iter_test r69.1 _ _ _ (fun k hk => ?_) ?_
  · unfold laws_FnTracks.b1
    rw [if_pos (by simp; omega), if_pos ⟨by omega, by omega⟩, at_nat _ k hk, w64 (by omega) (by omega)]
  · unfold laws_FnTracks.b1
    rw [if_neg (by simp), impl_TracksOk _ h65, impl_TracksOk _ h69]
    cases (x85.1 == (r65.2 == (2 : Int))) <;> cases TKK r69.1 <;> cases TKK r65.1 <;> rfl
theorem trk_b0 (r30 : List Track × Int × Int × Bool) (r65 r69 : List Track × Int) (hl0 : r30.1.length ≤ 1000) (hl : r69.1.length ≤ 1000) (h65 : ∀ t ∈ r65.1, okTk t) (h69 : ∀ t ∈ r69.1, okTk t) :
    iter (laws_FnTracks.b0 r30 r65 r69) (false, (0 : Int)) = some (if (r69.1.any fun x => x.Xid == r30.2.1) = true then false else (r30.1.any (bothG r30.2.1) == (r65.2 == (2 : Int))) && TKK r69.1 && TKK r65.1) := by
  have := iter_runL (body := laws_FnTracks.b0 r30 r65 r69) r30.1 (fun (h : Bool) (k : Nat) => (h, (k : Int))) (fun h x => .inl (h || bothG r30.2.1 x)) (fun h => if (r69.1.any fun x => x.Xid == r30.2.1) = true then false else (h == (r65.2 == (2 : Int))) && TKK r69.1 && TKK r65.1) (fun _ _ => True) (fun h k hk _ => ⟨by
    unfold laws_FnTracks.b0 bothG
    rw [if_pos (by simp; omega), if_pos ⟨by omega, by omega⟩]
    simp only []
    rw [at_nat _ k hk, w64 (by omega) (by omega)]
    have e0 : 0 ≤ (k : Int) ∧ (k : Int) < (r30.1.length : Int) := ⟨by omega, by omega⟩
    cases ((r30.1[k]).Xid == r30.2.1) <;> cases h1 : (r30.1[k]).In <;> cases h2 : (r30.1[k]).Out <;> cases h <;> simp [e0, h1, h2], fun _ _ => trivial⟩) (fun h _ => by
    unfold laws_FnTracks.b0
    rw [if_neg (by simp), trk_b1 r30 r65 r69 _ hl h65 h69]; rfl) false trivial
  rw [runL_acc, Bool.false_or] at this
  exact this
theorem laws_FnTracks_true (a0 : (List Int)) (h0 : (a0.length ≤ maxLen ∧ ∀ y ∈ a0, InK .u8 y)) : laws_FnTracks.f a0 = some true := by
  have key : Ok (laws_FnTracks.f a0) fun r => r = true := by
    unfold laws_FnTracks.f laws_big.f
    rw [Option.bind_some]
    refine Ok.ite (fun _ => Ok.ret rfl) fun hbig => ?_
    have hb : a0.length ≤ 1048576 := by simp at hbig; omega
    refine Ok.bind (DrawConcurrent_ok a0 hb) fun ab _ => Ok.bind (DrawEdgeEnd_ok a0 hb) fun r hr => ?_
    obtain ⟨l, xid, now, dn⟩ := r
    obtain ⟨⟨hk, hl⟩, hnw⟩ := hr
    simp only [] at hk hl hnw
    have hkk : ∀ t ∈ l, okTk t := fun t ht => (hk t ht).k
    have hlg : ∀ t ∈ l, lgT t := fun t ht => (hkk t ht).2
    rw [impl_Concurrent, Option.bind_some, impl_Concurrent, Option.bind_some, con_comm ab.1 ab.2, if_neg (by simp)]
    simp only []
    rw [impl_EdgeEnd l (by omega) hkk, Option.bind_some, impl_EdgeEnd l (by omega) hkk, Option.bind_some, spec_EdgeEnd l (by omega) hkk, Option.bind_some]
    cases hA : (!TKK l || decide (ACT l xid < 0) || decide (now ≤ (at_ l (ACT l xid)).Begun)) with
    | true =>
      have e : ∀ d, EEnd l xid now d = ([], 1) := fun d => by unfold EEnd; rw [if_pos hA]
      rw [e, e]
      exact Ok.ret rfl
    | false =>
      have hA' := hA
      simp only [Bool.or_eq_false_iff, Bool.not_eq_false', decide_eq_false_iff_not] at hA
      obtain ⟨⟨hT, hact⟩, hnow⟩ := hA
      obtain ⟨h64, hto, hnd⟩ := tkk_iff.1 hT
      obtain ⟨own, ho, hlt, hown⟩ : ∃ own : Nat, ACT l xid = (own : Int) ∧ ∃ hk : own < l.length, (l[own]).Xid = xid := by
        unfold ACT at hact ⊢
        rcases ixf_out (fun t : Track => t.Xid == xid && t.Ended == 0) l 0 with ⟨h1, _⟩ | ⟨k, hk, h1, h2, _⟩
        · rw [h1] at hact; exact absurd (show (-1 : Int) < 0 by omega) hact
        · simp only [Bool.and_eq_true, beq_iff_eq] at h2
          exact ⟨k, by rw [h1]; omega, hk, h2.1⟩
      rw [ho] at hnow
      have e0 : EEnd l xid now false = ((l.eraseIdx own).filter (NEED (l.eraseIdx own)), 0) := by
        unfold EEnd
        rw [if_neg (by rw [hA']; decide), if_neg (by simp), ho, Int.toNat_natCast]; rfl
      have hs0 : ((l.eraseIdx own).filter (NEED (l.eraseIdx own))).Sublist l := List.filter_sublist.trans (List.eraseIdx_sublist ..)
      have hb : l.any (bothG xid) = ((at_ l (own : Int)).In && (at_ l (own : Int)).Out) := by
        rw [at_nat _ own hlt]
        rw [Bool.eq_iff_iff, List.any_eq_true]
        constructor
        · rintro ⟨x, hx, hg⟩
          obtain ⟨j, hj, rfl⟩ := List.mem_iff_getElem.1 hx
          unfold bothG at hg
          simp only [Bool.and_eq_true, beq_iff_eq] at hg
          have := xid_inj hnd hj hlt (by rw [hg.1.1, hown])
          subst this
          rw [hg.1.2, hg.2]; rfl
        · intro hg
          refine ⟨_, List.getElem_mem hlt, ?_⟩
          unfold bothG
          rw [hown, Bool.and_assoc, hg]; simp
      have h1 : (EEnd l xid now true).2 = (if ((at_ l (own : Int)).In && (at_ l (own : Int)).Out) = true then 2 else 0) ∧ TKK (EEnd l xid now true).1 = true ∧ ∀ t ∈ (EEnd l xid now true).1, okTk t := by
        unfold EEnd
        rw [if_neg (by rw [hA']; decide), ho, Bool.true_and, Int.toNat_natCast]
        cases ((at_ l (own : Int)).In && (at_ l (own : Int)).Out) with
        | true => exact ⟨rfl, hT, hkk⟩
        | false =>
          have hk2 : TKK (LFT l own now true) = true := tkk_set own hlt now (by omega) hT
          refine ⟨rfl, tkk_sub (List.filter_sublist (p := NEED (LFT l own now true))) hk2, fun t ht => ⟨?_, lft_lg l own hlt now true hlg t (List.mem_filter.1 ht).1⟩⟩
          have h5 := (List.mem_filter.1 ht).1
          unfold LFT at h5
          rw [if_pos rfl] at h5
          rcases List.mem_or_eq_of_mem_set h5 with h5 | h5
          · exact (hkk t h5).1
          · rw [h5]
            obtain ⟨k1, k2, k3, k4⟩ := (hkk (at_ l (own : Int)) (by rw [at_nat _ own hlt]; exact List.getElem_mem _)).1
            exact ⟨k1, k2, hnw, k4⟩
      have hany : ((l.eraseIdx own).filter (NEED (l.eraseIdx own))).any (fun x => x.Xid == xid) = false := by
        rw [List.any_eq_false]
        intro x hx
        have h5 := (List.mem_filter.1 hx).1
        obtain ⟨j, hj, hjo, rfl⟩ := List.mem_eraseIdx_iff_getElem.1 h5
        simp only [beq_iff_eq]
        intro he
        exact hjo (xid_inj hnd hj hlt (by rw [he, hown]))
      rw [e0]
      obtain ⟨h2, h3, h4⟩ := h1
      generalize EEnd l xid now true = W at h2 h3 h4
      rw [if_neg (by simp)]
      rw [trk_b0 _ _ _ (by show l.length ≤ 1000; omega) (Nat.le_trans hs0.length_le (by omega)) h4 (fun t ht => hkk t (hs0.subset ht))]
      simp only []
      rw [hany, if_neg (by simp), hb, h2, h3, tkk_sub hs0 hT]
      cases ((at_ l (own : Int)).In && (at_ l (own : Int)).Out) <;> exact Ok.ret rfl
  obtain ⟨r, er, rfl⟩ := key
  exact er
end Go.Proofs.Ytcgbhldenkeplaa
