
import Derived.Test.YtcagjdngannneaaRe
import Derived.Test.YtcagjdngannneaaRp
set_option linter.unusedVariables false
set_option linter.unusedSimpArgs false
set_option linter.unusedSectionVars false
namespace Go.Proofs.Ytcagjdngannneaa
open Go V Ieee
def okTk (d : Track) : Prop := ok_Track d ∧ lgT d
theorem okTk_r {d : Track} (h : okTk d) : d.Reads.length ≤ 1048576 ∧ d.Writes.length ≤ 1048576 := by have := h.2; unfold lgT zT at this; omega
def TO1 (t : Track) : Bool := rin t.Xid 1 400 && decide (t.Begun ≥ 1) && (t.Ended == 0 || decide (t.Ended > t.Begun)) && decide ((t.Reads.length : Int) ≤ 6) && t.Reads.all SPK && ((t.Reads.length : Int) == 0 || !t.All) && decide ((t.Writes.length : Int) ≤ 200) && t.Writes.all KOK
def TKK (l : List Track) : Bool := decide (l.length ≤ 64) && l.all TO1 && decide ((l.map (·.Xid)).Nodup)
theorem impl_isTrack (t : Track) (h : okTk t) : impl_isTrack.f t = some (TO1 t) := by
  obtain ⟨h1, h2⟩ := okTk_r h
  unfold impl_isTrack.f impl_isXid.f TO1
  rw [within_rin, Option.bind_some, Option.bind_some, allSpan _ (by omega) _ SPK (fun s hs => impl_SpanOk s (h.1.2.2.2.2.1.2 s hs)), allItem _ (by omega) _ KOK (fun s hs => impl_KeyOk s (h.1.2.2.2.2.2.1.2 s hs).2.2.1)]
  generalize (rin t.Xid 1 400 && decide (t.Begun ≥ 1) && (t.Ended == 0 || decide (t.Ended > t.Begun)) && decide ((t.Reads.length : Int) ≤ 6)) = A
  cases A with
  | false => rfl
  | true =>
    rw [if_pos rfl, Option.bind_some, Option.bind_some, Bool.true_and]
    generalize (t.Reads.all SPK && ((t.Reads.length : Int) == 0 || !t.All) && decide ((t.Writes.length : Int) ≤ 200)) = B
    cases B <;> rfl
theorem diffTrack (l : List Track) (hl : l.length ≤ 1000000000) : impl_areDifferent_impl_Track.f l impl_TracksOk_1.f = some (decide (l.map (·.Xid)).Nodup) := by
  unfold impl_areDifferent_impl_Track.f
  have := iter_runL (body := impl_areDifferent_impl_Track.b0 l impl_TracksOk_1.f) l (fun (m : MD) (k : Nat) => ((k : Int), m)) (fun (m : MD) x => if mget m x.Xid = true then .inr false else .inl (mset m x.Xid true)) (fun _ => true) (fun _ _ => True) (fun s k hk _ => ⟨?_, fun _ _ => trivial⟩) (fun s _ => ?_) [] trivial
  · refine this.trans ?_
    rw [runL_diff (fun x : Track => x.Xid) l [] (fun p hp => by cases hp) (by simp)]
    simp
  · unfold impl_areDifferent_impl_Track.b0 impl_TracksOk_1.f
    simp only []
    rw [if_pos (by simp; omega), if_pos ⟨by omega, by omega⟩, at_nat _ k hk, Option.bind_some]
    cases mget s l[k].Xid with
    | true => rfl
    | false => rw [if_neg (by decide), Option.bind_some, w64 (by omega) (by omega)]; rfl
  · unfold impl_areDifferent_impl_Track.b0
    simp only []
    rw [if_neg (by simp)]; rfl
theorem idxTrack (l : List Track) (hl : l.length ≤ 1000000000) (f : Track → Option Bool) (g : Track → Bool) (h : ∀ x ∈ l, f x = some (g x)) : slices_IndexFunc_impl_Track_impl_Track.f l f = some (IXF g l 0) := by
  unfold slices_IndexFunc_impl_Track_impl_Track.f
  refine iter_ixf l g (fun k hk => ?_) ?_
  · unfold slices_IndexFunc_impl_Track_impl_Track.b0
    rw [if_pos (by simp; omega), if_pos ⟨by omega, by omega⟩, at_nat _ k hk]
    rw [h _ (List.getElem_mem hk), Option.bind_some, w64 (by omega) (by omega)]
  · unfold slices_IndexFunc_impl_Track_impl_Track.b0
    rw [if_neg (by simp)]; rfl
theorem allTrack (l : List Track) (hl : l.length ≤ 1000000000) (f : Track → Option Bool) (g : Track → Bool) (h : ∀ x ∈ l, f x = some (g x)) : impl_areAll_impl_Track.f l f = some (l.all g) := by
  unfold impl_areAll_impl_Track.f slices_ContainsFunc_impl_Track_impl_Track.f
  rw [idxTrack l hl _ (fun x => !g x) (fun x hx => by unfold impl_areAll_impl_Track_1.f; rw [h x hx]; rfl), Option.bind_some, ixf_any, Option.bind_some]
  simp [List.any_eq_not_all_not]
theorem impl_TracksOk (l : List Track) (h : ∀ d ∈ l, okTk d) : impl_TracksOk.f l = some (TKK l) := by
  unfold impl_TracksOk.f TKK
  by_cases hl : l.length ≤ 64
  · rw [if_pos (by simp; omega), allTrack l (by omega) _ TO1 (fun d hd => impl_isTrack d (h d hd)), Option.bind_some, Option.bind_some, decide_eq_true hl]
    cases ha : l.all TO1 with
    | false => rfl
    | true => rw [if_pos rfl, diffTrack l (by omega)]; rfl
  · rw [if_neg (by simp; omega), decide_eq_false hl]; rfl
def specT : List Track → List Int → Bool
  | [], _ => true
  | d :: l, ts => TO1 d && !(ts.any fun t => t == d.Xid) && specT l (ts ++ [d.Xid])
theorem specT_eq : ∀ (l : List Track) (ts : List Int), ts.Nodup → specT l ts = (l.all TO1 && decide ((ts ++ l.map (·.Xid)).Nodup))
  | [], ts, h => by simp [specT, h]
  | d :: l, ts, h => by
    unfold specT
    rw [List.all_cons]
    cases hd : TO1 d with
    | false => rfl
    | true =>
      have e : ts ++ (d :: l).map (·.Xid) = (ts ++ [d.Xid]) ++ l.map (·.Xid) := by simp
      rw [e]
      cases hany : ts.any (fun t => t == d.Xid) with
      | true =>
        have hno : ¬ ((ts ++ [d.Xid]) ++ l.map (·.Xid)).Nodup := fun hn => by
          obtain ⟨t, ht, he⟩ := List.any_eq_true.1 hany
          exact (List.nodup_append.1 (List.nodup_append.1 hn).1).2.2 t ht d.Xid (by simp) (by simpa using he)
        rw [decide_eq_false hno]; simp
      | false =>
        have hn2 : (ts ++ [d.Xid]).Nodup := by
          refine List.nodup_append.2 ⟨h, by simp, fun a ha b hb hab => ?_⟩
          have := List.any_eq_false.1 hany a ha
          simp at hb
          subst hab
          exact this (by simp [hb])
        rw [specT_eq l _ hn2]; simp
theorem spec_TracksOk (l : List Track) (h : ∀ d ∈ l, okTk d) : spec_TracksOk.f l = some (TKK l) := by
  unfold spec_TracksOk.f TKK
  by_cases hl : l.length ≤ 64
  · rw [if_neg (by simp; omega), decide_eq_true hl, Bool.true_and]
    have hr : ∀ (xs : List Track) (ts : List Int), runL (σ := List Int) (fun ts d => if TO1 d && !(ts.any fun t => t == d.Xid) then .inl (ts ++ [d.Xid]) else .inr false) (fun _ => true) xs ts = specT xs ts := by
      intro xs
      induction xs with
      | nil => intro ts; rfl
      | cons d xs ih =>
        intro ts
        unfold runL specT
        cases hc : TO1 d && !(ts.any fun t => t == d.Xid) with
        | false => rfl
        | true => rw [if_pos rfl]; simpa using ih _
    have := iter_runL (body := spec_TracksOk.b0 l) l (fun (ts : List Int) (k : Nat) => (k : Int)) (fun ts d => if TO1 d && !(ts.any fun t => t == d.Xid) then .inl (ts ++ [d.Xid]) else .inr false) (fun _ => true) (fun ts k => ts = (l.take k).map (·.Xid)) (fun s k hk hI => ⟨?_, fun s' hs' => ?_⟩) (fun s hI => ?_) [] (by simp)
    · refine this.trans ?_
      rw [hr, specT_eq _ _ (by simp)]; simp
    · have hd := h _ (List.getElem_mem hk)
      generalize hdd : l[k] = d at hd
      obtain ⟨hrd, hwr⟩ := okTk_r hd
      have h3 : iter (spec_TracksOk.b3 l (k : Int)) (0 : Int) = some (if (l.take k).any (fun t => t.Xid == d.Xid) = true then .inr false else .inl ((k : Int) + 1)) := by
        have htl : (l.take k).length = k := by simp; omega
        refine iter_test (l.take k) _ _ _ (fun j hj => ?_) ?_
        · have hjl : j < l.length := by omega
          unfold spec_TracksOk.b3
          rw [if_pos (show decide ((j : Int) < (k : Int)) = true by simp; omega), if_pos (show 0 ≤ (j : Int) ∧ (j : Int) < (l.length : Int) by omega), at_nat _ j hjl, at_nat _ k hk, hdd, List.getElem_take, w64 (by omega) (by omega)]
        · unfold spec_TracksOk.b3
          rw [htl, if_neg (by simp), w64 (by omega) (by omega)]; rfl
      have h2 : iter (spec_TracksOk.b2 l (k : Int)) (0 : Int) = some (if d.Writes.any (fun x => !KOK x) = true then .inr false else if (l.take k).any (fun t => t.Xid == d.Xid) = true then .inr false else .inl ((k : Int) + 1)) := by
        refine iter_test d.Writes _ _ _ (fun j hj => ?_) ?_
        · unfold spec_TracksOk.b2
          rw [at_nat _ k hk, hdd, if_pos (show decide ((j : Int) < (d.Writes.length : Int)) = true by simp; omega), if_pos (show 0 ≤ (j : Int) ∧ (j : Int) < (d.Writes.length : Int) by omega), at_nat _ j hj, spec_KeyOk _ (hd.1.2.2.2.2.2.1.2 _ (List.getElem_mem hj)).2.2.1, Option.bind_some, w64 (by omega) (by omega)]
        · unfold spec_TracksOk.b2
          rw [at_nat _ k hk, hdd, if_neg (by simp), h3]; rfl
      have h1 : iter (spec_TracksOk.b1 l (k : Int)) (0 : Int) = some (if d.Reads.any (fun x => !SPK x) = true then .inr false else if d.Writes.any (fun x => !KOK x) = true then .inr false else if (l.take k).any (fun t => t.Xid == d.Xid) = true then .inr false else .inl ((k : Int) + 1)) := by
        refine iter_test d.Reads _ _ _ (fun j hj => ?_) ?_
        · unfold spec_TracksOk.b1
          rw [at_nat _ k hk, hdd, if_pos (show decide ((j : Int) < (d.Reads.length : Int)) = true by simp; omega), if_pos (show 0 ≤ (j : Int) ∧ (j : Int) < (d.Reads.length : Int) by omega), at_nat _ j hj]
          rw [spec_SpanOk _ (hd.1.2.2.2.2.1.2 _ (List.getElem_mem hj)), Option.bind_some, w64 (by omega) (by omega)]
        · unfold spec_TracksOk.b1
          rw [at_nat _ k hk, hdd, if_neg (by simp), h2]; rfl
      have hsany : s.any (fun t => t == d.Xid) = (l.take k).any (fun t => t.Xid == d.Xid) := by rw [hI, List.any_map]; rfl
      unfold spec_TracksOk.b0
      rw [if_pos (by simp; omega), if_pos ⟨by omega, by omega⟩, h1, in_rin, Option.bind_some, at_nat _ k hk, hdd, hsany]
      have ea : d.Reads.all SPK = !d.Reads.any (fun x => !SPK x) := by simp [List.any_eq_not_all_not]
      have eb : d.Writes.all KOK = !d.Writes.any (fun x => !KOK x) := by simp [List.any_eq_not_all_not]
      unfold TO1
      rw [ea, eb]
      have e1 : decide (d.Begun < 1) = !decide (d.Begun ≥ 1) := by by_cases hb : d.Begun ≥ 1 <;> simp [hb] <;> omega
      have e2 : (d.Ended != 0 && decide (d.Ended ≤ d.Begun)) = !(d.Ended == 0 || decide (d.Ended > d.Begun)) := by
        cases hz : d.Ended == 0 <;> by_cases hb : d.Ended > d.Begun <;> simp [bne, hz, hb] <;> omega
      have e3 : decide ((d.Reads.length : Int) > 6) = !decide ((d.Reads.length : Int) ≤ 6) := by by_cases hb : (d.Reads.length : Int) ≤ 6 <;> simp [hb] <;> omega
      have e4 : (d.All && decide ((d.Reads.length : Int) > 0)) = !((d.Reads.length : Int) == 0 || !d.All) := by
        rcases Nat.eq_zero_or_pos d.Reads.length with hb | hb
        · rw [hb]; cases d.All <;> rfl
        · rw [decide_eq_true (show (d.Reads.length : Int) > 0 by omega), show ((d.Reads.length : Int) == 0) = false from beq_eq_false_iff_ne.2 (by omega)]; cases d.All <;> rfl
      have e5 : decide ((d.Writes.length : Int) > 200) = !decide ((d.Writes.length : Int) ≤ 200) := by by_cases hb : (d.Writes.length : Int) ≤ 200 <;> simp [hb] <;> omega
      rw [e1, e2, e3, e4, e5]
      cases rin d.Xid 1 400 <;> cases decide (d.Begun ≥ 1) <;> cases (d.Ended == 0 || decide (d.Ended > d.Begun)) <;> cases decide ((d.Reads.length : Int) ≤ 6) <;> cases ((d.Reads.length : Int) == 0 || !d.All) <;> cases decide ((d.Writes.length : Int) ≤ 200) <;> cases d.Reads.any (fun x => !SPK x) <;> cases d.Writes.any (fun x => !KOK x) <;> cases (l.take k).any (fun t => t.Xid == d.Xid) <;> rfl
    · split at hs'
      · simp only [Sum.inl.injEq] at hs'
        rw [← hs', hI, List.take_succ_eq_append_getElem hk, List.map_append]; rfl
      · cases hs'
    · unfold spec_TracksOk.b0
      rw [if_neg (by simp)]; rfl
  · rw [if_pos (by simp; omega), decide_eq_false hl]; rfl
def ACT (l : List Track) (xid : Int) : Int := IXF (fun t => t.Xid == xid && t.Ended == 0) l 0
theorem impl_active (l : List Track) (hl : l.length ≤ 1048576) (xid : Int) : impl_active.f l xid = some (ACT l xid) := by
  unfold impl_active.f
  rw [idxTrack l (by omega) _ (fun t => t.Xid == xid && t.Ended == 0) (fun x hx => by
    unfold impl_active_1.f impl_Track_isActive.f
    cases x.Xid == xid <;> rfl)]; rfl
theorem spec_l13at (l : List Track) (hl : l.length ≤ 1048576) (xid : Int) : spec_l13at.f l xid = some (ACT l xid) := by
  unfold spec_l13at.f
  refine iter_ixf l _ (fun k hk => ?_) ?_
  · unfold spec_l13at.b0
    have hr : 0 ≤ (k : Int) ∧ (k : Int) < (l.length : Int) := by omega
    rw [if_pos (by simp; omega)]
    simp only [if_pos hr]
    rw [at_nat _ k hk, w64 (by omega) (by omega)]
    cases l[k].Xid == xid <;> rfl
  · unfold spec_l13at.b0
    rw [if_neg (by simp)]; rfl

theorem cpy_gen {α : Type} {body : List α × Int → Option ((List α × Int) ⊕ List α)} (a : List α) (hb : ∀ (k : Nat) (hk : k < a.length), body (a.take k, (k : Int)) = some (.inl (a.take k ++ [a[k]], (k : Int) + 1))) (hn : body (a, (a.length : Int)) = some (.inr a)) : iter body ([], (0 : Int)) = some a := by
  have := iter_for (body := body) a.length (fun k => (a.take k, (k : Int))) a (fun k hk => by rw [hb k hk, List.take_succ_eq_append_getElem hk]; rfl) (by rw [List.take_length]; exact hn)
  simpa using this
theorem impl_own (a : Item) (h : lgI a) : impl_Item_own.f a = some a := by
  unfold lgI at h
  unfold impl_Item_own.f slices_Clone_byte_byte.f
  rw [if_pos (by simp [Lim]; omega)]; rfl
theorem spec_l3copy (a : Item) (h : lgI a) : spec_l3copy.f a = some a := by
  unfold lgI at h
  unfold spec_l3copy.f
  rw [if_pos (by simp [Lim]; omega)]; rfl
theorem impl_ownSpans (l : List Span) (hl : l.length ≤ 1048576) (h : ∀ s ∈ l, lgS s) : impl_ownSpans.f l = some l := by
  unfold impl_ownSpans.f
  refine cpy_gen l (fun k hk => ?_) ?_
  · have hs := h _ (List.getElem_mem hk)
    unfold impl_ownSpans.b0
    simp only []
    rw [if_pos (by simp; omega), if_pos ⟨by omega, by omega⟩, at_nat _ k hk, impl_own _ hs.1, Option.bind_some, impl_own _ hs.2, Option.bind_some, if_pos (by simp [Lim]; omega), w64 (by omega) (by omega)]
  · unfold impl_ownSpans.b0
    simp only []
    rw [if_neg (by simp)]; rfl
theorem impl_ownItems (l : List Item) (hl : l.length ≤ 1048576) (h : ∀ s ∈ l, lgI s) : impl_ownItems.f l = some l := by
  unfold impl_ownItems.f
  refine cpy_gen l (fun k hk => ?_) ?_
  · have hs := h _ (List.getElem_mem hk)
    unfold impl_ownItems.b0
    simp only []
    rw [if_pos (by simp; omega), if_pos ⟨by omega, by omega⟩, at_nat _ k hk, impl_own _ hs, Option.bind_some, if_pos (by simp [Lim]; omega), w64 (by omega) (by omega)]
  · unfold impl_ownItems.b0
    simp only []
    rw [if_neg (by simp)]; rfl
theorem spec_l13spans (l : List Span) (hl : l.length ≤ 1048576) (h : ∀ s ∈ l, lgS s) : spec_l13spans.f l = some l := by
  unfold spec_l13spans.f
  refine cpy_gen l (fun k hk => ?_) ?_
  · have hs := h _ (List.getElem_mem hk)
    unfold spec_l13spans.b0
    simp only []
    rw [if_pos (by simp; omega), if_pos ⟨by omega, by omega⟩, if_pos ⟨by omega, by omega⟩, at_nat _ k hk, spec_l3copy _ hs.1, Option.bind_some, spec_l3copy _ hs.2, Option.bind_some, if_pos (by simp [Lim]; omega), w64 (by omega) (by omega)]
  · unfold spec_l13spans.b0
    simp only []
    rw [if_neg (by simp)]; rfl
theorem spec_l13items (l : List Item) (hl : l.length ≤ 1048576) (h : ∀ s ∈ l, lgI s) : spec_l13items.f l = some l := by
  unfold spec_l13items.f
  refine cpy_gen l (fun k hk => ?_) ?_
  · have hs := h _ (List.getElem_mem hk)
    unfold spec_l13items.b0
    simp only []
    rw [if_pos (by simp; omega), if_pos ⟨by omega, by omega⟩, at_nat _ k hk, spec_l3copy _ hs, Option.bind_some, if_pos (by simp [Lim]; omega), w64 (by omega) (by omega)]
  · unfold spec_l13items.b0
    simp only []
    rw [if_neg (by simp)]; rfl
theorem lgT_parts {d : Track} (h : lgT d) : (d.Reads.length ≤ 1048576 ∧ ∀ s ∈ d.Reads, lgS s) ∧ d.Writes.length ≤ 1048576 ∧ ∀ s ∈ d.Writes, lgI s := by
  unfold lgT zT at h
  exact ⟨⟨by omega, lgS_of _ (by omega)⟩, by omega, lgI_of _ (by omega)⟩
theorem impl_ownTracks (l : List Track) (hl : l.length ≤ 1048576) (h : ∀ s ∈ l, lgT s) : impl_ownTracks.f l = some l := by
  unfold impl_ownTracks.f
  refine cpy_gen l (fun k hk => ?_) ?_
  · obtain ⟨⟨h1, h2⟩, h3, h4⟩ := lgT_parts (h _ (List.getElem_mem hk))
    unfold impl_ownTracks.b0
    simp only []
    rw [if_pos (by simp; omega), if_pos ⟨by omega, by omega⟩, at_nat _ k hk, impl_ownSpans _ h1 h2, Option.bind_some, impl_ownItems _ h3 h4, Option.bind_some, if_pos (by simp [Lim]; omega), w64 (by omega) (by omega)]
  · unfold impl_ownTracks.b0
    simp only []
    rw [if_neg (by simp)]; rfl
theorem spec_l13copy (l : List Track) (hl : l.length ≤ 1048576) (h : ∀ s ∈ l, lgT s) : spec_l13copy.f l = some l := by
  unfold spec_l13copy.f
  refine cpy_gen l (fun k hk => ?_) ?_
  · obtain ⟨⟨h1, h2⟩, h3, h4⟩ := lgT_parts (h _ (List.getElem_mem hk))
    unfold spec_l13copy.b0
    simp only []
    rw [if_pos (by simp; omega), if_pos ⟨by omega, by omega⟩, at_nat _ k hk, spec_l13spans _ h1 h2, Option.bind_some, spec_l13items _ h3 h4, Option.bind_some, if_pos (by simp [Lim]; omega), w64 (by omega) (by omega)]
  · unfold spec_l13copy.b0
    simp only []
    rw [if_neg (by simp)]; rfl

def CON (a b : Track) : Bool := (a.Ended == 0 || decide (a.Ended > b.Begun)) && (b.Ended == 0 || decide (b.Ended > a.Begun))
theorem spec_Concurrent (a b : Track) : spec_Concurrent.f a b = some (CON a b) := rfl
theorem impl_Concurrent (a b : Track) : impl_Concurrent.f a b = some (CON a b) := by
  unfold impl_Concurrent.f impl_Track_isActive.f CON
  rw [Option.bind_some, Option.bind_some]
  cases (a.Ended == 0 || decide (a.Ended > b.Begun)) <;> rfl
theorem act_lt (l : List Track) (xid : Int) (h : ¬ ACT l xid < 0) : ∃ own : Nat, ACT l xid = (own : Int) ∧ own < l.length := by
  unfold ACT at h ⊢
  rcases ixf_out (fun t : Track => t.Xid == xid && t.Ended == 0) l 0 with ⟨h1, _⟩ | ⟨k, hk, h1, _⟩
  · rw [h1] at h; exact absurd (show (-1 : Int) < 0 by omega) h
  · exact ⟨k, by rw [h1]; omega, hk⟩
theorem tkk_len {l : List Track} (h : TKK l = true) : l.length ≤ 64 ∧ ∀ t ∈ l, TO1 t = true := by
  unfold TKK at h
  simp only [Bool.and_eq_true, decide_eq_true_eq, List.all_eq_true] at h
  exact ⟨h.1.1, h.1.2⟩
theorem runL_acc {α O : Type} (g : α → Bool) (fin : Bool → O) : ∀ (xs : List α) (h : Bool), runL (fun (h : Bool) x => .inl (h || g x)) fin xs h = fin (h || xs.any g)
  | [], h => by unfold runL; simp
  | x :: xs, h => by
    unfold runL
    simp only []
    rw [runL_acc g fin xs, List.any_cons, Bool.or_assoc]
end Go.Proofs.Ytcagjdngannneaa
