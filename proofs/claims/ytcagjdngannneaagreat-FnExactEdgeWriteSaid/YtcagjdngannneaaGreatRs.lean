
import Derived.Test.YtcagjdngannneaaGreatRq
set_option linter.unusedVariables false
set_option linter.unusedSimpArgs false
set_option linter.unusedSectionVars false
namespace Go.Proofs.YtcagjdngannneaaGreat
open Go V Ieee
def HAS (a : Track) (key : Item) : Bool := a.Writes.any fun w => ICM w key == 0
def WTT (a : Track) (key : Item) : Track := Track.mk a.Xid a.Begun a.Ended a.All a.Reads (if HAS a key = true then a.Writes else a.Writes ++ [key]) a.In a.Out
def TRD (t : Track) (key : Item) : Bool := KOK key && (t.All || t.Reads.any fun s => INS s.From s.To key)
section
variable (l : List Track) (own : Nat) (hit : Track → Bool)
def BT (k : Nat) : Bool := !(k == own) && CON (at_ l (own : Int)) (at_ l (k : Int)) && hit (at_ l (k : Int))
def rOut (t : Track) : Track := Track.mk t.Xid t.Begun t.Ended t.All t.Reads t.Writes t.In true
def UR : Nat → List Track
  | 0 => l
  | k + 1 => if BT l own hit k = true then (UR k).set k (rOut (at_ l (k : Int))) else UR k
def OR_ (o : Bool) : Nat → Bool
  | 0 => o
  | k + 1 => BT l own hit k || OR_ o k
def DR : Nat → Bool
  | 0 => false
  | k + 1 => DR k || (BT l own hit k && ((at_ l (k : Int)).In && !((at_ l (k : Int)).Ended == 0)))
theorem ur_succ (k : Nat) : UR l own hit (k + 1) = if BT l own hit k = true then (UR l own hit k).set k (rOut (at_ l (k : Int))) else UR l own hit k := rfl
theorem or_succ (o : Bool) (k : Nat) : OR_ l own hit o (k + 1) = (BT l own hit k || OR_ l own hit o k) := rfl
theorem dr_succ (k : Nat) : DR l own hit (k + 1) = (DR l own hit k || (BT l own hit k && ((at_ l (k : Int)).In && !((at_ l (k : Int)).Ended == 0)))) := rfl
theorem ur_len : ∀ k, (UR l own hit k).length = l.length
  | 0 => rfl
  | k + 1 => by
    unfold UR
    split
    · rw [List.length_set]; exact ur_len k
    · exact ur_len k
theorem ur_ge : ∀ k j, k ≤ j → (UR l own hit k)[j]? = l[j]?
  | 0, j, _ => rfl
  | k + 1, j, h => by
    unfold UR
    split
    · rw [List.getElem?_set_ne (by omega)]; exact ur_ge k j (by omega)
    · exact ur_ge k j (by omega)
theorem bt_own : BT l own hit own = false := by unfold BT; simp
theorem ur_at (k : Nat) (hk : k < l.length) : at_ (UR l own hit k) (k : Int) = at_ l (k : Int) := by
  have := ur_ge l own hit k k (Nat.le_refl _)
  rw [List.getElem?_eq_getElem hk, List.getElem?_eq_getElem (by rw [ur_len]; exact hk)] at this
  rw [at_nat _ k hk, at_nat _ k (by rw [ur_len]; exact hk)]
  exact Option.some.inj this
end
def tIn (t : Track) (o : Bool) : Track := Track.mk t.Xid t.Begun t.Ended t.All t.Reads t.Writes o t.Out
theorem impl_meet_w (l : List Track) (own : Nat) (ho : own < l.length) (hl : l.length ≤ 1000) (hit : Track → Bool) (isf : Track → Option Bool) (his : ∀ t ∈ l, isf t = some (hit t)) (t1 : Track) (e1 : t1.Ended = (at_ l (own : Int)).Ended) (e2 : t1.Begun = (at_ l (own : Int)).Begun) :
    impl_meet.f (l.set own t1) (own : Int) isf impl_EdgeWrite_3.f = some (if (DR l own hit l.length || (OR_ l own hit t1.In l.length && t1.Out)) = true then 2 else 0, (UR l own hit l.length).set own (tIn t1 (OR_ l own hit t1.In l.length))) := by
  unfold impl_meet.f
  have hml : ∀ k t, ((UR l own hit k).set own t).length = l.length := fun k t => by rw [List.length_set, ur_len]
  have := iter_for (body := impl_meet.b0 (l.set own t1) (own : Int) isf impl_EdgeWrite_3.f) l.length (fun k => ((UR l own hit k).set own (tIn t1 (OR_ l own hit t1.In k)), DR l own hit k, (k : Int))) (if (DR l own hit l.length || (OR_ l own hit t1.In l.length && t1.Out)) = true then 2 else 0, (UR l own hit l.length).set own (tIn t1 (OR_ l own hit t1.In l.length))) (fun k hk => ?_) ?_
  · exact this
  · have hr : ∀ (j : Nat) t, j < l.length → 0 ≤ (j : Int) ∧ (j : Int) < (((UR l own hit k).set own t).length : Int) := fun j t hj => by rw [hml]; omega
    unfold impl_meet.b0
    simp only []
    rw [if_pos (by rw [List.length_set]; simp; omega), w64 (by omega) (by omega)]
    have hb : BT l own hit k = (!(k == own) && CON (at_ l (own : Int)) (at_ l (k : Int)) && hit (at_ l (k : Int))) := rfl
    by_cases hko : k = own
    · subst hko
      rw [if_pos (by simp), Option.bind_some, if_pos rfl, Option.bind_some]
      rw [ur_succ, or_succ, dr_succ]
      rw [bt_own]
      simp
    · have hko' : (k == own) = false := by simpa using hko
      rw [hko', Bool.not_false, Bool.true_and] at hb
      have a1 : at_ ((UR l own hit k).set own (tIn t1 (OR_ l own hit t1.In k))) (k : Int) = at_ l (k : Int) := by rw [at_set_ne _ _ _ _ (Ne.symm hko) (by rw [ur_len]; exact hk), ur_at _ _ _ k hk]
      have a2 : at_ ((UR l own hit k).set own (tIn t1 (OR_ l own hit t1.In k))) (own : Int) = tIn t1 (OR_ l own hit t1.In k) := at_set _ _ _ (by rw [ur_len]; exact ho)
      have hmem : at_ l (k : Int) ∈ l := by rw [at_nat _ k hk]; exact List.getElem_mem _
      rw [if_neg (show ¬ (((k : Int) == (own : Int)) = true) by simp; omega), if_pos (hr k _ hk), if_pos (hr own _ ho), a1, a2, impl_Concurrent, Option.bind_some, con_comm, con_eq (a := at_ l (own : Int)) (b := tIn t1 (OR_ l own hit t1.In k)) e1 e2]
      rw [ur_succ, or_succ, dr_succ]
      cases hc : CON (at_ l (own : Int)) (at_ l (k : Int)) with
      | false =>
        rw [hc, Bool.false_and] at hb
        rw [hb, if_pos (by decide)]
        simp
      | true =>
        rw [hc, Bool.true_and] at hb
        rw [if_neg (by decide), if_pos (hr k _ hk), his _ hmem, Option.bind_some, Option.bind_some, hb]
        cases hh : hit (at_ l (k : Int)) with
        | false => simp
        | true =>
          simp only [Bool.not_true, Option.bind_some, Bool.false_eq_true, if_false, if_true, Bool.true_or, Bool.true_and]
          rw [if_pos (hr own _ ho), if_pos (hr k _ hk)]
          have e3 : impl_EdgeWrite_3.f ((UR l own hit k).set own (tIn t1 (OR_ l own hit t1.In k))) (own : Int) (k : Int) = some (((UR l own hit k).set k (rOut (at_ l (k : Int)))).set own (tIn t1 true)) := by
            unfold impl_EdgeWrite_3.f
            simp only [Option.bind_some, Int.toNat_natCast, a2, List.set_set]
            rw [at_set_ne _ _ _ _ (Ne.symm hko) (by rw [ur_len]; exact hk), ur_at _ _ _ k hk, List.set_comm _ _ (Ne.symm hko)]; rfl
          rw [e3, Option.bind_some]
          have a3 : at_ (((UR l own hit k).set k (rOut (at_ l (k : Int)))).set own (tIn t1 true)) (k : Int) = rOut (at_ l (k : Int)) := by rw [at_set_ne _ _ _ _ (Ne.symm hko) (by rw [List.length_set, ur_len]; exact hk), at_set _ _ _ (by rw [ur_len]; exact hk)]
          have hr2 : 0 ≤ (k : Int) ∧ (k : Int) < ((((UR l own hit k).set k (rOut (at_ l (k : Int)))).set own (tIn t1 true)).length : Int) := by rw [List.length_set, List.length_set, ur_len]; omega
          simp only [if_pos hr2, a3, impl_Track_isActive.f]
          show _ = some (Sum.inl (_, DR l own hit k || ((at_ l (k : Int)).In && !((at_ l (k : Int)).Ended == 0)), _))
          cases DR l own hit k with
          | true => rfl
          | false =>
            rw [if_neg (by decide), show (rOut (at_ l (k : Int))).Out = true from rfl, show (rOut (at_ l (k : Int))).In = (at_ l (k : Int)).In from rfl]
            cases (at_ l (k : Int)).In <;> rfl
  · unfold impl_meet.b0
    simp only []
    have hr : 0 ≤ (own : Int) ∧ (own : Int) < (((UR l own hit l.length).set own (tIn t1 (OR_ l own hit t1.In l.length))).length : Int) := by rw [hml]; omega
    rw [if_neg (by rw [List.length_set]; simp), at_set _ _ _ (by rw [ur_len]; exact ho)]
    simp only [if_pos hr]
    cases DR l own hit l.length with
    | true => rfl
    | false =>
      rw [if_neg (by decide), show (tIn t1 (OR_ l own hit t1.In l.length)).In = OR_ l own hit t1.In l.length from rfl, show (tIn t1 (OR_ l own hit t1.In l.length)).Out = t1.Out from rfl]
      cases OR_ l own hit t1.In l.length with
      | false => rfl
      | true => cases t1.Out <;> rfl
theorem impl_hit (t : Track) (key : Item) (hok : okTk t) (hk : ok_Item key) : impl_EdgeWrite_2.f t key = some (TRD t key) := by
  obtain ⟨⟨h1, _⟩, _⟩ := lgT_parts hok.2
  unfold impl_EdgeWrite_2.f impl_TrackReads.f TRD
  rw [impl_KeyOk _ hk.2.2.1, Option.bind_some, cntSpan _ (by omega) _ (fun s => INS s.From s.To key) (fun s hs => by
    unfold impl_TrackReads_1.f impl_Span_has.f
    have := hok.1.2.2.2.2.1.2 s hs
    rw [impl_InSpan _ _ _ this.1 this.2 hk]; rfl)]
  cases KOK key with
  | false => rfl
  | true => cases t.All <;> rfl
theorem spec_hit (t : Track) (key : Item) (hok : okTk t) (hk : ok_Item key) : spec_TrackReads.f t key = some (TRD t key) := by
  obtain ⟨⟨h1, _⟩, _⟩ := lgT_parts hok.2
  unfold spec_TrackReads.f TRD
  rw [spec_KeyOk _ hk.2.2.1, Option.bind_some]
  cases KOK key with
  | false => rfl
  | true =>
    rw [if_neg (by decide), Bool.true_and]
    have := iter_test (body := spec_TrackReads.b0 t key) t.Reads (fun s => INS s.From s.To key) true t.All (fun j hj => by
      have hs := hok.1.2.2.2.2.1.2 _ (List.getElem_mem hj)
      have hr : 0 ≤ (j : Int) ∧ (j : Int) < (t.Reads.length : Int) := by omega
      unfold spec_TrackReads.b0
      rw [if_pos (by simp; omega)]
      simp only [if_pos hr]
      rw [at_nat _ j hj, spec_InSpan _ _ _ hs.1 hs.2 hk, Option.bind_some, w64 (by omega) (by omega)]) (by
      unfold spec_TrackReads.b0
      rw [if_neg (by simp)]; rfl)
    rw [this]
    cases t.All <;> cases t.Reads.any (fun s => INS s.From s.To key) <;> rfl
theorem spec_has (a : Track) (key : Item) (hok : okTk a) (hv : TO1 a = true) (hk : ok_Item key) (hkk : KOK key = true) : spec_l13has.f a.Writes key = some (HAS a key) := by
  obtain ⟨_, h1, _⟩ := lgT_parts hok.2
  have hw : ∀ w ∈ a.Writes, KOK w = true := by
    unfold TO1 at hv
    simp only [Bool.and_eq_true, List.all_eq_true] at hv
    exact hv.2
  unfold spec_l13has.f HAS
  rw [iter_test (body := spec_l13has.b0 a.Writes key) a.Writes (fun w => ICM w key == 0) true false (fun j hj => by
    unfold spec_l13has.b0
    rw [if_pos (by simp; omega), if_pos ⟨by omega, by omega⟩, at_nat _ j hj, spec_ItemCompare _ _ (hok.1.2.2.2.2.2.1.2 _ (List.getElem_mem hj)) hk (kok_iok (hw _ (List.getElem_mem hj))) (kok_iok hkk), Option.bind_some, w64 (by omega) (by omega)]) (by
    unfold spec_l13has.b0
    rw [if_neg (by simp)]; rfl)]
  cases a.Writes.any (fun w => ICM w key == 0) <;> rfl
theorem impl_has (a : Track) (key : Item) (hok : okTk a) (hk : ok_Item key) : slices_ContainsFunc_impl_Item_impl_Item.f a.Writes (fun x0 => impl_EdgeWrite_1.f x0 key) = some (HAS a key) := by
  obtain ⟨_, h1, _⟩ := lgT_parts hok.2
  exact cntItem _ (by omega) _ (fun w => ICM w key == 0) fun w hw => by
    unfold impl_EdgeWrite_1.f
    rw [impl_compareItems _ _ (hok.1.2.2.2.2.2.1.2 w hw) hk]; rfl
def EWr (l : List Track) (xid : Int) (key : Item) : List Track × Int :=
  if (!TKK l || decide (ACT l xid < 0) || !KOK key) = true then ([], 1)
  else
    let own := (ACT l xid).toNat
    let hit := fun t : Track => TRD t key
    let t1 := WTT (at_ l (own : Int)) key
    if decide ((t1.Writes.length : Int) > 200) = true then ([], 1)
    else ((UR l own hit l.length).set own (tIn t1 (OR_ l own hit t1.In l.length)), if (DR l own hit l.length || (OR_ l own hit t1.In l.length && t1.Out)) = true then 2 else 0)
theorem impl_EdgeWrite (l : List Track) (hl : l.length ≤ 1048576) (hok : ∀ t ∈ l, okTk t) (xid : Int) (key : Item) (hk : ok_Item key) (hkl : lgI key) : impl_EdgeWrite.f l xid key = some (EWr l xid key) := by
  unfold impl_EdgeWrite.f EWr
  rw [impl_active l hl, Option.bind_some, impl_TracksOk l hok, Option.bind_some, impl_KeyOk key hk.2.2.1, Option.bind_some]
  cases hA : (!TKK l || decide (ACT l xid < 0)) with
  | true => rw [if_pos rfl]; rfl
  | false =>
    rw [if_neg (by decide), Option.bind_some, Bool.false_or]
    cases hB : KOK key with
    | false => rfl
    | true =>
      simp only [Bool.not_true, Bool.false_eq_true, if_false]
      simp only [Bool.or_eq_false_iff, Bool.not_eq_false', decide_eq_false_iff_not] at hA
      obtain ⟨own, ho, hlt⟩ := act_lt l xid hA.2
      obtain ⟨h64, hto⟩ := tkk_len hA.1
      have hm : at_ l (own : Int) ∈ l := by rw [at_nat _ own hlt]; exact List.getElem_mem _
      obtain ⟨_, hwl, _⟩ := lgT_parts (hok _ hm).2
      rw [impl_ownTracks l hl fun t ht => (hok t ht).2, Option.bind_some, ho, if_pos ⟨by omega, by omega⟩, impl_has _ key (hok _ hm) hk, Option.bind_some]
      have hY : (if (!HAS (at_ l (own : Int)) key) = true then (impl_Item_own.f key).bind fun r56 => if (at_ l (own : Int)).Writes.length + [r56].length ≤ Lim then (some (l.set (own : Int).toNat (Track.mk (at_ l (own : Int)).Xid (at_ l (own : Int)).Begun (at_ l (own : Int)).Ended (at_ l (own : Int)).All (at_ l (own : Int)).Reads ((at_ l (own : Int)).Writes ++ [r56]) (at_ l (own : Int)).In (at_ l (own : Int)).Out))).bind fun y82 => some y82 else none else some l) = some (l.set own (WTT (at_ l (own : Int)) key)) := by
        unfold WTT
        cases hh : HAS (at_ l (own : Int)) key with
        | true =>
          have : l.set own (at_ l (own : Int)) = l := by rw [at_nat _ own hlt]; exact List.set_getElem_self hlt
          exact congrArg some this.symm
        | false => rw [if_pos (by decide), impl_own _ hkl, Option.bind_some, if_pos (by simp [Lim]; omega)]; rfl
      rw [hY, Option.bind_some, if_pos (by rw [List.length_set]; omega), at_set _ _ _ hlt, Int.toNat_natCast]
      cases hC : decide (((WTT (at_ l (own : Int)) key).Writes.length : Int) > 200) with
      | true => rfl
      | false =>
        rw [if_neg (by decide), impl_meet_w l own hlt (by omega) (fun t : Track => TRD t key) (fun x0 => impl_EdgeWrite_2.f x0 key) (fun t ht => impl_hit t key (hok t ht) hk) (WTT (at_ l (own : Int)) key) rfl rfl]
        rfl
theorem spec_EdgeWrite (l : List Track) (hl : l.length ≤ 1048576) (hok : ∀ t ∈ l, okTk t) (xid : Int) (key : Item) (hk : ok_Item key) (hkl : lgI key) : spec_EdgeWrite.f l xid key = some (EWr l xid key) := by
  unfold spec_EdgeWrite.f EWr
  rw [spec_l13at l hl, Option.bind_some, spec_TracksOk l hok, Option.bind_some, spec_KeyOk key hk.2.2.1, Option.bind_some]
  cases hA : (!TKK l || decide (ACT l xid < 0)) with
  | true => rw [if_pos rfl]; rfl
  | false =>
    rw [if_neg (by decide), Option.bind_some, Bool.false_or]
    cases hB : KOK key with
    | false => rfl
    | true =>
      simp only [Bool.not_true, Bool.false_eq_true, if_false]
      simp only [Bool.or_eq_false_iff, Bool.not_eq_false', decide_eq_false_iff_not] at hA
      obtain ⟨own, ho, hlt⟩ := act_lt l xid hA.2
      obtain ⟨h64, hto⟩ := tkk_len hA.1
      have hmem : ∀ k, k < l.length → at_ l (k : Int) ∈ l := fun k hk => by rw [at_nat _ k hk]; exact List.getElem_mem _
      obtain ⟨_, hwl, _⟩ := lgT_parts (hok _ (hmem own hlt)).2
      rw [spec_l13copy l hl fun t ht => (hok t ht).2, Option.bind_some, ho, if_pos ⟨by omega, by omega⟩, spec_has _ key (hok _ (hmem own hlt)) (hto _ (hmem own hlt)) hk hB, Option.bind_some, Int.toNat_natCast]
      have hY : (if (!HAS (at_ l (own : Int)) key) = true then (spec_l3copy.f key).bind fun r60 => if (at_ l (own : Int)).Writes.length + [r60].length ≤ Lim then some (l, (at_ l (own : Int)).Reads, (at_ l (own : Int)).Writes ++ [r60]) else none else some (l, (at_ l (own : Int)).Reads, (at_ l (own : Int)).Writes)) = some (l, (WTT (at_ l (own : Int)) key).Reads, (WTT (at_ l (own : Int)) key).Writes) := by
        unfold WTT
        cases hh : HAS (at_ l (own : Int)) key with
        | true => rfl
        | false => rw [if_pos (by decide), spec_l3copy _ hkl, Option.bind_some, if_pos (by simp [Lim]; omega)]; rfl
      rw [hY, Option.bind_some]
      cases hC : decide (((WTT (at_ l (own : Int)) key).Writes.length : Int) > 200) with
      | true => rfl
      | false =>
      rw [if_neg (by decide)]
      have := iter_for (body := spec_EdgeWrite.b0 l key (own : Int) l (l, (WTT (at_ l (own : Int)) key).Reads, (WTT (at_ l (own : Int)) key).Writes)) l.length (fun k => (UR l own (fun t : Track => TRD t key) k, (if DR l own (fun t : Track => TRD t key) k = true then 2 else 0), (k : Int), OR_ l own (fun t : Track => TRD t key) (at_ l (own : Int)).In k)) ((UR l own (fun t : Track => TRD t key) l.length).set own (tIn (WTT (at_ l (own : Int)) key) (OR_ l own (fun t : Track => TRD t key) (at_ l (own : Int)).In l.length)), if (DR l own (fun t : Track => TRD t key) l.length || (OR_ l own (fun t : Track => TRD t key) (at_ l (own : Int)).In l.length && (at_ l (own : Int)).Out)) = true then 2 else 0) (fun k hk' => ?_) ?_
      · exact this
      · have hm := hmem k hk'
        have hr : 0 ≤ (k : Int) ∧ (k : Int) < ((UR l own (fun t : Track => TRD t key) k).length : Int) := by rw [ur_len]; omega
        have hb : BT l own (fun t : Track => TRD t key) k = (!(k == own) && CON (at_ l (own : Int)) (at_ l (k : Int)) && TRD (at_ l (k : Int)) key) := rfl
        have hspec := spec_hit (at_ l (k : Int)) key (hok _ hm) hk
        generalize hhit : (fun t : Track => TRD t key) = hit at hr hb
        unfold spec_EdgeWrite.b0
        simp only []
        rw [if_pos (by rw [ur_len]; simp; omega), if_pos (by rw [ur_len]; omega), ur_at _ _ _ k hk', w64 (by omega) (by omega), ur_succ, or_succ, dr_succ]
        by_cases hko : k = own
        · subst hko
          rw [if_pos (by simp), bt_own]
          simp
        · have hko' : (k == own) = false := by simpa using hko
          rw [hko', Bool.not_false, Bool.true_and] at hb
          rw [if_neg (show ¬ (((k : Int) == (own : Int)) = true) by simp; omega), hspec, Option.bind_some, hb]
          cases TRD (at_ l (k : Int)) key with
          | false => simp
          | true =>
            rw [if_neg (by decide), if_pos ⟨by omega, by omega⟩, spec_Concurrent, Option.bind_some, Option.bind_some, Option.bind_some]
            cases hc : CON (at_ l (own : Int)) (at_ l (k : Int)) with
            | false => simp
            | true =>
              have hval := hto _ hm
              have hend : decide ((at_ l (k : Int)).Ended > 0) = !((at_ l (k : Int)).Ended == 0) := by
                unfold TO1 at hval
                simp only [Bool.and_eq_true, Bool.or_eq_true, decide_eq_true_eq, beq_iff_eq] at hval
                have h1 := hval.1.1.1.1.1.1.2
                have h2 := hval.1.1.1.1.1.2
                rcases h2 with h2 | h2
                · rw [h2]; rfl
                · rw [decide_eq_true (by omega), show ((at_ l (k : Int)).Ended == 0) = false from beq_eq_false_iff_ne.2 (by omega)]; rfl
              rw [if_neg (by decide), if_pos hr, Option.bind_some, hend, Bool.and_comm (!((at_ l (k : Int)).Ended == 0))]
              simp only [Bool.and_self, if_true, Int.toNat_natCast, Bool.true_or, Bool.true_and]
              cases ((at_ l (k : Int)).In && !((at_ l (k : Int)).Ended == 0)) <;> cases DR l own hit k <;> rfl
      · generalize hhit : (fun t : Track => TRD t key) = hit
        unfold spec_EdgeWrite.b0
        simp only []
        rw [if_neg (by rw [ur_len]; simp), if_pos (by rw [ur_len]; omega), Option.bind_some, Int.toNat_natCast]
        have hcode : ∀ a b c : Bool, (if (b && c) = true then some (2 : Int) else some (if a = true then 2 else 0)) = some (if (a || (b && c)) = true then 2 else 0) := fun a b c => by cases a <;> cases b <;> cases c <;> rfl
        rw [hcode]; rfl
end Go.Proofs.YtcagjdngannneaaGreat
