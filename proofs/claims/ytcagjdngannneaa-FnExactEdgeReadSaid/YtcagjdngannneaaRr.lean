
import Derived.Test.YtcagjdngannneaaRq
set_option linter.unusedVariables false
set_option linter.unusedSimpArgs false
set_option linter.unusedSectionVars false
namespace Go.Proofs.Ytcagjdngannneaa
open Go V Ieee
theorem runL_acc {α O : Type} (g : α → Bool) (fin : Bool → O) : ∀ (xs : List α) (h : Bool), runL (fun (h : Bool) x => .inl (h || g x)) fin xs h = fin (h || xs.any g)
  | [], h => by unfold runL; simp
  | x :: xs, h => by
    unfold runL
    simp only []
    rw [runL_acc g fin xs, List.any_cons, Bool.or_assoc]
def RDp (a : Track) (s : Span) : Bool × List Span := if a.All = true then (a.All, a.Reads) else if ((a.Reads.length : Int) == 6) = true then (true, []) else (a.All, a.Reads ++ [s])
def RDT (a : Track) (s : Span) : Track := Track.mk a.Xid a.Begun a.Ended (RDp a s).1 (RDp a s).2 a.Writes a.In a.Out
section
variable (l : List Track) (own : Nat) (hit : Track → Bool)
def BT (k : Nat) : Bool := !(k == own) && CON (at_ l (own : Int)) (at_ l (k : Int)) && hit (at_ l (k : Int))
def rIn (t : Track) : Track := Track.mk t.Xid t.Begun t.Ended t.All t.Reads t.Writes true t.Out
def UR : Nat → List Track
  | 0 => l
  | k + 1 => if BT l own hit k = true then (UR k).set k (rIn (at_ l (k : Int))) else UR k
def OR_ (o : Bool) : Nat → Bool
  | 0 => o
  | k + 1 => BT l own hit k || OR_ o k
def DR : Nat → Bool
  | 0 => false
  | k + 1 => DR k || (BT l own hit k && ((at_ l (k : Int)).Out && !((at_ l (k : Int)).Ended == 0)))
theorem ur_succ (k : Nat) : UR l own hit (k + 1) = if BT l own hit k = true then (UR l own hit k).set k (rIn (at_ l (k : Int))) else UR l own hit k := rfl
theorem or_succ (o : Bool) (k : Nat) : OR_ l own hit o (k + 1) = (BT l own hit k || OR_ l own hit o k) := rfl
theorem dr_succ (k : Nat) : DR l own hit (k + 1) = (DR l own hit k || (BT l own hit k && ((at_ l (k : Int)).Out && !((at_ l (k : Int)).Ended == 0)))) := rfl
theorem ur_len : ∀ k, (UR l own hit k).length = l.length
  | 0 => rfl
  | k + 1 => by
    unfold UR
    split
    · rw [List.length_set]; exact ur_len k
    · exact ur_len k
theorem ur_ge : ∀ k j, k ≤ j → (UR l own hit k)[j]? = l[j]?
  | 0, j, _ => rfl
  | k + 1, j, h => by
    unfold UR
    split
    · rw [List.getElem?_set_ne (by omega)]; exact ur_ge k j (by omega)
    · exact ur_ge k j (by omega)
theorem bt_own : BT l own hit own = false := by unfold BT; simp
theorem ur_at (k : Nat) (hk : k < l.length) : at_ (UR l own hit k) (k : Int) = at_ l (k : Int) := by
  have := ur_ge l own hit k k (Nat.le_refl _)
  rw [List.getElem?_eq_getElem hk, List.getElem?_eq_getElem (by rw [ur_len]; exact hk)] at this
  rw [at_nat _ k hk, at_nat _ k (by rw [ur_len]; exact hk)]
  exact Option.some.inj this
theorem at_set_ne {α : Type} [Inhabited α] (l : List α) (i j : Nat) (v : α) (h : i ≠ j) (hj : j < l.length) : at_ (l.set i v) (j : Int) = at_ l (j : Int) := by
  rw [at_nat _ j (by rw [List.length_set]; exact hj), at_nat _ j hj, List.getElem_set_ne h]
end
def tOut (t : Track) (o : Bool) : Track := Track.mk t.Xid t.Begun t.Ended t.All t.Reads t.Writes t.In o
theorem con_eq {a b c : Track} (h1 : b.Ended = a.Ended) (h2 : b.Begun = a.Begun) : CON b c = CON a c := by unfold CON; rw [h1, h2]
theorem impl_meet_r (l : List Track) (own : Nat) (ho : own < l.length) (hl : l.length ≤ 1000) (hit : Track → Bool) (isf : Track → Option Bool) (his : ∀ t ∈ l, isf t = some (hit t)) (t1 : Track) (e1 : t1.Ended = (at_ l (own : Int)).Ended) (e2 : t1.Begun = (at_ l (own : Int)).Begun) :
    impl_meet.f (l.set own t1) (own : Int) isf impl_EdgeRead_2.f = some (if (DR l own hit l.length || (t1.In && OR_ l own hit t1.Out l.length)) = true then 2 else 0, (UR l own hit l.length).set own (tOut t1 (OR_ l own hit t1.Out l.length))) := by
  unfold impl_meet.f
  have hml : ∀ k t, ((UR l own hit k).set own t).length = l.length := fun k t => by rw [List.length_set, ur_len]
  have := iter_for (body := impl_meet.b0 (l.set own t1) (own : Int) isf impl_EdgeRead_2.f) l.length (fun k => ((UR l own hit k).set own (tOut t1 (OR_ l own hit t1.Out k)), DR l own hit k, (k : Int))) (if (DR l own hit l.length || (t1.In && OR_ l own hit t1.Out l.length)) = true then 2 else 0, (UR l own hit l.length).set own (tOut t1 (OR_ l own hit t1.Out l.length))) (fun k hk => ?_) ?_
  · exact this
  · have hr : ∀ (j : Nat) t, j < l.length → 0 ≤ (j : Int) ∧ (j : Int) < (((UR l own hit k).set own t).length : Int) := fun j t hj => by rw [hml]; omega
    unfold impl_meet.b0
    simp only []
    rw [if_pos (by rw [List.length_set]; simp; omega), w64 (by omega) (by omega)]
    have hb : BT l own hit k = (!(k == own) && CON (at_ l (own : Int)) (at_ l (k : Int)) && hit (at_ l (k : Int))) := rfl
    by_cases hko : k = own
    · subst hko
      rw [if_pos (by simp), Option.bind_some, if_pos rfl, Option.bind_some]
      rw [ur_succ, or_succ, dr_succ]
      rw [bt_own]
      simp
    · have hko' : (k == own) = false := by simpa using hko
      rw [hko', Bool.not_false, Bool.true_and] at hb
      have a1 : at_ ((UR l own hit k).set own (tOut t1 (OR_ l own hit t1.Out k))) (k : Int) = at_ l (k : Int) := by rw [at_set_ne _ _ _ _ (Ne.symm hko) (by rw [ur_len]; exact hk), ur_at _ _ _ k hk]
      have a2 : at_ ((UR l own hit k).set own (tOut t1 (OR_ l own hit t1.Out k))) (own : Int) = tOut t1 (OR_ l own hit t1.Out k) := at_set _ _ _ (by rw [ur_len]; exact ho)
      have hmem : at_ l (k : Int) ∈ l := by rw [at_nat _ k hk]; exact List.getElem_mem _
      rw [if_neg (show ¬ (((k : Int) == (own : Int)) = true) by simp; omega), if_pos (hr k _ hk), if_pos (hr own _ ho), a1, a2, impl_Concurrent, Option.bind_some, con_comm, con_eq (a := at_ l (own : Int)) (b := tOut t1 (OR_ l own hit t1.Out k)) e1 e2]
      rw [ur_succ, or_succ, dr_succ]
      cases hc : CON (at_ l (own : Int)) (at_ l (k : Int)) with
      | false =>
        rw [hc, Bool.false_and] at hb
        rw [hb, if_pos (by decide)]
        simp
      | true =>
        rw [hc, Bool.true_and] at hb
        rw [if_neg (by decide), if_pos (hr k _ hk), his _ hmem, Option.bind_some, Option.bind_some, hb]
        cases hh : hit (at_ l (k : Int)) with
        | false => simp
        | true =>
          simp only [Bool.not_true, Option.bind_some, Bool.false_eq_true, if_false, if_true, Bool.true_or, Bool.true_and]
          rw [if_pos (hr own _ ho), if_pos (hr k _ hk)]
          have e3 : impl_EdgeRead_2.f ((UR l own hit k).set own (tOut t1 (OR_ l own hit t1.Out k))) (own : Int) (k : Int) = some (((UR l own hit k).set k (rIn (at_ l (k : Int)))).set own (tOut t1 true)) := by
            unfold impl_EdgeRead_2.f
            simp only [Option.bind_some, Int.toNat_natCast, a2, List.set_set]
            rw [at_set_ne _ _ _ _ (Ne.symm hko) (by rw [ur_len]; exact hk), ur_at _ _ _ k hk, List.set_comm _ _ (Ne.symm hko)]; rfl
          rw [e3, Option.bind_some]
          have a3 : at_ (((UR l own hit k).set k (rIn (at_ l (k : Int)))).set own (tOut t1 true)) (k : Int) = rIn (at_ l (k : Int)) := by rw [at_set_ne _ _ _ _ (Ne.symm hko) (by rw [List.length_set, ur_len]; exact hk), at_set _ _ _ (by rw [ur_len]; exact hk)]
          have hr2 : 0 ≤ (k : Int) ∧ (k : Int) < ((((UR l own hit k).set k (rIn (at_ l (k : Int)))).set own (tOut t1 true)).length : Int) := by rw [List.length_set, List.length_set, ur_len]; omega
          simp only [if_pos hr2, a3, impl_Track_isActive.f]
          show _ = some (Sum.inl (_, DR l own hit k || ((at_ l (k : Int)).Out && !((at_ l (k : Int)).Ended == 0)), _))
          cases DR l own hit k with
          | true => rfl
          | false =>
            rw [if_neg (by decide), show (rIn (at_ l (k : Int))).In = true from rfl, if_pos rfl, Option.bind_some, show (rIn (at_ l (k : Int))).Out = (at_ l (k : Int)).Out from rfl]
            cases (at_ l (k : Int)).Out <;> rfl
  · unfold impl_meet.b0
    simp only []
    have hr : 0 ≤ (own : Int) ∧ (own : Int) < (((UR l own hit l.length).set own (tOut t1 (OR_ l own hit t1.Out l.length))).length : Int) := by rw [hml]; omega
    rw [if_neg (by rw [List.length_set]; simp), at_set _ _ _ (by rw [ur_len]; exact ho)]
    simp only [if_pos hr]
    cases DR l own hit l.length with
    | true => rfl
    | false =>
      rw [if_neg (by decide), show (tOut t1 (OR_ l own hit t1.Out l.length)).In = t1.In from rfl, show (tOut t1 (OR_ l own hit t1.Out l.length)).Out = OR_ l own hit t1.Out l.length from rfl]
      cases t1.In with
      | false => rfl
      | true => cases OR_ l own hit t1.Out l.length <;> rfl
theorem impl_reads (l : List Track) (own : Nat) (ho : own < l.length) (s : Span) (hs : lgS s) (hlg : ∀ t ∈ l, lgT t) : impl_Track_reads.f l (own : Int) s = some (l.set own (RDT (at_ l (own : Int)) s)) := by
  have hmem : at_ l (own : Int) ∈ l := by rw [at_nat _ own ho]; exact List.getElem_mem _
  obtain ⟨⟨h1, _⟩, _⟩ := lgT_parts (hlg _ hmem)
  unfold impl_Track_reads.f RDT RDp
  by_cases ha : (at_ l (own : Int)).All = true
  · rw [if_pos ha, if_pos ha]
    have : l.set own (at_ l (own : Int)) = l := by rw [at_nat _ own ho]; exact List.set_getElem_self ho
    exact congrArg some this.symm
  · rw [if_neg ha, if_neg ha]
    by_cases h6 : (((at_ l (own : Int)).Reads.length : Int) == 6) = true
    · rw [if_pos h6, if_pos h6]
      simp only [Option.bind_some, Int.toNat_natCast, List.set_set, at_set _ _ _ ho]
    · rw [if_neg h6, if_neg h6, impl_own _ hs.1, Option.bind_some, impl_own _ hs.2, Option.bind_some, if_pos (by simp [Lim]; omega)]
      simp only [Option.bind_some, Int.toNat_natCast]
def ERd (l : List Track) (xid : Int) (s : Span) : List Track × Int :=
  if (!TKK l || decide (ACT l xid < 0) || !SPK s) = true then ([], 1)
  else
    let own := (ACT l xid).toNat
    let hit := fun t : Track => t.Writes.any fun w => INS s.From s.To w
    let t1 := RDT (at_ l (own : Int)) s
    ((UR l own hit l.length).set own (tOut t1 (OR_ l own hit t1.Out l.length)), if (DR l own hit l.length || (t1.In && OR_ l own hit t1.Out l.length)) = true then 2 else 0)
theorem act_lt (l : List Track) (xid : Int) (h : ¬ ACT l xid < 0) : ∃ own : Nat, ACT l xid = (own : Int) ∧ own < l.length := by
  unfold ACT at h ⊢
  rcases ixf_out (fun t : Track => t.Xid == xid && t.Ended == 0) l 0 with ⟨h1, _⟩ | ⟨k, hk, h1, _⟩
  · rw [h1] at h; exact absurd (show (-1 : Int) < 0 by omega) h
  · exact ⟨k, by rw [h1]; omega, hk⟩
theorem tkk_len {l : List Track} (h : TKK l = true) : l.length ≤ 64 ∧ ∀ t ∈ l, TO1 t = true := by
  unfold TKK at h
  simp only [Bool.and_eq_true, decide_eq_true_eq, List.all_eq_true] at h
  exact ⟨h.1.1, h.1.2⟩
theorem impl_EdgeRead (l : List Track) (hl : l.length ≤ 1048576) (hok : ∀ t ∈ l, okTk t) (xid : Int) (s : Span) (hs : ok_Span s) (hsl : lgS s) : impl_EdgeRead.f l xid s = some (ERd l xid s) := by
  unfold impl_EdgeRead.f ERd
  rw [impl_active l hl, Option.bind_some, impl_TracksOk l hok, Option.bind_some, impl_SpanOk s hs, Option.bind_some]
  cases hA : (!TKK l || decide (ACT l xid < 0)) with
  | true => rw [if_pos rfl]; rfl
  | false =>
    rw [if_neg (by decide), Option.bind_some, Bool.false_or]
    cases hB : SPK s with
    | false => rfl
    | true =>
      simp only [Bool.not_true, Bool.false_eq_true, if_false]
      simp only [Bool.or_eq_false_iff, Bool.not_eq_false', decide_eq_false_iff_not] at hA
      obtain ⟨own, ho, hlt⟩ := act_lt l xid hA.2
      obtain ⟨h64, hto⟩ := tkk_len hA.1
      rw [impl_ownTracks l hl fun t ht => (hok t ht).2, Option.bind_some, ho, if_pos ⟨by omega, by omega⟩, impl_reads l own hlt s hsl fun t ht => (hok t ht).2, Option.bind_some]
      rw [impl_meet_r l own hlt (by omega) (fun t : Track => t.Writes.any fun w => INS s.From s.To w) (fun x0 => impl_EdgeRead_1.f x0 s) (fun t ht => by
        obtain ⟨_, hw, _⟩ := lgT_parts (hok t ht).2
        unfold impl_EdgeRead_1.f
        rw [cntItem _ (by omega) _ (fun w => INS s.From s.To w) (fun w hwm => by
          unfold impl_Span_has.f
          rw [impl_InSpan _ _ _ hs.1 hs.2 ((hok t ht).1.2.2.2.2.2.1.2 w hwm)]; rfl)]; rfl) (RDT (at_ l (own : Int)) s) rfl rfl]
      rfl
theorem spec_EdgeRead (l : List Track) (hl : l.length ≤ 1048576) (hok : ∀ t ∈ l, okTk t) (xid : Int) (s : Span) (hs : ok_Span s) (hsl : lgS s) : spec_EdgeRead.f l xid s = some (ERd l xid s) := by
  unfold spec_EdgeRead.f ERd
  rw [spec_l13at l hl, Option.bind_some, spec_TracksOk l hok, Option.bind_some, spec_SpanOk s hs, Option.bind_some]
  cases hA : (!TKK l || decide (ACT l xid < 0)) with
  | true => rw [if_pos rfl]; rfl
  | false =>
    rw [if_neg (by decide), Option.bind_some, Bool.false_or]
    cases hB : SPK s with
    | false => rfl
    | true =>
      simp only [Bool.not_true, Bool.false_eq_true, if_false]
      simp only [Bool.or_eq_false_iff, Bool.not_eq_false', decide_eq_false_iff_not] at hA
      obtain ⟨own, ho, hlt⟩ := act_lt l xid hA.2
      obtain ⟨h64, hto⟩ := tkk_len hA.1
      have hmem : ∀ k, k < l.length → at_ l (k : Int) ∈ l := fun k hk => by rw [at_nat _ k hk]; exact List.getElem_mem _
      have hown := hto _ (hmem own hlt)
      have h6 : (at_ l (own : Int)).Reads.length ≤ 6 := by
        unfold TO1 at hown
        simp only [Bool.and_eq_true, decide_eq_true_eq] at hown
        have := hown.1.1.1.1.2
        omega
      rw [spec_l13copy l hl fun t ht => (hok t ht).2, Option.bind_some, ho, if_pos ⟨by omega, by omega⟩, spec_l13spans [s] (by simp) (by simpa using hsl), Option.bind_some, Int.toNat_natCast]
      have hY : (if (!(at_ l (own : Int)).All) = true then if (at_ l (own : Int)).Reads.length + [s].length ≤ Lim then (if decide ((((at_ l (own : Int)).Reads ++ [s]).length : Int) > 6) = true then some (true, ([] : List Span)) else some ((at_ l (own : Int)).All, (at_ l (own : Int)).Reads ++ [s])).bind fun y79 => some (l, y79.1, y79.2, (at_ l (own : Int)).Writes) else none else some (l, (at_ l (own : Int)).All, (at_ l (own : Int)).Reads, (at_ l (own : Int)).Writes)) = some (l, (RDp (at_ l (own : Int)) s).1, (RDp (at_ l (own : Int)) s).2, (at_ l (own : Int)).Writes) := by
        unfold RDp
        cases ha : (at_ l (own : Int)).All with
        | true => rfl
        | false =>
          simp only [Bool.not_false, if_true, Bool.false_eq_true, if_false]
          rw [if_pos (by simp [Lim]; omega)]
          by_cases h : (at_ l (own : Int)).Reads.length = 6
          · rw [if_pos (by simp; omega), if_pos (by simp; omega)]; rfl
          · rw [if_neg (by simp; omega), if_neg (by simp; omega)]; rfl
      rw [hY, Option.bind_some]
      have := iter_for (body := spec_EdgeRead.b0 l s (own : Int) l (l, (RDp (at_ l (own : Int)) s).1, (RDp (at_ l (own : Int)) s).2, (at_ l (own : Int)).Writes)) l.length (fun k => (UR l own (fun t : Track => t.Writes.any fun w => INS s.From s.To w) k, (if DR l own (fun t : Track => t.Writes.any fun w => INS s.From s.To w) k = true then 2 else 0), (k : Int), OR_ l own (fun t : Track => t.Writes.any fun w => INS s.From s.To w) (at_ l (own : Int)).Out k)) ((UR l own (fun t : Track => t.Writes.any fun w => INS s.From s.To w) l.length).set own (tOut (RDT (at_ l (own : Int)) s) (OR_ l own (fun t : Track => t.Writes.any fun w => INS s.From s.To w) (at_ l (own : Int)).Out l.length)), if (DR l own (fun t : Track => t.Writes.any fun w => INS s.From s.To w) l.length || ((at_ l (own : Int)).In && OR_ l own (fun t : Track => t.Writes.any fun w => INS s.From s.To w) (at_ l (own : Int)).Out l.length)) = true then 2 else 0) (fun k hk => ?_) ?_
      · exact this
      · generalize hhit : (fun t : Track => t.Writes.any fun w => INS s.From s.To w) = hit
        have hm := hmem k hk
        obtain ⟨_, hw, _⟩ := lgT_parts (hok _ hm).2
        have hin : iter (spec_EdgeRead.b1 l s (own : Int) (UR l own hit k, (if DR l own hit k = true then 2 else 0), (k : Int), OR_ l own hit (at_ l (own : Int)).Out k)) (false, (0 : Int)) = some (if BT l own hit k = true then ((UR l own hit k).set k (rIn (at_ l (k : Int))), (if ((at_ l (k : Int)).Out && !((at_ l (k : Int)).Ended == 0)) = true then 2 else if DR l own hit k = true then 2 else 0), true) else (UR l own hit k, (if DR l own hit k = true then 2 else 0), OR_ l own hit (at_ l (own : Int)).Out k)) := by
          have hr : 0 ≤ (k : Int) ∧ (k : Int) < ((UR l own hit k).length : Int) := by rw [ur_len]; omega
          have := iter_runL (body := spec_EdgeRead.b1 l s (own : Int) (UR l own hit k, (if DR l own hit k = true then 2 else 0), (k : Int), OR_ l own hit (at_ l (own : Int)).Out k)) (at_ l (k : Int)).Writes (fun (h : Bool) (j : Nat) => (h, (j : Int))) (fun h w => .inl (h || INS s.From s.To w))
            (fun h => if (!(k == own) && CON (at_ l (own : Int)) (at_ l (k : Int)) && h) = true then ((UR l own hit k).set k (rIn (at_ l (k : Int))), (if ((at_ l (k : Int)).Out && !((at_ l (k : Int)).Ended == 0)) = true then 2 else if DR l own hit k = true then 2 else 0), true) else (UR l own hit k, (if DR l own hit k = true then 2 else 0), OR_ l own hit (at_ l (own : Int)).Out k)) (fun _ _ => True) (fun h j hj _ => ⟨?_, fun _ _ => trivial⟩) (fun h _ => ?_) false trivial
          · refine this.trans ?_
            rw [runL_acc, Bool.false_or]
            unfold BT
            rw [← hhit]
          · unfold spec_EdgeRead.b1
            simp only []
            rw [ur_at _ _ _ k hk, if_pos (by simp; omega), w64 (by omega) (by omega)]
            cases h with
            | true => rfl
            | false =>
              rw [if_neg (by decide), if_pos ⟨by omega, by omega⟩, at_nat _ j hj, spec_InSpan _ _ _ hs.1 hs.2 ((hok _ hm).1.2.2.2.2.2.1.2 _ (List.getElem_mem hj))]; rfl
          · unfold spec_EdgeRead.b1
            simp only []
            rw [ur_at _ _ _ k hk, if_neg (by simp)]
            by_cases hko : k = own
            · subst hko
              rw [if_pos (by simp)]
              simp
            · have hko' : (k == own) = false := by simpa using hko
              rw [if_neg (show ¬ (((k : Int) == (own : Int)) = true) by simp; omega), hko']
              cases h with
              | false => simp
              | true =>
                rw [if_neg (by decide), if_pos ⟨by omega, by omega⟩, spec_Concurrent, Option.bind_some, Option.bind_some, Option.bind_some]
                cases hc : CON (at_ l (own : Int)) (at_ l (k : Int)) with
                | false => simp
                | true =>
                  have hval := hto _ hm
                  have hend : decide ((at_ l (k : Int)).Ended > 0) = !((at_ l (k : Int)).Ended == 0) := by
                    unfold TO1 at hval
                    simp only [Bool.and_eq_true, Bool.or_eq_true, decide_eq_true_eq, beq_iff_eq] at hval
                    have h1 := hval.1.1.1.1.1.1.2
                    have h2 := hval.1.1.1.1.1.2
                    rcases h2 with h2 | h2
                    · rw [h2]; rfl
                    · rw [decide_eq_true (by omega), show ((at_ l (k : Int)).Ended == 0) = false from beq_eq_false_iff_ne.2 (by omega)]; rfl
                  rw [if_neg (by decide), if_pos hr, Option.bind_some, hend, Bool.and_comm (!((at_ l (k : Int)).Ended == 0))]
                  simp only [Bool.not_false, Bool.and_self, if_true, Int.toNat_natCast]
                  cases ((at_ l (k : Int)).Out && !((at_ l (k : Int)).Ended == 0)) <;> rfl
        unfold spec_EdgeRead.b0
        simp only []
        rw [if_pos (by rw [ur_len]; simp; omega), if_pos (by rw [ur_len]; omega), hin, Option.bind_some, w64 (by omega) (by omega)]
        rw [ur_succ, or_succ, dr_succ]
        cases BT l own hit k with
        | false => simp
        | true =>
          simp only [if_true, Bool.true_or, Bool.true_and]
          cases ((at_ l (k : Int)).Out && !((at_ l (k : Int)).Ended == 0)) <;> cases DR l own hit k <;> rfl
      · generalize hhit : (fun t : Track => t.Writes.any fun w => INS s.From s.To w) = hit
        unfold spec_EdgeRead.b0
        simp only []
        rw [if_neg (by rw [ur_len]; simp), if_pos (by rw [ur_len]; omega), Option.bind_some, Int.toNat_natCast]
        have hcode : ∀ a b c : Bool, (if (b && c) = true then some (2 : Int) else some (if a = true then 2 else 0)) = some (if (a || (b && c)) = true then 2 else 0) := fun a b c => by cases a <;> cases b <;> cases c <;> rfl
        rw [hcode]; rfl
end Go.Proofs.Ytcagjdngannneaa
