import Derived.Test.YtegicanjlefmdaaGreatP1
set_option linter.unusedVariables false
set_option linter.unusedSimpArgs false
namespace Go.Proofs.YtegicanjlefmdaaGreat
open Go V Ieee
theorem bcmp_0 : ∀ (xs ys : List Int), bcmp xs ys = 0 ↔ xs = ys
 | [], [] => by simp [bcmp]
 | [], y :: ys => by simp [bcmp]
 | x :: xs, [] => by simp [bcmp]
 | x :: xs, y :: ys => by
  unfold bcmp
  by_cases h : x = y
  · have : (x == y) = true := by simpa using h
    rw [this, cond_true, bcmp_0 xs ys, h]; simp
  · have : (x == y) = false := by simpa using h
    rw [this, cond_false]
    constructor
    · intro hh; cases hd : decide (x < y) <;> rw [hd] at hh <;> simp at hh
    · intro hh; simp at hh; exact absurd hh.1 h
theorem frk_inj {x y : Nat} (hx : okF x) (hy : okF y) (hx0 : x ≠ 9223372036854775808) (hy0 : y ≠ 9223372036854775808) (h : FRK x = FRK y) : x = y := by
 rw [← ur_frk x hx hx0, ← ur_frk y hy hy0, h]
theorem icm_0 {a b : Item} (ha : ok_Item a) (hb : ok_Item b) (ka : KOK a = true) (kb : KOK b = true) : ICM a b = 0 ↔ a = b := by
 obtain ⟨k, n, f, t⟩ := a
 obtain ⟨k', n', f', t'⟩ := b
 unfold ICM
 simp only []
 constructor
 · intro h
   by_cases h1 : k = k'
   · rw [if_neg (by simpa using h1)] at h
     by_cases h2 : n = n'
     · rw [if_neg (by simpa using h2)] at h
       by_cases h3 : FRK f = FRK f'
       · rw [if_neg (by simpa using h3)] at h
         have h4 : f = f' := frk_inj ha.2.2.1 hb.2.2.1 (kok_z ka).2 (kok_z kb).2 h3
         rw [h1, h2, h4, (bcmp_0 _ _).1 h]
       · rw [if_pos h3] at h
         exact absurd (sgn_0.1 h) (fun e => h3 (by omega))
     · rw [if_pos h2] at h
       exact absurd (sgn_0.1 h) h2
   · rw [if_pos h1] at h
     exact absurd (sgn_0.1 h) h1
 · intro h
   injection h with h1 h2 h3 h4
   subst h1; subst h2; subst h3; subst h4
   rw [if_neg (by simp), if_neg (by simp), if_neg (by simp), (bcmp_0 t t).2 rfl]
theorem sameItem_eq (a b : Item) (ha : ok_Item a) (hb : ok_Item b) : laws_sameItem.f a b = some (decide (a = b)) := by
 obtain ⟨k, n, f, t⟩ := a
 obtain ⟨k', n', f', t'⟩ := b
 unfold laws_sameItem.f
 simp only []
 rw [spec_FloatBits f ha.2.2.1, spec_FloatBits f' hb.2.2.1, str_eq _ _ ha.2.2.2.2 hb.2.2.2.2]
 by_cases h1 : k = k'
 · rw [if_pos (by simpa using h1)]
   by_cases h2 : n = n'
   · rw [if_pos (by simpa using h2), Option.bind_some, Option.bind_some, beq_nat]
     by_cases h3 : f = f'
     · subst h1; subst h2; subst h3
       rw [decide_eq_true rfl, if_pos rfl]
       by_cases h4 : t = t'
       · subst h4; simp
       · rw [decide_eq_false h4]; simp [h4]
     · rw [decide_eq_false h3]
       have : ¬ Item.mk k n f t = Item.mk k' n' f' t' := fun h => by injection h; contradiction
       rw [decide_eq_false this]; rfl
   · rw [if_neg (by simpa using h2)]
     have : ¬ Item.mk k n f t = Item.mk k' n' f' t' := fun h => by injection h; contradiction
     rw [decide_eq_false this]; rfl
 · rw [if_neg (by simpa using h1)]
   have : ¬ Item.mk k n f t = Item.mk k' n' f' t' := fun h => by injection h; contradiction
   rw [decide_eq_false this]; rfl
def rowG (r : Row) : Prop := ok_Tuple r.Tuple ∧ TOK r.Tuple = true
theorem tr_tok {b : List Int} (h : (TR b).2 = true) : TOK (TR b).1 = true := by
 unfold TR at h ⊢
 by_cases hc : 10 + x8 b ≤ b.length ∧ (RK b).2 = true ∧ (RV b).2 = true ∧ TB (TT b) = b
 · rw [if_pos hc]
   cases hh : TOK (TT b) with
   | true => rfl
   | false =>
    have he := hc.2.2.2
    unfold TB at he
    rw [if_neg (by rw [hh]; decide)] at he
    have := hc.1
    rw [← he] at this; simp at this
 · rw [if_neg hc] at h; cases h
theorem one_g (i k : Nat) (b : List Int) (hb : okB b) : ∀ r ∈ one i k b, rowG r := by
 unfold one
 intro r hr
 split at hr
 · rename_i h; rw [List.mem_singleton.1 hr]; exact ⟨tr_ok b hb.2, tr_tok h⟩
 · cases hr
theorem RS_g (i : Nat) : ∀ (l : List (List Int)) (k : Nat), (∀ b ∈ l, okB b) → ∀ r ∈ RS i k l, rowG r
 | [], _, _ => fun r hr => by cases hr
 | b :: l, k, h => fun r hr => by
  rcases List.mem_append.1 (show r ∈ one i k b ++ RS i (k + 1) l from hr) with hr | hr
  · exact one_g i k b (h b (by simp)) r hr
  · exact RS_g i l (k + 1) (fun b hb => h b (by simp [hb])) r hr
theorem RP_g : ∀ (l : List Page) (k : Nat), (∀ p ∈ l, okP p) → ∀ r ∈ RP k l, rowG r
 | [], _, _ => fun r hr => by cases hr
 | p :: l, k, h => fun r hr => by
  rcases List.mem_append.1 (show r ∈ RS k 0 p.Slots ++ RP (k + 1) l from hr) with hr | hr
  · exact RS_g k _ 0 (h p (by simp)).2.2 r hr
  · exact RP_g l (k + 1) (fun b hb => h b (by simp [hb])) r hr
theorem rows_g (h : Heap) (hh : okH h) : ∀ r ∈ ROWS h, rowG r := by
 unfold ROWS
 split
 · exact RP_g _ _ hh.2
 · intro r hr; cases hr
theorem rows_256 (h : Heap) : (ROWS h).length ≤ 256 := by
 unfold ROWS
 split
 · rename_i hk
   have := rows_len hk h.Pages.length
   rw [List.take_length] at this
   exact this
 · simp
theorem impl_HeapVersions (h : Heap) (key : Item) (hh : okH h) (hk : ok_Item key) : impl_HeapVersions.f h key = some (if KOK key = true then (ROWS h).filter (fun r => decide (r.Tuple.Key = key)) else []) := by
 unfold impl_HeapVersions.f
 rw [impl_KeyOk key hk.2.2.1, Option.bind_some]
 cases hkk : KOK key with
 | false => rfl
 | true =>
  rw [if_neg (by decide), if_pos rfl, rowsOf h hh _ (fun t => decide (t.Key = key)) (fun r hr => ?_)]
  · rfl
  · have hg := rows_g h hh r hr
    have hkr := (tok_parts hg.2).2.2.1
    unfold impl_HeapVersions_1.f
    rw [impl_compareItems _ _ hg.1.2.2.1 hk, Option.bind_some]
    by_cases he : r.Tuple.Key = key
    · rw [decide_eq_true he, (icm_0 hg.1.2.2.1 hk hkr hkk).2 he]; rfl
    · have : ¬ ICM r.Tuple.Key key = 0 := fun h => he ((icm_0 hg.1.2.2.1 hk hkr hkk).1 h)
      rw [decide_eq_false he]
      simpa using this
def ST (l : List Int) (x : Int) : Int := if rin x 1 400 = true ∧ x < (l.length : Int) then (if rin (at_ l x) 1 2 = true then at_ l x else 0) else 0
theorem spec_StatusOf (l : List Int) (x : Int) : spec_StatusOf.f l x = some (ST l x) := by
 unfold spec_StatusOf.f ST
 rw [in_rin, Option.bind_some]
 cases hr : rin x 1 400 with
 | false => rw [if_neg (c := false = true ∧ _) (by simp)]; rfl
 | true =>
  have hx := rin_iff.1 hr
  by_cases hl : x < (l.length : Int)
  · have e : ((!true) || decide (x ≥ (l.length : Int))) = false := by simp; omega
    rw [e, if_neg (by decide), if_pos ⟨by omega, hl⟩, in_rin, Option.bind_some, Option.bind_some, if_pos (c := true = true ∧ _) ⟨rfl, hl⟩]
    cases rin (at_ l x) 1 2 with
    | true => rw [if_neg (by decide), if_pos ⟨by omega, hl⟩]; rfl
    | false => rfl
  · have e : ((!true) || decide (x ≥ (l.length : Int))) = true := by simp; omega
    rw [e, if_pos rfl, Option.bind_some, if_pos rfl, if_neg (fun h => hl h.2)]
theorem impl_StatusOf (l : List Int) (x : Int) : impl_StatusOf.f l x = some (ST l x) := by
 unfold impl_StatusOf.f ST
 have e1 : impl_isXid.f x = some (rin x 1 400) := rfl
 rw [e1, Option.bind_some]
 cases hr : rin x 1 400 with
 | false => rw [if_neg (c := false = true ∧ _) (by simp)]; rfl
 | true =>
  have hx := rin_iff.1 hr
  by_cases hl : x < (l.length : Int)
  · have e : ((!true) || decide (x ≥ (l.length : Int))) = false := by simp; omega
    rw [e, if_neg (by decide), if_pos ⟨by omega, hl⟩, within_rin, Option.bind_some, Option.bind_some, if_pos (c := true = true ∧ _) ⟨rfl, hl⟩]
    cases h2 : rin (at_ l x) 0 2 with
    | true =>
     rw [if_neg (by decide), if_pos ⟨by omega, hl⟩]
     cases h3 : rin (at_ l x) 1 2 with
     | true => rfl
     | false =>
      have h2' := rin_iff.1 h2
      have : ¬ (1 ≤ at_ l x ∧ at_ l x ≤ 2) := fun h => by rw [rin_iff.2 h] at h3; cases h3
      have h0 : at_ l x = 0 := by omega
      rw [h0]; rfl
    | false =>
     rw [if_pos (by decide)]
     cases h3 : rin (at_ l x) 1 2 with
     | true => have := rin_iff.1 h3; rw [rin_iff.2 (show 0 ≤ at_ l x ∧ at_ l x ≤ 2 by omega)] at h2; cases h2
     | false => rfl
  · have e : ((!true) || decide (x ≥ (l.length : Int))) = true := by simp; omega
    rw [e, if_pos rfl, Option.bind_some, if_pos rfl, if_neg (fun h => hl h.2)]
def DD (l : List Int) (a b z : Int) : Bool := (ST l a == 2) || ((ST l b == 1) && decide (b < z))
theorem spec_Dead (l : List Int) (a b z : Int) : spec_Dead.f l a b z = some (DD l a b z) := by
 unfold spec_Dead.f DD
 rw [spec_StatusOf, Option.bind_some, spec_StatusOf, Option.bind_some]
 cases (ST l a == 2) <;> rfl
theorem impl_Dead (l : List Int) (a b z : Int) : impl_Dead.f l a b z = some (DD l a b z) := by
 unfold impl_Dead.f DD
 rw [impl_StatusOf, Option.bind_some, impl_StatusOf, Option.bind_some]
 cases (ST l a == 2) <;> rfl
theorem impl_HeapDead (h : Heap) (l : List Int) (z : Int) (hh : okH h) : impl_HeapDead.f h l z = some ((ROWS h).filter (fun r => DD l r.Tuple.Xmin r.Tuple.Xmax z)) := by
 unfold impl_HeapDead.f
 rw [rowsOf h hh _ (fun t => DD l t.Xmin t.Xmax z) (fun r hr => ?_)]
 · rfl
 · unfold impl_HeapDead_1.f
   rw [impl_Dead]; rfl
theorem getLast_set {l : List (List Int)} {k : Nat} {b : List Int} (hk : k < l.length) (h0 : l[k] = []) (hl : l.getLast? ≠ some []) (hb : b ≠ []) : (l.set k b).getLast? ≠ some [] := by
 rw [List.getLast?_eq_getElem?] at hl ⊢
 rw [List.length_set, List.getElem?_set]
 split
 · rename_i e
   exfalso; apply hl
   rw [← e, List.getElem?_eq_getElem hk, h0]
 · exact hl
theorem lsum_put (l : List (List Int)) (k : Nat) (b : List Int) (hk : k < l.length) (h0 : l[k] = []) : lsum (l.set k b) = lsum l + b.length := by
 rw [List.set_eq_take_append_cons_drop, if_pos hk, lsum_app, lsum_cons]
 conv => rhs; rw [← List.take_append_drop k l, lsum_app, List.drop_eq_getElem_cons hk, lsum_cons, h0]
 simp; omega
theorem pg_put (p : Page) (k : Nat) (b : List Int) (n : Int) (hp : PG p = true) (hn : rin n 0 1000000 = true) (hb : b ≠ []) (hb2 : b.length ≤ 92) (h : (k < p.Slots.length ∧ p.Slots[k]? = some [] ∧ PU p + (b.length : Int) ≤ 240) ∨ (k = p.Slots.length ∧ k < 16 ∧ PU p + 1 + (b.length : Int) ≤ 240)) : PG (PS p k b n) = true := by
  have hpu : PU p = ((1 + p.Slots.length + lsum p.Slots : Nat) : Int) := by unfold PU; rw [if_pos hp]
  rw [hpu] at h
  unfold PG at hp ⊢
  simp only [Bool.and_eq_true, decide_eq_true_eq, List.all_eq_true, Bool.not_eq_true', decide_eq_false_iff_not] at hp ⊢
  obtain ⟨⟨⟨⟨p1, p2⟩, p3⟩, p4⟩, p5⟩ := hp
  rcases h with ⟨h1, h2, h3⟩ | ⟨h1, h2, h3⟩
  · have hg : p.Slots[k] = [] := by rw [List.getElem?_eq_getElem h1] at h2; exact Option.some.inj h2
    have e : (PS p k b n).Slots = p.Slots.set k b := by show (pad p.Slots k).set k b = _; rw [pad_id _ _ h1]
    rw [e, lsum_put _ _ _ h1 hg, List.length_set]
    refine ⟨⟨⟨⟨hn, p2⟩, fun x hx => ?_⟩, getLast_set h1 hg p4 hb⟩, by omega⟩
    rcases List.mem_or_eq_of_mem_set hx with hx | rfl
    · exact p3 x hx
    · exact hb2
  · have e : (PS p k b n).Slots = p.Slots ++ [b] := by
      show (pad p.Slots k).set k b = _
      subst h1
      unfold pad
      rw [show p.Slots.length + 1 - p.Slots.length = 1 by omega, List.replicate_one, List.set_append_right _ _ (Nat.le_refl _), Nat.sub_self]; rfl
    rw [e, lsum_app, lsum_cons, lsum_nil, List.length_append, List.length_singleton]
    refine ⟨⟨⟨⟨hn, by omega⟩, fun x hx => ?_⟩, by simpa using hb⟩, by omega⟩
    rcases List.mem_append.1 hx with hx | hx
    · exact p3 x hx
    · rw [List.mem_singleton.1 hx]; exact hb2
theorem idx_free (l : List (List Int)) (hl : l.length ≤ 1048576) : Ok (slices_IndexFunc_byte_byte.f l impl_PagePlace_1.f) fun r => r = -1 ∨ ∃ k : Nat, r = (k : Int) ∧ k < l.length ∧ l[k]? = some [] := by
 unfold slices_IndexFunc_byte_byte.f
 refine Ok.iter (fun s => 0 ≤ s ∧ s ≤ (l.length : Int)) (fun s => ((l.length : Int) - s).toNat) (fun s hs => ?_) _ ⟨by omega, by omega⟩
 unfold slices_IndexFunc_byte_byte.b0 impl_PagePlace_1.f
 refine Ok.ite (fun hc => ?_) fun _ => Ok.out (Ok.ret (.inl rfl))
 have hc' : s < (l.length : Int) := by simpa using hc
 obtain ⟨k, rfl⟩ := Int.eq_ofNat_of_zero_le hs.1
 have hk : k < l.length := by omega
 rw [at_nat _ k hk, len0]
 refine Ok.grd ⟨hs.1, hc'⟩ (Ok.bind (Ok.ret (P := fun b => b = decide ((l[k]).length = 0)) rfl) fun b hb => Ok.ite (fun h => Ok.ret ?_) fun _ => Ok.ret ?_)
 · rw [hb, decide_eq_true_eq] at h
   exact .inr ⟨k, rfl, hk, by rw [List.getElem?_eq_getElem hk, List.length_eq_zero_iff.1 h]⟩
 · show (_ ∧ _) ∧ _
   rw [w64 (by omega) (by omega)]
   omega
theorem impl_PagePlace_ok (p : Page) (b : List Int) (hp : okP p) (hg : PG p = true) (hb : b ≠ []) (hb2 : b.length ≤ 92) : Ok (impl_PagePlace.f p (b.length : Int)) fun r => r = -1 ∨ ∃ k : Nat, r = (k : Int) ∧ k ≤ 15 ∧ PG (PS p k b 9) = true ∧ (k < p.Slots.length → p.Slots[k]? = some []) := by
 unfold impl_PagePlace.f
 have hb1 : 1 ≤ b.length := List.length_pos_iff.2 hb
 have hpu : PU p = ((1 + p.Slots.length + lsum p.Slots : Nat) : Int) := by unfold PU; rw [if_pos hg]
 have h16 := pg16 hg
 have h240 : 1 + p.Slots.length + lsum p.Slots ≤ 240 := by
  unfold PG at hg
  simp only [Bool.and_eq_true, decide_eq_true_eq] at hg
  exact hg.2
 rw [impl_PageUsed p hp, Option.bind_some, pu_neg, hg, if_neg (by decide), within_rin, Option.bind_some, rin_iff.2 ⟨by omega, by omega⟩, Option.bind_some, if_neg (by decide)]
 refine Ok.bind (idx_free p.Slots (by omega)) fun r hr => ?_
 rw [w64 (n := PU p + (b.length : Int)) (by omega) (by omega), w64 (n := PU p + 1) (by omega) (by omega), w64 (n := PU p + 1 + (b.length : Int)) (by omega) (by omega)]
 refine Ok.ite (fun hc => Ok.ret (.inr ?_)) fun _ => Ok.ite (fun hc => Ok.ret (.inr ?_)) fun _ => Ok.ret (.inl rfl)
 · simp only [Bool.and_eq_true, decide_eq_true_eq] at hc
   rcases hr with rfl | ⟨k, rfl, hk, h0⟩
   · omega
   · exact ⟨k, rfl, by omega, pg_put p k b 9 hg (by decide) hb hb2 (.inl ⟨hk, h0, by omega⟩), fun _ => h0⟩
 · simp only [Bool.and_eq_true, decide_eq_true_eq] at hc
   exact ⟨p.Slots.length, rfl, by omega, pg_put p _ b 9 hg (by decide) hb hb2 (.inr ⟨rfl, by omega, by omega⟩), fun h => absurd h (by omega)⟩
theorem tb_ne {t : Tuple} (hT : TOK t = true) : TB t ≠ [] := by
 unfold TB
 rw [if_pos hT]; simp
theorem impl_HeapPlace_ok (h : Heap) (t : Tuple) (hh : okH h) (hk : HOK h = true) (ht : ok_Tuple t) (hT : TOK t = true) : Ok (impl_HeapPlace.f h ((TB t).length : Int)) fun r => (r.1 < 0 ∧ h.Pages.length = 16) ∨ (0 ≤ r.1 ∧ (HPut h r.1 r.2 t 9).2 = true) := by
 unfold impl_HeapPlace.f
 have hl := tb_len t
 have hne := tb_ne hT
 have h1 : 1 ≤ (TB t).length := List.length_pos_iff.2 hne
 have h16 := hok16 hk
 have key : ∀ (i j : Nat), i ≤ h.Pages.length → i < 16 → j ≤ 15 → PG (pgAt h (i : Int)) = true → PG (PS (pgAt h (i : Int)) j (TB t) 9) = true → (HT h (i : Int) (j : Int)).2 = false → (HPut h (i : Int) (j : Int) t 9).2 = true := by
  intro i j hi hi16 hj hg hps hf
  unfold HPut
  rw [if_pos ⟨hk, hT, hf⟩]
  unfold HP
  have hpp : (PP (pgAt h (i : Int)) (j : Int) (TB t) 9).2 = true := by
   unfold PP
   rw [Int.toNat_natCast, if_pos ⟨hg, rin_iff.2 ⟨by omega, by omega⟩, by omega, by decide, hps⟩]
  rw [if_pos ⟨by omega, by omega, by omega, hpp⟩]
 rw [impl_HeapOk h hh, Option.bind_some, hk, if_neg (by decide), within_rin, Option.bind_some, rin_iff.2 ⟨by omega, by omega⟩, Option.bind_some, if_neg (by decide)]
 refine Ok.bind (P := fun r => (r.1 < 0 ∧ h.Pages.length = 16) ∨ (0 ≤ r.1 ∧ (HPut h r.1 r.2 t 9).2 = true)) ?_ fun r hr => Ok.ret hr
 unfold impl_Heap_place.f
 refine Ok.iter (fun s => 0 ≤ s ∧ s ≤ (h.Pages.length : Int)) (fun s => ((h.Pages.length : Int) - s).toNat) (fun s hs => ?_) _ ⟨by omega, by omega⟩
 unfold impl_Heap_place.b0
 refine Ok.ite (fun hc => ?_) fun _ => Ok.out (Ok.ite (fun hc => Ok.ret (.inr ⟨by show (0 : Int) ≤ (h.Pages.length : Int); omega, ?_⟩)) fun hc => Ok.ret (.inl ⟨by show (-1 : Int) < 0; omega, by simp at hc; omega⟩))
 · have hc' : s < (h.Pages.length : Int) := by simpa using hc
   obtain ⟨k, rfl⟩ := Int.eq_ofNat_of_zero_le hs.1
   have hkl : k < h.Pages.length := by omega
   have hpa : pgAt h (k : Int) = h.Pages[k] := by unfold pgAt; rw [if_neg (by omega), at_nat _ k hkl]
   have hpg := (pok_slots (hok_pages hk _ (List.getElem_mem hkl))).2.1
   rw [at_nat _ k hkl]
   refine Ok.grd ⟨hs.1, hc'⟩ (Ok.bind (impl_PagePlace_ok _ (TB t) (hh.2 _ (List.getElem_mem hkl)) hpg hne hl) fun r hr => Ok.ite (fun hc => Ok.ret (.inr ⟨hs.1, ?_⟩)) fun _ => Ok.ret ?_)
   · rcases hr with rfl | ⟨q, rfl, q1, q2, q3⟩
     · simp at hc
     · refine key k q (by omega) (by omega) q1 (by rw [hpa]; exact hpg) (by rw [hpa]; exact q2) ?_
       unfold HT
       rw [at_nat _ k hkl]
       split
       · rename_i hc2
         have := rin_iff.1 hc2.2
         have hq : q < (h.Pages[k]).Slots.length := by omega
         have h0 := q3 hq
         rw [List.getElem?_eq_getElem hq] at h0
         rw [at_nat _ q hq, Option.some.inj h0, tr_nil]
       · rfl
   · show (_ ∧ _) ∧ _
     rw [w64 (by omega) (by omega)]
     omega
 · have hc' : (h.Pages.length : Int) < 16 := by simpa using hc
   have hpa : pgAt h (h.Pages.length : Int) = P0 := by unfold pgAt; rw [if_pos rfl]
   have hpu : PU P0 = 1 := by decide
   refine key h.Pages.length 0 (Nat.le_refl _) (by omega) (by omega) (by rw [hpa]; decide) ?_ ?_
   · rw [hpa]
     exact pg_put P0 0 (TB t) 9 (by decide) (by decide) hne hl (.inr ⟨rfl, by omega, by rw [hpu]; omega⟩)
   · unfold HT
     rw [if_neg (fun h => by have := rin_iff.1 h.1; omega)]
end Go.Proofs.YtegicanjlefmdaaGreat
