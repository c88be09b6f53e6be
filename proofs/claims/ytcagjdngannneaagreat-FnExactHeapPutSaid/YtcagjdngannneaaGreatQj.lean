
import Derived.Test.YtcagjdngannneaaGreatQi
set_option linter.unusedVariables false
set_option linter.unusedSimpArgs false
set_option linter.unusedSectionVars false
namespace Go.Proofs.YtcagjdngannneaaGreat
open Go V Ieee
def TOK (t : Tuple) : Bool := rin t.Xmin 1 400 && rin t.Xmax 0 400 && KOK t.Key && IOK t.Value && (t.Value.Kind != (0 : Int))
theorem impl_TupleOk (t : Tuple) (h : ok_Tuple t) : impl_TupleOk.f t = some (TOK t) := by
  unfold impl_TupleOk.f TOK
  have e1 : impl_isXid.f t.Xmin = some (rin t.Xmin 1 400) := rfl
  simp only [e1, within_rin, impl_KeyOk _ h.2.2.1.2.2.1, impl_ItemOk, Option.bind_some]
  cases rin t.Xmin 1 400 <;> cases rin t.Xmax 0 400 <;> cases KOK t.Key <;> cases IOK t.Value <;> rfl
theorem spec_TupleOk (t : Tuple) (h : ok_Tuple t) : spec_TupleOk.f t = some (TOK t) := by
  unfold spec_TupleOk.f TOK
  simp only [in_rin, spec_KeyOk _ h.2.2.1.2.2.1, spec_ItemOk _ h.2.2.2.2.2.1, Option.bind_some]
  cases rin t.Xmin 1 400 <;> cases rin t.Xmax 0 400 <;> cases KOK t.Key <;> cases IOK t.Value <;> rfl
noncomputable def TB (t : Tuple) : List Int := if TOK t = true then ((((PN t.Xmin 4 ++ PN t.Xmax 4) ++ [IntKind.wrap .u8 ((KB t.Key).length : Int)]) ++ KB t.Key) ++ [IntKind.wrap .u8 ((VB t.Value).length : Int)]) ++ VB t.Value else []
theorem tb_u8 (t : Tuple) (h : ok_Tuple t) : ∀ x ∈ TB t, InK .u8 x := by
  unfold TB
  split
  · intro x hx
    simp only [List.mem_append, List.mem_singleton] at hx
    rcases hx with ((((hx | hx) | hx) | hx) | hx) | hx
    · exact pn_u8 _ _ x hx
    · exact pn_u8 _ _ x hx
    · subst hx; exact u8w _
    · exact kb_u8 _ h.2.2.1 x hx
    · subst hx; exact u8w _
    · exact vb_u8 _ h.2.2.2 x hx
  · intro x hx; cases hx
theorem pn4_len (n : Int) : (PN n 4).length ≤ 4 := by
  unfold PN
  split
  · rw [le_len]; decide
  · simp
theorem tb_len (t : Tuple) : (TB t).length ≤ 92 := by
  unfold TB
  have h1 := pn4_len t.Xmin
  have h2 := pn4_len t.Xmax
  have h3 := kb_len t.Key
  have h4 := vb_len t.Value
  split
  · simp only [List.length_append, List.length_singleton]; omega
  · simp
theorem impl_TupleBytes (t : Tuple) (h : ok_Tuple t) : impl_TupleBytes.f t = some (TB t) := by
  unfold impl_TupleBytes.f
  rw [impl_TupleOk t h, Option.bind_some]
  have h1 := pn4_len t.Xmin
  have h2 := pn4_len t.Xmax
  have h3 := kb_len t.Key
  have h4 := vb_len t.Value
  cases hT : TOK t with
  | false => unfold TB; rw [hT]; rfl
  | true =>
    rw [if_neg (by decide), impl_KeyBytes _ h.2.2.1, Option.bind_some, impl_ValueBytes _ h.2.2.2, Option.bind_some, impl_PutNum _ _ h.1 (i64_ok (by decide) (by decide)), Option.bind_some, impl_PutNum _ _ h.2.1 (i64_ok (by decide) (by decide)), Option.bind_some, Option.bind_some, concatB _ (by simp) (by simp; omega), Option.bind_some]
    unfold TB
    rw [hT]; simp
theorem spec_TupleBytes (t : Tuple) (h : ok_Tuple t) : spec_TupleBytes.f t = some (TB t) := by
  unfold spec_TupleBytes.f
  rw [spec_TupleOk t h, Option.bind_some]
  have h1 := pn4_len t.Xmin
  have h2 := pn4_len t.Xmax
  have h3 := kb_len t.Key
  have h4 := vb_len t.Value
  cases hT : TOK t with
  | false => unfold TB; rw [hT]; rfl
  | true =>
    rw [if_neg (by decide), spec_KeyBytes _ h.2.2.1, Option.bind_some, spec_ValueBytes _ h.2.2.2, Option.bind_some, spec_PutNum _ _ h.1, Option.bind_some, spec_PutNum _ _ h.2.1, Option.bind_some]
    rw [if_pos (by simp [Lim]; omega), if_pos (by simp [Lim]; omega), if_pos (by simp [Lim]; omega), if_pos (by simp [Lim]; omega), if_pos (by simp [Lim]; omega)]
    unfold TB
    rw [hT]; rfl
def T0 : Tuple := Tuple.mk 0 0 I0 I0
def x8 (b : List Int) : Nat := (at_ b 8).toNat
noncomputable def RK (b : List Int) : Item × Bool := RD KB urf (cut b 9 (x8 b))
noncomputable def RV (b : List Int) : Item × Bool := RD VB cn (b.drop (10 + x8 b))
noncomputable def TT (b : List Int) : Tuple := Tuple.mk (GN b 0 4).1 (GN b 4 4).1 (RK b).1 (RV b).1
noncomputable def TR (b : List Int) : Tuple × Bool := if 10 + x8 b ≤ b.length ∧ (RK b).2 = true ∧ (RV b).2 = true ∧ TB (TT b) = b then (TT b, true) else (T0, false)
theorem ok_T0 : ok_Tuple T0 := ⟨i64_ok (by decide) (by decide), i64_ok (by decide) (by decide), ok_I0, ok_I0⟩
theorem rd_ok (By : Item → List Int) (fl : Nat → Nat) (hf : ∀ n, n < 18446744073709551616 → okF (fl n)) (b : List Int) (hb : ∀ x ∈ b, InK .u8 x) : ok_Item (RD By fl b).1 := by
  unfold RD
  split
  · rename_i h; exact pk_ok b hb fl hf h.1 (by omega)
  · exact ok_I0
theorem gn_i64 (b : List Int) (a k : Int) : InK .i64 (GN b a k).1 := by
  unfold GN
  split
  · split
    · exact i64_ok (by simp only []; omega) (by simp only []; omega)
    · exact i64_ok (by decide) (by decide)
  · exact i64_ok (by decide) (by decide)
theorem tt_ok (b : List Int) (hb : ∀ x ∈ b, InK .u8 x) : ok_Tuple (TT b) := ⟨gn_i64 _ _ _, gn_i64 _ _ _, rd_ok _ _ (fun n hn => ur_ok n hn) _ (cut_u8 b _ _ hb), rd_ok _ _ (fun n hn => okF_cn n hn) _ (drop_u8 b hb _)⟩
theorem tr_ok (b : List Int) (hb : ∀ x ∈ b, InK .u8 x) : ok_Tuple (TR b).1 := by
  unfold TR
  split
  · exact tt_ok b hb
  · exact ok_T0
theorem TR_yes {b : List Int} (h : 10 + x8 b ≤ b.length ∧ (RK b).2 = true ∧ (RV b).2 = true ∧ TB (TT b) = b) : TR b = (TT b, true) := if_pos h
theorem TR_no {b : List Int} (h : ¬ (10 + x8 b ≤ b.length ∧ (RK b).2 = true ∧ (RV b).2 = true ∧ TB (TT b) = b)) : TR b = (T0, false) := if_neg h
theorem spec_TupleRead (b : List Int) (hb : ∀ x ∈ b, InK .u8 x) : spec_TupleRead.f b = some (TR b) := by
  unfold spec_TupleRead.f
  by_cases hl : 10 ≤ b.length ∧ b.length ≤ 92
  · have h8 : InK .u8 (at_ b 8) := by
      have : at_ b 8 = b[8] := at_nat b 8 (by omega)
      rw [this]; exact hb _ (List.getElem_mem _)
    have hx : at_ b 8 = (x8 b : Int) := (u8n h8).1
    have hx2 : x8 b < 256 := (u8n h8).2
    rw [if_neg (by simp; omega), spec_GetNum b 0 4 hb (by omega) (i64_ok (by decide) (by decide)) (i64_ok (by decide) (by decide)), Option.bind_some, spec_GetNum b 4 4 hb (by omega) (i64_ok (by decide) (by decide)) (i64_ok (by decide) (by decide)), Option.bind_some, if_pos ⟨by omega, by omega⟩, wrap_u8n _ h8, hx, w64 (n := (b.length : Int) - 10) (by omega) (by omega)]
    by_cases hc : 10 + x8 b ≤ b.length
    · rw [if_neg (by simp; omega), w64 (n := 9 + (x8 b : Int)) (by omega) (by omega), w64 (n := 10 + (x8 b : Int)) (by omega) (by omega), if_pos ⟨by omega, by omega, by omega⟩]
      rw [show (9 + (x8 b : Int)).toNat = 9 + x8 b by omega, show ((9 : Int)).toNat = 9 from rfl, take_drop, show 9 + x8 b - 9 = x8 b by omega, show (10 + (x8 b : Int)).toNat = 10 + x8 b by omega]
      rw [spec_KeyRead _ (cut_u8 b _ _ hb), Option.bind_some, if_pos ⟨by omega, by omega⟩, spec_ValueRead _ (drop_u8 b hb _), Option.bind_some]
      have ht := tt_ok b hb
      have e := str_eq _ _ (tb_u8 _ ht) hb
      show ((if (!(RK b).2) = true then some true else ((if (!(RV b).2) = true then some true else ((spec_TupleBytes.f (TT b)).bind fun r116 => (some (!((str r116).toList == (str b).toList))))).bind fun y93 => (some y93))).bind fun y74 => (if y74 = true then some (T0, false) else some (TT b, true))) = _
      rw [spec_TupleBytes _ ht, Option.bind_some, e]
      by_cases hk : (RK b).2 = true
      · by_cases hv : (RV b).2 = true
        · by_cases he : TB (TT b) = b
          · rw [TR_yes ⟨hc, hk, hv, he⟩, hk, hv, decide_eq_true he]; rfl
          · rw [TR_no (fun h => he h.2.2.2), hk, hv, decide_eq_false he]; rfl
        · rw [TR_no (fun h => hv h.2.2.1), hk, eq_false_of_ne_true hv]; rfl
      · rw [TR_no (fun h => hk h.2.1), eq_false_of_ne_true hk]; rfl
    · rw [if_pos (by simp; omega), TR_no (fun h => hc h.1)]; rfl
  · rw [if_pos (by simp; omega), TR_no]
    · rfl
    · rintro ⟨h1, _, _, h4⟩
      have := tb_len (TT b)
      rw [h4] at this
      omega
theorem impl_TupleRead (b : List Int) (hb : ∀ x ∈ b, InK .u8 x) (hl : b.length ≤ 1000000000) : impl_TupleRead.f b = some (TR b) := by
  unfold impl_TupleRead.f
  rw [impl_GetNum b 0 4 hb (by omega) (i64_ok (by decide) (by decide)) (i64_ok (by decide) (by decide)), Option.bind_some, impl_GetNum b 4 4 hb (by omega) (i64_ok (by decide) (by decide)) (i64_ok (by decide) (by decide)), Option.bind_some]
  by_cases h9 : 9 ≤ b.length
  · have g1 := gn_in b 0 4 hb (by omega) (by omega) (by omega)
    have g2 := gn_in b 4 4 hb (by omega) (by omega) (by omega)
    have e1 : (GN b 0 4).2 = true := congrArg Prod.snd g1
    have e2 : (GN b 4 4).2 = true := congrArg Prod.snd g2
    have h8 : InK .u8 (at_ b 8) := by
      have : at_ b 8 = b[8] := at_nat b 8 (by omega)
      rw [this]; exact hb _ (List.getElem_mem _)
    have hx : at_ b 8 = (x8 b : Int) := (u8n h8).1
    have hx2 : x8 b < 256 := (u8n h8).2
    rw [e1, e2, if_neg (by simp; omega), if_pos ⟨by omega, by omega⟩, wrap_u8n _ h8, hx, Option.bind_some, w64 (n := 10 + (x8 b : Int)) (by omega) (by omega)]
    by_cases hc : 10 + x8 b ≤ b.length
    · rw [if_neg (by simp; omega), if_pos ⟨by omega, by omega⟩, w64 (n := 9 + (x8 b : Int)) (by omega) (by omega), w64 (n := 9 + (x8 b : Int) + 1) (by omega) (by omega), if_pos ⟨by omega, by omega, by omega⟩]
      rw [show (9 + (x8 b : Int)).toNat = 9 + x8 b by omega, show ((9 : Int)).toNat = 9 from rfl, take_drop, show 9 + x8 b - 9 = x8 b by omega, show (9 + (x8 b : Int) + 1).toNat = 10 + x8 b by omega]
      rw [impl_KeyRead _ (cut_u8 b _ _ hb) (by rw [cut_len _ _ _ (by omega)]; omega), Option.bind_some, if_pos ⟨by omega, by omega⟩, impl_ValueRead _ (drop_u8 b hb _) (by simp; omega), Option.bind_some]
      have ht := tt_ok b hb
      have e := bytesEqual _ _ (tb_u8 _ ht) hb
      show ((if ((!(RK b).2) || (!(RV b).2)) = true then some true else ((impl_TupleOk.f (TT b)).bind fun r72 => (some (!r72)))).bind fun y65 => ((if y65 = true then some true else ((impl_TupleBytes.f (TT b)).bind fun r83 => ((bytes_Equal.f r83 b).bind fun r88 => (some (!r88))))).bind fun y82 => (if y82 = true then some (T0, false) else some (TT b, true)))) = _
      rw [impl_TupleOk _ ht, impl_TupleBytes _ ht, Option.bind_some, Option.bind_some, e]
      by_cases hk : (RK b).2 = true
      · by_cases hv : (RV b).2 = true
        · by_cases he : TB (TT b) = b
          · have ho : TOK (TT b) = true := by
              cases hh : TOK (TT b) with
              | true => rfl
              | false =>
                unfold TB at he
                rw [if_neg (by rw [hh]; decide)] at he
                rw [← he] at h9; simp at h9
            rw [TR_yes ⟨hc, hk, hv, he⟩, hk, hv, ho, decide_eq_true he]; rfl
          · rw [TR_no (fun h => he h.2.2.2), hk, hv, decide_eq_false he]
            cases TOK (TT b) <;> rfl
        · rw [TR_no (fun h => hv h.2.2.1), hk, eq_false_of_ne_true hv]; rfl
      · rw [TR_no (fun h => hk h.2.1), eq_false_of_ne_true hk]
        cases (RV b).2 <;> rfl
    · rw [if_pos (by simp; omega), TR_no (fun h => hc h.1)]; rfl
  · rw [if_pos (by simp; omega), Option.bind_some, TR_no (fun h => by omega)]; rfl
end Go.Proofs.YtcagjdngannneaaGreat
