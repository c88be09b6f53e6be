
import Derived.Test.YtcagjdngannneaaGreatQh
set_option linter.unusedVariables false
set_option linter.unusedSimpArgs false
set_option linter.unusedSectionVars false
namespace Go.Proofs.YtcagjdngannneaaGreat
open Go V Ieee
theorem i64w (x : Int) : InK .i64 (IntKind.wrap .i64 x) := by rw [IntKind.wrap_i64]; exact i64_ok (by omega) (by omega)
theorem okF_cn (n : Nat) (h : n < 18446744073709551616) : okF (cn n) := by
  refine ⟨cn_cn n, ?_⟩
  unfold cn
  cases isN n with
  | true => show nanB < _; decide
  | false => exact h
theorem okF_0 : okF 0 := ⟨by decide, by decide⟩

def lwS (n : Nat) (b : Int) : Nat := (n * 256 % 18446744073709551616) ||| b.toNat
def LW (l : List Int) : Nat := l.foldl lwS 0
theorem lw_lt (l : List Int) (h : ∀ x ∈ l, InK .u8 x) : LW l < 18446744073709551616 := by
  unfold LW
  have : ∀ (l : List Int) (n : Nat), (∀ x ∈ l, InK .u8 x) → n < 18446744073709551616 → l.foldl lwS n < 18446744073709551616 := by
    intro l
    induction l with
    | nil => intro n _ h; exact h
    | cons x l ih =>
      intro n hx hn
      have := u8n (hx x (by simp))
      exact ih _ (fun y hy => hx y (by simp [hy])) (Nat.or_lt_two_pow (n := 64) (Nat.mod_lt _ (by decide)) (by omega))
  exact this l 0 h (by decide)
theorem lw_take (l : List Int) (k : Nat) (h : k < l.length) : LW (l.take (k + 1)) = lwS (LW (l.take k)) l[k] := by
  unfold LW
  rw [List.take_succ_eq_append_getElem h, List.foldl_append]; rfl
theorem lw_step (n : Nat) (b : Int) (hn : n < 18446744073709551616) (hb : InK .u8 b) : ior .u64 (ishl .u64 (n : Int) (8 : Int)) (IntKind.wrap .u64 b) = ((lwS n b : Nat) : Int) := by
  obtain ⟨e, hl⟩ := u8n hb
  have h1 : ishl .u64 (n : Int) (8 : Int) = ((n * 256 % 18446744073709551616 : Nat) : Int) := by
    unfold ishl
    show IntKind.wrap .u64 ((n : Int) * 2 ^ 8) = _
    rw [IntKind.wrap_u64, show (2 : Int) ^ 8 = 256 by decide]
    omega
  rw [h1, e, wu64 _ (by omega), ior_u64 _ _ (Nat.mod_lt _ (by decide)) (by omega), ← e]; rfl
theorem spec_l3low (l : List Int) (h : ∀ x ∈ l, InK .u8 x) (hl : l.length ≤ 1000000000) : spec_l3low.f l = some ((LW l : Nat) : Int) := by
  unfold spec_l3low.f
  have hst : ((0 : Int), (0 : Int)) = (((LW (l.take 0) : Nat) : Int), ((0 : Nat) : Int)) := rfl
  have he : LW l = LW (l.take l.length) := by rw [List.take_length]
  rw [hst, he]
  refine iter_for l.length (fun k => (((LW (l.take k) : Nat) : Int), (k : Int))) _ (fun k hk => ?_) ?_
  · unfold spec_l3low.b0
    simp only []
    rw [if_pos (by simp; omega), if_pos ⟨by omega, by omega⟩, at_nat l k hk, lw_step _ _ (lw_lt _ fun x hx => h x (List.mem_of_mem_take hx)) (h _ (List.getElem_mem hk)), w64 (by omega) (by omega), lw_take l k hk]
    rfl
  · unfold spec_l3low.b0
    simp only []
    rw [if_neg (by simp)]; rfl
theorem impl_fromHigh (l : List Int) (h : ∀ x ∈ l, InK .u8 x) (hl : l.length ≤ 1000000000) : impl_fromHigh.f l = some ((LW l : Nat) : Int) := by
  rw [← spec_l3low l h hl]; rfl

def UY (n : Nat) : Nat := if 9223372036854775808 ≤ n then n % 9223372036854775808 else 18446744073709551615 ^^^ n
def UR (n : Nat) : Nat × Bool := if n = 18446744073709551615 then (nanB, true) else if FRK (cn (UY n)) = n then (cn (UY n), true) else (0, false)
theorem uy_lt (n : Nat) (h : n < 18446744073709551616) : UY n < 18446744073709551616 := by
  unfold UY
  split
  · omega
  · exact Nat.xor_lt_two_pow (n := 64) (by omega) h
theorem ur_ok (n : Nat) (h : n < 18446744073709551616) : okF (UR n).1 := by
  unfold UR
  split
  · exact ⟨by decide, by decide⟩
  · split
    · exact okF_cn _ (uy_lt n h)
    · exact okF_0
theorem iandn63 (n : Nat) (h : n < 18446744073709551616) : iandn .u64 (n : Int) (9223372036854775808 : Int) = ((n % 9223372036854775808 : Nat) : Int) := by
  unfold iandn
  have e : (BitVec.ofInt IntKind.u64.bits (n : Int) &&& ~~~ BitVec.ofInt IntKind.u64.bits (9223372036854775808 : Int)).toNat = n &&& 9223372036854775807 := by
    rw [BitVec.toNat_and, BitVec.toNat_not, ofInt_nat IntKind.u64.bits n h]
    have : (BitVec.ofInt IntKind.u64.bits (9223372036854775808 : Int)).toNat = 9223372036854775808 := by decide
    rw [this]; rfl
  rw [e]
  have h3 : n &&& 9223372036854775807 = n % 9223372036854775808 := Nat.and_two_pow_sub_one_eq_mod _ 63
  rw [h3, wu64 _ (by omega)]
theorem beq_nat (a b : Nat) : ((a : Int) == (b : Int)) = decide (a = b) := by
  by_cases h : a = b
  · subst h; simp
  · rw [decide_eq_false h]; simp; omega
theorem bne_nat (a b : Nat) : ((a : Int) != (b : Int)) = !decide (a = b) := by rw [← beq_nat]; rfl
theorem spec_FloatUnrank (n : Nat) (h : n < 18446744073709551616) : spec_FloatUnrank.f (n : Int) = some (UR n) := by
  unfold spec_FloatUnrank.f UR
  by_cases h1 : n = 18446744073709551615
  · subst h1
    rw [ifT (by decide), if_pos rfl, Option.bind_some]
    have e1 : spec_FloatOf.f (9221120237041090560 : Int) = some nanB := by
      have := spec_FloatOf 9221120237041090560 (by decide)
      exact this
    rw [e1, Option.bind_some, spec_FloatRank nanB ⟨by decide, by decide⟩, Option.bind_some]
    rfl
  · have hb : ((n : Int) == (18446744073709551615 : Int)) = false := by
      have := beq_nat n 18446744073709551615
      rw [decide_eq_false h1] at this
      exact this
    rw [if_neg (by rw [hb]; decide), if_neg h1]
    have hy : (if (ishr .u64 (n : Int) (63 : Int) == (1 : Int)) = true then some (iand .u64 (n : Int) (9223372036854775807 : Int)) else some (ixor .u64 (IntKind.max .u64) (n : Int))) = some ((UY n : Nat) : Int) := by
      unfold UY
      rw [ishr63]
      by_cases hs : 9223372036854775808 ≤ n
      · have h2 : iand .u64 (n : Int) (9223372036854775807 : Int) = ((n &&& 9223372036854775807 : Nat) : Int) := iand_u64 n 9223372036854775807 h (by omega)
        have h3 : n &&& 9223372036854775807 = n % 9223372036854775808 := Nat.and_two_pow_sub_one_eq_mod _ 63
        rw [if_pos (decide_eq_true (by omega)), if_pos hs, h2, h3]
      · rw [if_neg (by rw [decide_eq_false (by omega)]; decide), if_neg hs, max_u64, ixor_u64 _ _ (by omega) h]
    rw [hy]
    simp only [Option.bind_some]
    rw [spec_FloatOf _ (uy_lt n h)]
    simp only [Option.bind_some]
    rw [spec_FloatRank _ (okF_cn _ (uy_lt n h))]
    simp only [Option.bind_some]
    rw [bne_nat]
    by_cases hr : FRK (cn (UY n)) = n
    · rw [if_pos hr, decide_eq_true hr]; rfl
    · rw [if_neg hr, decide_eq_false hr]; rfl
theorem impl_FloatUnrank (n : Nat) (h : n < 18446744073709551616) : impl_FloatUnrank.f (n : Int) = some (UR n) := by
  unfold impl_FloatUnrank.f UR
  have hy : (if (decide ((n : Int) < (9223372036854775808 : Int))) = true then some (ixor .u64 (IntKind.max .u64) (n : Int)) else some (iandn .u64 (n : Int) (9223372036854775808 : Int))) = some ((UY n : Nat) : Int) := by
    unfold UY
    by_cases hs : 9223372036854775808 ≤ n
    · rw [if_neg (by simp; omega), if_pos hs, iandn63 n h]
    · rw [if_pos (by simp; omega), if_neg hs, max_u64, ixor_u64 _ _ (by omega) h]
  rw [hy, Option.bind_some, Int.toNat_natCast]
  by_cases h1 : n = 18446744073709551615
  · subst h1
    rw [ifT (by decide), if_pos rfl]
    have : math_NaN.f = some nanB := by unfold math_NaN.f; decide
    rw [this]; rfl
  · have hb : ((n : Int) == (18446744073709551615 : Int)) = false := by
      have := beq_nat n 18446744073709551615
      rw [decide_eq_false h1] at this
      exact this
    rw [if_neg (by rw [hb]; decide), if_neg h1]
    have hk := okF_cn _ (uy_lt n h)
    obtain ⟨c1, _, _, _⟩ := cmp_facts _ hk
    generalize cn (UY n) = f at hk c1 ⊢
    by_cases hx : f = 9221120237041090560
    · rw [ifT (by rw [c1]; exact decide_eq_true hx), Option.bind_some, ifT rfl, if_neg]
      rw [hx]
      show ¬ FRK 9221120237041090560 = n
      have : FRK 9221120237041090560 = 18446744073709551615 := by decide
      rw [this]; omega
    · rw [ifF (by rw [c1]; exact decide_eq_false hx), impl_FloatRank f hk, Option.bind_some, Option.bind_some, bne_nat]
      by_cases hr : FRK f = n
      · rw [if_pos hr, decide_eq_true hr]; rfl
      · rw [if_neg hr, decide_eq_false hr]; rfl

def I0 : Item := Item.mk 0 0 0 []
def PK (fl : Nat → Nat) (b : List Int) : Item := Item.mk (at_ b 0) (if at_ b 0 = 1 then IntKind.wrap .i64 (ixor .u64 ((LW (b.drop 1) : Nat) : Int) 9223372036854775808) else 0) (if at_ b 0 = 2 then fl (LW (b.drop 1)) else 0) (if at_ b 0 = 3 then b.drop 1 else [])
noncomputable def RD (By : Item → List Int) (fl : Nat → Nat) (b : List Int) : Item × Bool := if 1 ≤ b.length ∧ b.length ≤ 41 ∧ By (PK fl b) = b then (PK fl b, true) else (I0, false)
section
variable (b : List Int) (hb : ∀ x ∈ b, InK .u8 x)
include hb
theorem at0_u8 (h : 1 ≤ b.length) : InK .u8 (at_ b 0) := by
  have : at_ b 0 = b[0] := at_nat b 0 (by omega)
  rw [this]; exact hb _ (List.getElem_mem _)
theorem drop_u8 (k : Nat) : ∀ x ∈ b.drop k, InK .u8 x := fun x hx => hb x (List.mem_of_mem_drop hx)
theorem pk_ok (fl : Nat → Nat) (hf : ∀ n, n < 18446744073709551616 → okF (fl n)) (h : 1 ≤ b.length) (h2 : b.length ≤ 1000000000) : ok_Item (PK fl b) := by
  have h0 := u8_of (at0_u8 b hb h)
  refine ⟨i64_ok (by simp only [PK]; omega) (by simp only [PK]; omega), ?_, ?_, ?_, ?_⟩
  · simp only [PK]; split
    · exact i64w _
    · exact i64_ok (by omega) (by omega)
  · simp only [PK]; split
    · exact hf _ (lw_lt _ (drop_u8 b hb 1))
    · exact okF_0
  · simp only [PK]; split
    · simp [maxLen]; omega
    · simp
  · simp only [PK]; split
    · exact drop_u8 b hb 1
    · intro y hy; cases hy
theorem spec_parse (fl : Nat → Nat) (F : Int → Option Nat) (hF : ∀ n : Nat, n < 18446744073709551616 → F (n : Int) = some (fl n)) (h : 1 ≤ b.length) (h2 : b.length ≤ 1000000000) :
    ((if ((IntKind.wrap .i64 (at_ b (0 : Int))) == (1 : Int)) = true then (if 0 ≤ (1 : Int) ∧ (1 : Int) ≤ (b.length : Int) then ((spec_l3low.f (b.drop ((1 : Int)).toNat)).bind fun r26 => (some ((IntKind.wrap .i64 (ixor .u64 r26 (9223372036854775808 : Int))), (0 : Nat), ([] : (List Int))))) else none) else ((if ((IntKind.wrap .i64 (at_ b (0 : Int))) == (2 : Int)) = true then (if 0 ≤ (1 : Int) ∧ (1 : Int) ≤ (b.length : Int) then ((spec_l3low.f (b.drop ((1 : Int)).toNat)).bind fun r39 => ((F r39).bind fun r41 => (some (r41, ([] : (List Int)))))) else none) else ((if ((IntKind.wrap .i64 (at_ b (0 : Int))) == (3 : Int)) = true then (if 0 ≤ (1 : Int) ∧ (1 : Int) ≤ (b.length : Int) then (if ([] : (List Int)).length + (b.drop ((1 : Int)).toNat).length ≤ Lim then (some (([] : (List Int)) ++ (b.drop ((1 : Int)).toNat))) else none) else none) else (some ([] : (List Int)))).bind fun y48 => (some ((0 : Nat), y48)))).bind fun y33 => (some ((0 : Int), y33.1, y33.2))))) = some ((PK fl b).N, (PK fl b).F, (PK fl b).T) := by
  have h0 := at0_u8 b hb h
  have hl := lw_lt _ (drop_u8 b hb 1)
  rw [wrap_u8n _ h0, show ((1 : Int)).toNat = 1 from rfl, spec_l3low _ (drop_u8 b hb 1) (by simp; omega)]
  have hlen : (b.drop 1).length ≤ Lim := by simp [Lim]; omega
  simp only [Option.bind_some, hF _ hl, List.nil_append, List.length_nil, Nat.zero_add, if_pos hlen]
  have hg : (0 : Int) ≤ 1 ∧ (1 : Int) ≤ (b.length : Int) := ⟨by omega, by omega⟩
  simp only [if_pos hg, PK]
  by_cases c1 : at_ b 0 = 1
  · simp [c1]
  · by_cases c2 : at_ b 0 = 2
    · simp [c2]
    · by_cases c3 : at_ b 0 = 3
      · simp [c3]
      · simp [c1, c2, c3]
end
theorem pk_eta (fl : Nat → Nat) (b : List Int) : Item.mk (at_ b 0) (PK fl b).N (PK fl b).F (PK fl b).T = PK fl b := rfl
theorem RD_no {By : Item → List Int} {fl : Nat → Nat} {b : List Int} (h : ¬ (1 ≤ b.length ∧ b.length ≤ 41 ∧ By (PK fl b) = b)) : RD By fl b = (I0, false) := if_neg h
theorem RD_yes {By : Item → List Int} {fl : Nat → Nat} {b : List Int} (h : 1 ≤ b.length ∧ b.length ≤ 41 ∧ By (PK fl b) = b) : RD By fl b = (PK fl b, true) := if_pos h
def urf (n : Nat) : Nat := (UR n).1
theorem spec_KeyRead (b : List Int) (hb : ∀ x ∈ b, InK .u8 x) : spec_KeyRead.f b = some (RD KB urf b) := by
  unfold spec_KeyRead.f
  by_cases hl : 1 ≤ b.length ∧ b.length ≤ 41
  · rw [if_neg (by simp; omega), if_pos ⟨by omega, by omega⟩]
    have hp := spec_parse b hb urf (fun n => (spec_FloatUnrank.f n).bind fun r => some r.1) (fun n hn => by
      show (spec_FloatUnrank.f (n : Int)).bind _ = _
      rw [spec_FloatUnrank n hn]; rfl) hl.1 (by omega)
    have hk := pk_ok b hb urf (fun n hn => ur_ok n hn) hl.1 (by omega)
    have hbind : ∀ (X : Option (Nat × Bool)), (X.bind fun r41 => (some (r41.1, ([] : List Int)))) = ((X.bind fun r => some r.1).bind fun r41 => some (r41, ([] : List Int))) := fun X => by cases X <;> rfl
    simp only [hbind]
    rw [hp]
    simp only [Option.bind_some]
    rw [wrap_u8n _ (at0_u8 b hb hl.1), pk_eta, spec_KeyBytes _ hk, Option.bind_some, str_eq _ _ (kb_u8 _ hk) hb]
    by_cases he : KB (PK urf b) = b
    · rw [decide_eq_true he, RD_yes ⟨hl.1, hl.2, he⟩]; rfl
    · rw [decide_eq_false he, RD_no (fun h => he h.2.2)]; rfl
  · rw [if_pos (by simp; omega), RD_no (fun h => hl ⟨h.1, h.2.1⟩)]; rfl
theorem spec_ValueRead (b : List Int) (hb : ∀ x ∈ b, InK .u8 x) : spec_ValueRead.f b = some (RD VB cn b) := by
  unfold spec_ValueRead.f
  by_cases hl : 1 ≤ b.length ∧ b.length ≤ 41
  · rw [if_neg (by simp; omega), if_pos ⟨by omega, by omega⟩]
    have hp := spec_parse b hb cn spec_FloatOf.f (fun n hn => spec_FloatOf n hn) hl.1 (by omega)
    have hk := pk_ok b hb cn (fun n hn => okF_cn n hn) hl.1 (by omega)
    rw [hp]
    simp only [Option.bind_some]
    rw [wrap_u8n _ (at0_u8 b hb hl.1), pk_eta, spec_ValueBytes _ hk, Option.bind_some, str_eq _ _ (vb_u8 _ hk) hb]
    by_cases he : VB (PK cn b) = b
    · rw [decide_eq_true he, RD_yes ⟨hl.1, hl.2, he⟩]; rfl
    · rw [decide_eq_false he, RD_no (fun h => he h.2.2)]; rfl
  · rw [if_pos (by simp; omega), RD_no (fun h => hl ⟨h.1, h.2.1⟩)]; rfl
theorem impl_readItem (b : List Int) (hb : ∀ x ∈ b, InK .u8 x) (hl : b.length ≤ 1000000000) (fl : Nat → Nat) (F : Int → Option Nat) (hF : ∀ n : Nat, n < 18446744073709551616 → F (n : Int) = some (fl n)) :
    impl_readItem.f b F = some (if 1 ≤ b.length ∧ (at_ b 0 = 3 ∨ b.length = 9) then PK fl b else I0) := by
  unfold impl_readItem.f
  by_cases h : 1 ≤ b.length
  · have h0 := at0_u8 b hb h
    have hlw := lw_lt _ (drop_u8 b hb 1)
    rw [if_neg (by simp; intro hh; subst hh; simp at h), if_pos ⟨by omega, by omega⟩, if_pos ⟨by omega, by omega⟩, wrap_u8n _ h0, show ((1 : Int)).toNat = 1 from rfl, impl_fromHigh _ (drop_u8 b hb 1) (by simp; omega), cloneB _ (by simp; omega)]
    simp only [Option.bind_some, hF _ hlw]
    have hx : IntKind.wrap .u64 (((LW (b.drop 1) : Nat) : Int) - 9223372036854775808) = ixor .u64 ((LW (b.drop 1) : Nat) : Int) 9223372036854775808 := by
      generalize LW (b.drop 1) = m at hlw
      have hx2 : ixor .u64 (m : Int) (9223372036854775808 : Int) = ((m ^^^ 9223372036854775808 : Nat) : Int) := ixor_u64 m 9223372036854775808 hlw (by omega)
      rw [hx2]
      by_cases hs : m < 9223372036854775808
      · have h2 : (9223372036854775808 + m) ^^^ 2 ^ 63 = m := xor_sign m hs
        have h3 : ((9223372036854775808 + m) ^^^ 2 ^ 63) ^^^ 2 ^ 63 = m ^^^ 2 ^ 63 := by rw [h2]
        rw [Nat.xor_assoc, Nat.xor_self, Nat.xor_zero] at h3
        have h4 : m ^^^ 9223372036854775808 = 9223372036854775808 + m := h3.symm
        rw [h4, IntKind.wrap_u64]; omega
      · obtain ⟨r, rfl⟩ : ∃ r, m = 9223372036854775808 + r := ⟨m - 9223372036854775808, by omega⟩
        have h2 : (9223372036854775808 + r) ^^^ 9223372036854775808 = r := xor_sign r (by omega)
        rw [h2, IntKind.wrap_u64]; omega
    rw [hx]
    have hlen : ((((b.drop 1).length : Int) != (8 : Int)) = true) ↔ ¬ b.length = 9 := by simp; omega
    by_cases c3 : at_ b 0 = 3
    · rw [if_pos (by simp [c3]), (if_pos (c := 1 ≤ b.length ∧ (at_ b 0 = 3 ∨ b.length = 9)) ⟨h, .inl c3⟩)]
      simp [PK, c3]
    · rw [if_neg (by simp [c3])]
      by_cases c9 : b.length = 9
      · rw [if_neg (by rw [hlen]; simp [c9]), (if_pos (c := 1 ≤ b.length ∧ (at_ b 0 = 3 ∨ b.length = 9)) ⟨h, .inr c9⟩)]
        simp only [PK, if_neg c3]
        by_cases c1 : at_ b 0 = 1
        · simp [c1]
        · by_cases c2 : at_ b 0 = 2
          · simp [c2]
          · simp [c1, c2]
      · rw [if_pos (by rw [hlen]; exact c9), (if_neg (c := 1 ≤ b.length ∧ (at_ b 0 = 3 ∨ b.length = 9)) fun hh => hh.2.elim c3 c9)]
        rfl
  · have hn : b = [] := by cases b with | nil => rfl | cons x l => simp at h
    subst hn; rfl
theorem ok_I0 : ok_Item I0 := ⟨i64_ok (by decide) (by decide), i64_ok (by decide) (by decide), okF_0, by simp [I0], fun y hy => by cases hy⟩
theorem kok_0 : KOK I0 = false := by decide
theorem kb_kind {a : Item} (h : KB a ≠ []) : a.Kind ≠ 0 ∧ IOK a = true := by
  unfold KB at h
  split at h
  · rename_i hk
    simp only [KOK, Bool.and_eq_true, bne_iff_ne, ne_eq] at hk
    exact ⟨hk.1.2, hk.1.1⟩
  · exact absurd rfl h
theorem vb_kind {a : Item} (h : VB a ≠ []) : a.Kind ≠ 0 ∧ IOK a = true := by
  unfold VB at h
  split at h
  · rename_i hk; exact ⟨hk.2, hk.1⟩
  · exact absurd rfl h
theorem kb_9 {a : Item} (h : KB a ≠ []) (h3 : a.Kind ≠ 3) : (KB a).length = 9 := by
  have hk := kb_kind h
  have := (iok_iff a).1 hk.2
  unfold KB at h ⊢
  split at h
  · rename_i hh; rw [if_pos hh, ib_len, if_pos (by omega)]
  · exact absurd rfl h
theorem vb_9 {a : Item} (h : VB a ≠ []) (h3 : a.Kind ≠ 3) : (VB a).length = 9 := by
  have hk := vb_kind h
  have := (iok_iff a).1 hk.2
  unfold VB at h ⊢
  split at h
  · rename_i hh; rw [if_pos hh, ib_len, if_pos (by omega)]
  · exact absurd rfl h
theorem impl_KeyRead (b : List Int) (hb : ∀ x ∈ b, InK .u8 x) (hl : b.length ≤ 1000000000) : impl_KeyRead.f b = some (RD KB urf b) := by
  unfold impl_KeyRead.f
  rw [impl_readItem b hb hl urf impl_KeyRead_1.f (fun n hn => by unfold impl_KeyRead_1.f; rw [impl_FloatUnrank n hn]; rfl), Option.bind_some]
  by_cases hc : 1 ≤ b.length ∧ (at_ b 0 = 3 ∨ b.length = 9)
  · rw [if_pos hc]
    have hk := pk_ok b hb urf (fun n hn => ur_ok n hn) hc.1 hl
    rw [impl_KeyOk _ hk.2.2.1, Option.bind_some, impl_KeyBytes _ hk, Option.bind_some, bytesEqual _ _ (kb_u8 _ hk) hb, Option.bind_some]
    by_cases he : KB (PK urf b) = b
    · have hkok : KOK (PK urf b) = true := by
        cases hh : KOK (PK urf b) with
        | true => rfl
        | false =>
          unfold KB at he
          rw [if_neg (by rw [hh]; decide)] at he
          rw [← he] at hc; simp at hc
      have hlen := kb_len (PK urf b)
      rw [he] at hlen
      rw [hkok, decide_eq_true he, RD_yes ⟨hc.1, hlen, he⟩]; rfl
    · rw [decide_eq_false he, RD_no (fun h => he h.2.2)]
      cases KOK (PK urf b) <;> rfl
  · rw [if_neg hc, impl_KeyOk _ okF_0, Option.bind_some, kok_0]
    rw [RD_no]
    · rfl
    · rintro ⟨h1, h2, h3⟩
      have hne : KB (PK urf b) ≠ [] := by rw [h3]; intro h; subst h; simp at h1
      refine hc ⟨h1, ?_⟩
      by_cases c3 : at_ b 0 = 3
      · exact .inl c3
      · have := kb_9 hne c3
        rw [h3] at this
        exact .inr this
theorem impl_ValueRead (b : List Int) (hb : ∀ x ∈ b, InK .u8 x) (hl : b.length ≤ 1000000000) : impl_ValueRead.f b = some (RD VB cn b) := by
  unfold impl_ValueRead.f
  rw [impl_readItem b hb hl cn impl_FloatOf.f (fun n hn => impl_FloatOf n), Option.bind_some]
  by_cases hc : 1 ≤ b.length ∧ (at_ b 0 = 3 ∨ b.length = 9)
  · rw [if_pos hc]
    have hk := pk_ok b hb cn (fun n hn => okF_cn n hn) hc.1 hl
    rw [impl_ItemOk, Option.bind_some, impl_ValueBytes _ hk, Option.bind_some, bytesEqual _ _ (vb_u8 _ hk) hb, Option.bind_some]
    by_cases he : VB (PK cn b) = b
    · have hne : VB (PK cn b) ≠ [] := by rw [he]; intro h; subst h; simp at hc
      obtain ⟨hk0, hiok⟩ := vb_kind hne
      have hlen := vb_len (PK cn b)
      rw [he] at hlen
      rw [hiok, decide_eq_true he, RD_yes ⟨hc.1, hlen, he⟩, if_neg (by simp [hk0])]; rfl
    · rw [decide_eq_false he, RD_no (fun h => he h.2.2)]
      cases hq : ((!IOK (PK cn b)) || ((PK cn b).Kind == (0 : Int))) <;> rfl
  · rw [if_neg hc, impl_ItemOk, Option.bind_some]
    have : ((!IOK I0) || (I0.Kind == (0 : Int))) = true := by decide
    rw [if_pos this, RD_no]
    · rfl
    · rintro ⟨h1, h2, h3⟩
      have hne : VB (PK cn b) ≠ [] := by rw [h3]; intro h; subst h; simp at h1
      refine hc ⟨h1, ?_⟩
      by_cases c3 : at_ b 0 = 3
      · exact .inl c3
      · have := vb_9 hne c3
        rw [h3] at this
        exact .inr this
end Go.Proofs.YtcagjdngannneaaGreat
