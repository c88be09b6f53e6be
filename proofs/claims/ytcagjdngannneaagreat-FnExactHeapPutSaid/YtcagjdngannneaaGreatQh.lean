
import Derived.Test.YtcagjdngannneaaGreatQg
import Derived.Test.YtcagjdngannneaaGreatQn
set_option linter.unusedVariables false
set_option linter.unusedSimpArgs false
set_option linter.unusedSectionVars false
namespace Go.Proofs.YtcagjdngannneaaGreat
open Go V Ieee
theorem in_rin (a b c : Int) : spec_l5in.f a b c = some (rin a b c) := rfl
theorem within_rin (a b c : Int) : impl_within.f a b c = some (rin a b c) := rfl
def IOK (a : Item) : Bool := ((rin a.Kind 0 3 && ((a.N == (0 : Int)) || (a.Kind == (1 : Int)))) && (((a.F : Int) == 0) || (a.Kind == (2 : Int)))) && (((a.T.length : Int) == (0 : Int)) || ((a.Kind == (3 : Int)) && (decide ((a.T.length : Int) ≤ (40 : Int)))))
theorem impl_ItemOk (a : Item) : impl_ItemOk.f a = some (IOK a) := by
  unfold impl_ItemOk.f
  rw [within_rin, Option.bind_some]; rfl
theorem iok_iff (a : Item) : IOK a = true ↔ ((0 ≤ a.Kind ∧ a.Kind ≤ 3) ∧ (a.N = 0 ∨ a.Kind = 1)) ∧ (a.F = 0 ∨ a.Kind = 2) ∧ (a.T.length = 0 ∨ a.Kind = 3 ∧ a.T.length ≤ 40) := by
  simp only [IOK, rin, Bool.and_eq_true, Bool.or_eq_true, decide_eq_true_eq, beq_iff_eq]
  constructor
  · rintro ⟨⟨⟨h1, h2⟩, h3⟩, h4⟩; exact ⟨⟨h1, h2⟩, by omega, by omega⟩
  · rintro ⟨⟨h1, h2⟩, h3, h4⟩; exact ⟨⟨⟨h1, h2⟩, by omega⟩, by omega⟩
theorem spec_ItemOk (a : Item) (h : okF a.F) : spec_ItemOk.f a = some (IOK a) := by
  unfold spec_ItemOk.f
  rw [spec_FloatBits a.F h]
  obtain ⟨k, n, f, t⟩ := a
  have hi := iok_iff ⟨k, n, f, t⟩
  simp only at hi ⊢
  generalize t.length = l at hi ⊢
  by_cases c1 : (((decide (k < (0 : Int))) || (decide (k > (3 : Int)))) || (decide ((l : Int) > (40 : Int)))) = true
  · rw [if_pos c1]
    have : IOK ⟨k, n, f, t⟩ = false := by
      cases hh : IOK ⟨k, n, f, t⟩ with
      | false => rfl
      | true =>
        have := hi.1 hh
        simp only [Bool.or_eq_true, decide_eq_true_eq] at c1
        omega
    rw [this]
  · rw [if_neg c1]
    simp only [Bool.or_eq_true, decide_eq_true_eq, not_or] at c1
    by_cases c2 : ((k != (1 : Int)) && (n != (0 : Int))) = true
    · rw [if_pos c2]
      have : IOK ⟨k, n, f, t⟩ = false := by
        cases hh : IOK ⟨k, n, f, t⟩ with
        | false => rfl
        | true =>
          have := hi.1 hh
          simp only [Bool.and_eq_true, bne_iff_ne, ne_eq] at c2
          omega
      rw [this]
    · rw [if_neg c2]
      simp only [Bool.and_eq_true, bne_iff_ne, ne_eq, not_and, Decidable.not_not] at c2
      by_cases c3 : k = 2
      · rw [if_neg (by simp [c3])]
        simp only [Option.bind_some, Bool.false_eq_true, if_false]
        congr 1
        have e : ((k == (3 : Int)) || ((l : Int) == (0 : Int))) = decide (k = 3 ∨ l = 0) := by
          by_cases q : k = 3 <;> by_cases q2 : l = 0 <;> simp [q, q2]
        rw [e]
        cases hh : IOK ⟨k, n, f, t⟩ with
        | true => exact decide_eq_true (by have := hi.1 hh; omega)
        | false => exact decide_eq_false (fun hc => by
            have : IOK ⟨k, n, f, t⟩ = true := hi.2 (by omega)
            rw [hh] at this; cases this)
      · rw [if_pos (by simp [c3])]
        simp only [Option.bind_some]
        by_cases c4 : f = 0
        · rw [if_neg (by simp [c4])]
          congr 1
          have e : ((k == (3 : Int)) || ((l : Int) == (0 : Int))) = decide (k = 3 ∨ l = 0) := by
            by_cases q : k = 3 <;> by_cases q2 : l = 0 <;> simp [q, q2]
          rw [e]
          cases hh : IOK ⟨k, n, f, t⟩ with
          | true => exact decide_eq_true (by have := hi.1 hh; omega)
          | false => exact decide_eq_false (fun hc => by
              have : IOK ⟨k, n, f, t⟩ = true := hi.2 (by omega)
              rw [hh] at this; cases this)
        · rw [if_pos (by simp; exact c4)]
          have : IOK ⟨k, n, f, t⟩ = false := by
            cases hh : IOK ⟨k, n, f, t⟩ with
            | false => rfl
            | true =>
              have := hi.1 hh
              omega
          rw [this]
def KOK (a : Item) : Bool := (IOK a && (a.Kind != (0 : Int))) && decide (a.F ≠ 9223372036854775808)
theorem impl_KeyOk (a : Item) (h : okF a.F) : impl_KeyOk.f a = some (KOK a) := by
  unfold impl_KeyOk.f KOK
  rw [impl_ItemOk, Option.bind_some]
  obtain ⟨_, c2, _, _⟩ := cmp_facts a.F h
  have e : ((fcmp .f64 a.F 0 != some .eq) || ((a.F : Int) == 0)) = decide (a.F ≠ 9223372036854775808) := by
    have hb : (fcmp .f64 a.F 0 != some .eq) = !(fcmp .f64 a.F 0 == some .eq) := rfl
    rw [hb, c2]
    generalize a.F = q
    by_cases h0 : q = 0
    · subst h0; rfl
    · by_cases h1 : q = 9223372036854775808
      · subst h1; rfl
      · rw [decide_eq_false (by omega), decide_eq_true h1]; rfl
  rw [e]
theorem spec_KeyOk (a : Item) (h : okF a.F) : spec_KeyOk.f a = some (KOK a) := by
  unfold spec_KeyOk.f KOK
  rw [spec_ItemOk a h, Option.bind_some]
  obtain ⟨_, c2, _, _⟩ := cmp_facts a.F h
  cases hc : (IOK a && (a.Kind != (0 : Int))) with
  | false => rfl
  | true =>
    rw [if_pos rfl, c2, spec_FloatBits a.F h]
    generalize a.F = q
    by_cases h0 : q = 0
    · subst h0; rfl
    · by_cases h1 : q = 9223372036854775808
      · subst h1; rfl
      · rw [decide_eq_false (by omega), decide_eq_true h1]; rfl
def highP (n k : Nat) : List Int := (List.range k).map fun j : Nat => ((n / 2 ^ (56 - 8 * j) % 256 : Nat) : Int)
def highB (n : Nat) : List Int := highP n 8
theorem highP_succ (n k : Nat) : highP n (k + 1) = highP n k ++ [((n / 2 ^ (56 - 8 * k) % 256 : Nat) : Int)] := by simp [highP, List.range_succ]
theorem highP_len (n k : Nat) : (highP n k).length = k := by simp [highP]
theorem highB_u8 (n : Nat) : ∀ x ∈ highB n, InK .u8 x := by
  intro x hx
  simp only [highB, highP, List.mem_map] at hx
  obtain ⟨j, _, rfl⟩ := hx
  have := Nat.mod_lt (n / 2 ^ (56 - 8 * j)) (show 256 > 0 by omega)
  exact u8_ok (by omega) (by omega)
theorem wrap8 (q : Nat) : IntKind.wrap .u8 ((q : Nat) : Int) = ((q % 256 : Nat) : Int) := by rw [IntKind.wrap_u8]; omega
theorem impl_highFirst (n : Nat) : impl_highFirst.f (n : Int) = some (highB n) := by
  unfold impl_highFirst.f
  have hst : (([] : List Int), (56 : Int)) = (highP n 0, (56 : Int) - 8 * ((0 : Nat) : Int)) := rfl
  rw [hst]
  refine iter_for 8 (fun k => (highP n k, (56 : Int) - 8 * (k : Int))) _ (fun k hk => ?_) ?_
  · unfold impl_highFirst.b0
    simp only []
    have e1 : (56 : Int) - 8 * (k : Int) = ((56 - 8 * k : Nat) : Int) := by omega
    rw [if_pos (by simp; omega), if_pos (by omega), if_pos (by rw [highP_len]; simp [Lim]; omega), e1, ishr_nat .u64 n _ (by show 56 - 8 * k ≤ 64; omega), wrap8, highP_succ, w64 (by omega) (by omega)]
    rw [show ((56 - 8 * k : Nat) : Int) - 8 = (56 : Int) - 8 * ((k + 1 : Nat) : Int) by omega]
  · unfold impl_highFirst.b0
    simp only []
    rw [if_neg (by simp)]; rfl
theorem spec_l3high (n : Nat) (h : n < 18446744073709551616) : spec_l3high.f (n : Int) = some (highB n) := by
  unfold spec_l3high.f
  have hst : (([] : List Int), (7 : Int)) = (highP n 0, (7 : Int) - ((0 : Nat) : Int)) := rfl
  rw [hst]
  refine iter_for 8 (fun k => (highP n k, (7 : Int) - (k : Int))) _ (fun k hk => ?_) ?_
  · unfold spec_l3high.b0
    simp only []
    have e1 : IntKind.wrap .u64 (IntKind.wrap .i64 ((8 : Int) * ((7 : Int) - (k : Int)))) = ((56 - 8 * k : Nat) : Int) := by
      rw [w64 (by omega) (by omega), show (8 : Int) * ((7 : Int) - (k : Int)) = ((56 - 8 * k : Nat) : Int) by omega, wu64 _ (by omega)]
    have h2 : iand .u64 ((n / 2 ^ (56 - 8 * k) : Nat) : Int) (255 : Int) = (((n / 2 ^ (56 - 8 * k)) &&& 255 : Nat) : Int) := iand_u64 _ 255 (Nat.lt_of_le_of_lt (Nat.div_le_self _ _) h) (by omega)
    have h3 : (n / 2 ^ (56 - 8 * k)) &&& 255 = n / 2 ^ (56 - 8 * k) % 256 := Nat.and_two_pow_sub_one_eq_mod _ 8
    rw [e1, if_pos (by simp; omega), if_pos (by omega), if_pos (by rw [highP_len]; simp [Lim]; omega), ishr_nat .u64 n _ (by show 56 - 8 * k ≤ 64; omega), h2, h3, wrap8, Nat.mod_mod, highP_succ, w64 (by omega) (by omega)]
    rw [show (7 : Int) - (k : Int) - 1 = (7 : Int) - ((k + 1 : Nat) : Int) by omega]
  · unfold spec_l3high.b0
    simp only []
    rw [if_neg (by simp)]; rfl
theorem sgn_bit (n : Int) (h : InK .i64 n) : ∃ q : Nat, q < 18446744073709551616 ∧ IntKind.wrap .u64 ((IntKind.wrap .u64 n) + (9223372036854775808 : Int)) = (q : Int) ∧ ixor .u64 (IntKind.wrap .u64 n) (9223372036854775808 : Int) = (q : Int) := by
  have hn := i64_of h
  obtain ⟨m, hm, hml⟩ : ∃ m : Nat, IntKind.wrap .u64 n = (m : Int) ∧ m < 18446744073709551616 := ⟨(IntKind.wrap .u64 n).toNat, by rw [IntKind.wrap_u64]; omega, by rw [IntKind.wrap_u64]; omega⟩
  rw [hm]
  have hx : ixor .u64 (m : Int) (9223372036854775808 : Int) = ((m ^^^ 9223372036854775808 : Nat) : Int) := ixor_u64 m 9223372036854775808 hml (by omega)
  by_cases hs : m < 9223372036854775808
  · refine ⟨m + 9223372036854775808, by omega, by rw [IntKind.wrap_u64]; omega, ?_⟩
    rw [hx]
    have := xor_sign m hs
    have h2 : (9223372036854775808 + m) ^^^ 2 ^ 63 = m := this
    have h3 : ((9223372036854775808 + m) ^^^ 2 ^ 63) ^^^ 2 ^ 63 = m ^^^ 2 ^ 63 := by rw [h2]
    rw [Nat.xor_assoc, Nat.xor_self, Nat.xor_zero] at h3
    have h4 : m ^^^ 9223372036854775808 = 9223372036854775808 + m := h3.symm
    rw [h4, Nat.add_comm]
  · obtain ⟨r, rfl⟩ : ∃ r, m = 9223372036854775808 + r := ⟨m - 9223372036854775808, by omega⟩
    refine ⟨r, by omega, by rw [IntKind.wrap_u64]; omega, ?_⟩
    rw [hx]
    have h2 : (9223372036854775808 + r) ^^^ 9223372036854775808 = r := xor_sign r (by omega)
    rw [h2]
noncomputable def IB (a : Item) (n : Nat) : List Int := if a.Kind = 1 then IntKind.wrap .u8 a.Kind :: highB (ixor .u64 (IntKind.wrap .u64 a.N) 9223372036854775808).toNat else if a.Kind = 2 then IntKind.wrap .u8 a.Kind :: highB n else IntKind.wrap .u8 a.Kind :: a.T
theorem highB_len (n : Nat) : (highB n).length = 8 := highP_len n 8
theorem impl_itemBytes (a : Item) (n : Nat) (h : InK .i64 a.N) (hT : a.T.length ≤ 1000000) : impl_itemBytes.f a (n : Int) = some (IB a n) := by
  obtain ⟨q, hq, e1, e2⟩ := sgn_bit a.N h
  unfold impl_itemBytes.f IB
  rw [e1, e2, impl_highFirst, impl_highFirst]
  by_cases h1 : a.Kind = 1
  · rw [if_pos (by simpa using h1), if_pos h1, Option.bind_some, if_pos (by rw [highB_len]; simp [Lim])]; rfl
  · rw [if_neg (by simpa using h1), if_neg h1]
    by_cases h2 : a.Kind = 2
    · rw [if_pos (by simpa using h2), if_pos h2, Option.bind_some, if_pos (by rw [highB_len]; simp [Lim])]; rfl
    · rw [if_neg (by simpa using h2), if_neg h2, if_pos (by simp [Lim]; omega)]; rfl
theorem spec_l3bytes (a : Item) (n : Nat) (hn : n < 18446744073709551616) (h : InK .i64 a.N) (hT : a.T.length ≤ 1000000) : spec_l3bytes.f a (n : Int) = some (IB a n) := by
  obtain ⟨q, hq, e1, e2⟩ := sgn_bit a.N h
  unfold spec_l3bytes.f IB
  rw [e2, spec_l3high _ hq, spec_l3high _ hn]
  by_cases h1 : a.Kind = 1
  · rw [if_pos (by simpa using h1), if_pos h1, Option.bind_some, if_pos (by rw [highB_len]; simp [Lim])]; rfl
  · rw [if_neg (by simpa using h1), if_neg h1]
    by_cases h2 : a.Kind = 2
    · rw [if_pos (by simpa using h2), if_pos h2, Option.bind_some, if_pos (by rw [highB_len]; simp [Lim])]; rfl
    · rw [if_neg (by simpa using h2), if_neg h2, if_pos (by simp [Lim]; omega)]; rfl
noncomputable def KB (a : Item) : List Int := if KOK a = true then IB a (FRK a.F) else []
noncomputable def VB (a : Item) : List Int := if IOK a = true ∧ a.Kind ≠ 0 then IB a a.F else []
theorem iok_T {a : Item} (h : IOK a = true) : a.T.length ≤ 40 := by have := (iok_iff a).1 h; omega
theorem kok_iok {a : Item} (h : KOK a = true) : IOK a = true := by
  simp only [KOK, Bool.and_eq_true] at h; exact h.1.1
theorem impl_KeyBytes (a : Item) (h : ok_Item a) : impl_KeyBytes.f a = some (KB a) := by
  unfold impl_KeyBytes.f KB
  rw [impl_KeyOk a h.2.2.1, Option.bind_some]
  cases hk : KOK a with
  | false => rfl
  | true =>
    have := iok_T (kok_iok hk)
    rw [if_neg (by decide), impl_FloatRank a.F h.2.2.1, Option.bind_some, impl_itemBytes a _ h.2.1 (by omega), if_pos rfl]; rfl
theorem spec_KeyBytes (a : Item) (h : ok_Item a) : spec_KeyBytes.f a = some (KB a) := by
  unfold spec_KeyBytes.f KB
  rw [spec_KeyOk a h.2.2.1, Option.bind_some]
  cases hk : KOK a with
  | false => rfl
  | true =>
    have := iok_T (kok_iok hk)
    rw [if_neg (by decide), spec_FloatRank a.F h.2.2.1, Option.bind_some, spec_l3bytes a _ (FRK_lt _ h.2.2.1.2) h.2.1 (by omega), if_pos rfl]; rfl
theorem impl_ValueBytes (a : Item) (h : ok_Item a) : impl_ValueBytes.f a = some (VB a) := by
  unfold impl_ValueBytes.f VB
  rw [impl_ItemOk a, Option.bind_some]
  by_cases hk : IOK a = true ∧ a.Kind ≠ 0
  · have := iok_T hk.1
    rw [if_neg (by simp [hk.1, hk.2]), impl_FloatBits a.F h.2.2.1, Option.bind_some, impl_itemBytes a _ h.2.1 (by omega), if_pos hk]; rfl
  · rw [if_pos (by
      cases hi : IOK a with
      | false => rfl
      | true => simp [hi] at hk ⊢; exact hk), if_neg hk]
theorem spec_ValueBytes (a : Item) (h : ok_Item a) : spec_ValueBytes.f a = some (VB a) := by
  unfold spec_ValueBytes.f VB
  rw [spec_ItemOk a h.2.2.1, Option.bind_some]
  by_cases hk : IOK a = true ∧ a.Kind ≠ 0
  · have := iok_T hk.1
    rw [if_neg (by simp [hk.1, hk.2]), spec_FloatBits a.F h.2.2.1, Option.bind_some, spec_l3bytes a _ h.2.2.1.2 h.2.1 (by omega), if_pos hk]; rfl
  · rw [if_pos (by
      cases hi : IOK a with
      | false => rfl
      | true => simp [hi] at hk ⊢; exact hk), if_neg hk]
theorem u8w (x : Int) : InK .u8 (IntKind.wrap .u8 x) := by rw [IntKind.wrap_u8]; exact u8_ok (by omega) (by omega)
theorem ib_u8 (a : Item) (n : Nat) (h : ok_Item a) : ∀ x ∈ IB a n, InK .u8 x := by
  intro x hx
  unfold IB at hx
  split at hx
  · rcases List.mem_cons.1 hx with rfl | hx
    · exact u8w _
    · exact highB_u8 _ x hx
  · split at hx
    · rcases List.mem_cons.1 hx with rfl | hx
      · exact u8w _
      · exact highB_u8 _ x hx
    · rcases List.mem_cons.1 hx with rfl | hx
      · exact u8w _
      · exact h.2.2.2.2 x hx
theorem kb_u8 (a : Item) (h : ok_Item a) : ∀ x ∈ KB a, InK .u8 x := by
  intro x hx; unfold KB at hx; split at hx
  · exact ib_u8 a _ h x hx
  · cases hx
theorem vb_u8 (a : Item) (h : ok_Item a) : ∀ x ∈ VB a, InK .u8 x := by
  intro x hx; unfold VB at hx; split at hx
  · exact ib_u8 a _ h x hx
  · cases hx
theorem ib_len (a : Item) (n : Nat) : (IB a n).length = if a.Kind = 1 ∨ a.Kind = 2 then 9 else a.T.length + 1 := by
  unfold IB
  by_cases h1 : a.Kind = 1
  · rw [if_pos h1, if_pos (.inl h1), List.length_cons, highB_len]
  · by_cases h2 : a.Kind = 2
    · rw [if_neg h1, if_pos h2, if_pos (.inr h2), List.length_cons, highB_len]
    · rw [if_neg h1, if_neg h2, if_neg (by omega), List.length_cons]
theorem kb_len (a : Item) : (KB a).length ≤ 41 := by
  unfold KB
  split
  · rename_i h; have := iok_T (kok_iok h); rw [ib_len]; split <;> omega
  · simp
theorem vb_len (a : Item) : (VB a).length ≤ 41 := by
  unfold VB
  split
  · rename_i h; have := iok_T h.1; rw [ib_len]; split <;> omega
  · simp
end Go.Proofs.YtcagjdngannneaaGreat
