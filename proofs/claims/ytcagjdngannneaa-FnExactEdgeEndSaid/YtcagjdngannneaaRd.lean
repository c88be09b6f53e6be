
import Derived.Test.YtcagjdngannneaaRb
set_option linter.unusedVariables false
set_option linter.unusedSimpArgs false
set_option linter.unusedSectionVars false
namespace Go.Proofs.Ytcagjdngannneaa
open Go V Ieee
def runL {α σ O : Type} (step : σ → α → σ ⊕ O) (fin : σ → O) : List α → σ → O
  | [], s => fin s
  | x :: xs, s => match step s x with
    | .inl s' => runL step fin xs s'
    | .inr o => o
theorem iter_runL {α σ O S : Type} {body : S → Option (S ⊕ O)} (xs : List α) (emb : σ → Nat → S) (step : σ → α → σ ⊕ O) (fin : σ → O) (Inv : σ → Nat → Prop)
    (h : ∀ s k (hk : k < xs.length), Inv s k → body (emb s k) = some (match step s xs[k] with
      | .inl s' => .inl (emb s' (k + 1))
      | .inr o => .inr o) ∧ ∀ s', step s xs[k] = .inl s' → Inv s' (k + 1))
    (hn : ∀ s, Inv s xs.length → body (emb s xs.length) = some (.inr (fin s))) (s0 : σ) (h0 : Inv s0 0) : iter body (emb s0 0) = some (runL step fin xs s0) := by
  have key : ∀ (m k : Nat) (s : σ), k + m = xs.length → Inv s k → iter body (emb s k) = some (runL step fin (xs.drop k) s) := by
    intro m
    induction m with
    | zero =>
      intro k s hk hI
      have : k = xs.length := by omega
      subst this
      rw [List.drop_length, iter_r (hn s hI)]; rfl
    | succ m ih =>
      intro k s hk hI
      have hlt : k < xs.length := by omega
      obtain ⟨hb, hs⟩ := h s k hlt hI
      rw [List.drop_eq_getElem_cons hlt]
      unfold runL
      cases hst : step s xs[k] with
      | inl s' => rw [hst] at hb; rw [iter_l hb]; exact ih (k + 1) s' (by omega) (hs s' hst)
      | inr o => rw [hst] at hb; rw [iter_r hb]
  have := key xs.length 0 s0 (by omega) h0
  rwa [List.drop_zero] at this
theorem iter_test {α O : Type} {body : Int → Option (Int ⊕ O)} (xs : List α) (g : α → Bool) (o1 o2 : O) (hb : ∀ (k : Nat) (hk : k < xs.length), body (k : Int) = if g xs[k] = true then some (.inr o1) else some (.inl ((k : Int) + 1))) (hn : body (xs.length : Int) = some (.inr o2)) : iter body 0 = some (if xs.any g = true then o1 else o2) := by
  have := iter_runL (body := body) xs (fun (_ : Unit) (k : Nat) => (k : Int)) (fun _ x => if g x = true then .inr o1 else .inl ()) (fun _ => o2) (fun _ _ => True) (fun _ k hk _ => ⟨by
    rw [hb k hk]
    cases g xs[k] <;> rfl, fun _ _ => trivial⟩) (fun _ _ => hn) () trivial
  refine this.trans ?_
  congr 1
  clear this hb hn
  induction xs with
  | nil => rfl
  | cons x xs ih =>
    unfold runL
    rw [List.any_cons]
    cases g x with
    | true => rfl
    | false => simpa using ih

def SGN (a b : Int) : Int := if a < b then -1 else if a > b then 1 else 0
theorem sgn_0 {a b : Int} : SGN a b = 0 ↔ a = b := by
  unfold SGN
  split
  · constructor <;> omega
  · split
    · constructor <;> omega
    · constructor <;> omega
def ICM (a b : Item) : Int := if a.Kind ≠ b.Kind then SGN a.Kind b.Kind else if a.N ≠ b.N then SGN a.N b.N else if FRK a.F ≠ FRK b.F then SGN (FRK a.F) (FRK b.F) else bcmp a.T b.T
theorem bcmp_at : ∀ (p : Nat) (xs ys : List Int) (h1 : p < xs.length) (h2 : p < ys.length), (∀ i, i < p → xs[i]? = ys[i]?) → xs[p] ≠ ys[p] → bcmp xs ys = if xs[p] < ys[p] then -1 else 1
  | 0, x :: xs, y :: ys, h1, h2, h, hne => by
    unfold bcmp
    have : (x == y) = false := by simpa using hne
    rw [this]
    simp only [cond_false, List.getElem_cons_zero]
    by_cases hlt : x < y
    · rw [if_pos hlt, decide_eq_true hlt]; rfl
    · rw [if_neg hlt, decide_eq_false hlt]; rfl
  | p + 1, x :: xs, y :: ys, h1, h2, h, hne => by
    unfold bcmp
    have h0 := h 0 (by omega)
    simp only [List.getElem?_cons_zero, Option.some.injEq] at h0
    have : (x == y) = true := by simpa using h0
    rw [this]
    simp only [cond_true, List.getElem_cons_succ]
    exact bcmp_at p xs ys (by simpa using h1) (by simpa using h2) (fun i hi => by simpa using h (i + 1) (by omega)) (by simpa using hne)
theorem bcmp_end : ∀ (xs ys : List Int), (∀ i, i < xs.length → i < ys.length → xs[i]? = ys[i]?) → bcmp xs ys = if xs.length < ys.length then -1 else if xs.length > ys.length then 1 else 0
  | [], [], _ => rfl
  | [], y :: ys, _ => by simp [bcmp]
  | x :: xs, [], _ => by simp [bcmp]
  | x :: xs, y :: ys, h => by
    unfold bcmp
    have h0 := h 0 (by simp) (by simp)
    simp only [List.getElem?_cons_zero, Option.some.injEq] at h0
    have : (x == y) = true := by simpa using h0
    rw [this]
    simp only [cond_true, List.length_cons]
    rw [bcmp_end xs ys fun i h1 h2 => by simpa using h (i + 1) (by simpa using h1) (by simpa using h2)]
    simp
theorem str_data (xs : List Int) : (str xs).data.toList = xs.map fun n => UInt8.ofNat n.toNat := by
  have key : ∀ (xs : List Int) (acc : ByteArray), (xs.foldl (fun r n => r.push (UInt8.ofNat n.toNat)) acc).data.toList = acc.data.toList ++ xs.map fun n => UInt8.ofNat n.toNat := by
    intro xs
    induction xs with
    | nil => intro acc; simp
    | cons x xs ih => intro acc; rw [List.foldl_cons, ih]; simp
  exact (key xs ByteArray.empty).trans (List.nil_append _)
theorem str_size (xs : List Int) : (str xs).size = xs.length := by
  have := congrArg List.length (str_data xs)
  rw [List.length_map, Array.length_toList] at this
  exact this
theorem str_get (xs : List Int) (i : Nat) (h : i < xs.length) : (str xs)[i]! = UInt8.ofNat (xs[i]).toNat := by
  have hs : i < (str xs).size := by rw [str_size]; exact h
  rw [getElem!_pos (str xs) i hs]
  have h1 : (str xs)[i] = (str xs).data[i] := rfl
  have h2 : (str xs).data.toList[i]? = (xs.map fun n => UInt8.ofNat n.toNat)[i]? := by rw [str_data]
  rw [List.getElem?_map, List.getElem?_eq_getElem h, Array.getElem?_toList, Array.getElem?_eq_getElem (show i < (str xs).data.size from hs)] at h2
  rw [h1]; exact Option.some.inj h2
theorem u8_lt {a b : Int} (ha : InK .u8 a) (hb : InK .u8 b) : (UInt8.ofNat a.toNat < UInt8.ofNat b.toNat) ↔ a < b := by
  have h1 := u8_of ha
  have h2 := u8_of hb
  rw [UInt8.lt_iff_toNat_lt, UInt8.toNat_ofNat', UInt8.toNat_ofNat', Nat.mod_eq_of_lt (by omega), Nat.mod_eq_of_lt (by omega)]
  omega
theorem u8_eq {a b : Int} (ha : InK .u8 a) (hb : InK .u8 b) : (UInt8.ofNat a.toNat = UInt8.ofNat b.toNat) ↔ a = b := by
  have h1 := u8_of ha
  have h2 := u8_of hb
  rw [← UInt8.toNat_inj, UInt8.toNat_ofNat', UInt8.toNat_ofNat', Nat.mod_eq_of_lt (by omega), Nat.mod_eq_of_lt (by omega)]
  omega
theorem bcmpS_eq (xs ys : List Int) (hx : ∀ x ∈ xs, InK .u8 x) (hy : ∀ x ∈ ys, InK .u8 x) : bcmpS xs ys = bcmp xs ys := by
  unfold bcmpS Extern.BytealgCompare.cmp
  rw [str_size, str_size]
  cases hf : (List.range (min xs.length ys.length)).find? (fun i => (str xs)[i]! != (str ys)[i]!) with
  | none =>
    rw [List.find?_eq_none] at hf
    rw [bcmp_end xs ys fun i h1 h2 => ?_]
    have := hf i (List.mem_range.2 (by omega))
    rw [str_get xs i h1, str_get ys i h2] at this
    have h3 : UInt8.ofNat (xs[i]).toNat = UInt8.ofNat (ys[i]).toNat := by simpa using this
    rw [List.getElem?_eq_getElem h1, List.getElem?_eq_getElem h2, (u8_eq (hx _ (List.getElem_mem h1)) (hy _ (List.getElem_mem h2))).1 h3]
  | some i =>
    have hm := List.mem_range.1 (List.mem_of_find?_eq_some hf)
    have h1 : i < xs.length := by omega
    have h2 : i < ys.length := by omega
    have hp := List.find?_some hf
    rw [List.find?_range_eq_some] at hf
    have hne : xs[i] ≠ ys[i] := fun e => by
      rw [str_get xs i h1, str_get ys i h2, e] at hp
      simp at hp
    rw [bcmp_at i xs ys h1 h2 (fun j hj => by
      have := hf.2.2 j hj
      rw [str_get xs j (by omega), str_get ys j (by omega)] at this
      have h3 : UInt8.ofNat (xs[j]).toNat = UInt8.ofNat (ys[j]).toNat := by simpa using this
      rw [List.getElem?_eq_getElem (by omega), List.getElem?_eq_getElem (by omega), (u8_eq (hx _ (List.getElem_mem (by omega))) (hy _ (List.getElem_mem (by omega)))).1 h3]) hne]
    simp only []
    rw [str_get xs i h1, str_get ys i h2]
    by_cases hlt : xs[i] < ys[i]
    · rw [if_pos hlt, if_pos ((u8_lt (hx _ (List.getElem_mem h1)) (hy _ (List.getElem_mem h2))).2 hlt)]
    · rw [if_neg hlt, if_neg fun h => hlt ((u8_lt (hx _ (List.getElem_mem h1)) (hy _ (List.getElem_mem h2))).1 h)]
theorem spec_l3texts (a b : List Int) (ha : a.length ≤ 1000000000) : spec_l3texts.f a b = some (bcmp a b) := by
  unfold spec_l3texts.f
  have key : ∀ (m k : Nat), k + m = a.length → k ≤ b.length → iter (spec_l3texts.b0 a b) (k : Int) = some (bcmp (a.drop k) (b.drop k)) := by
    intro m
    induction m with
    | zero =>
      intro k hk hb
      have : k = a.length := by omega
      subst this
      refine iter_r ?_
      unfold spec_l3texts.b0
      rw [if_neg (by simp), List.drop_length]
      by_cases hl : a.length < b.length
      · rw [if_pos (by simp; omega), List.drop_eq_getElem_cons hl]; rfl
      · rw [if_neg (by simp; omega), if_neg (by simp; omega), List.drop_eq_nil_of_le (by omega)]; rfl
    | succ m ih =>
      intro k hk hb
      have hk1 : k < a.length := by omega
      by_cases hk2 : k < b.length
      · rw [List.drop_eq_getElem_cons hk1, List.drop_eq_getElem_cons hk2]
        unfold bcmp
        by_cases h1 : a[k] < b[k]
        · have hne : (a[k] == b[k]) = false := by simp; omega
          rw [hne, decide_eq_true h1]
          refine iter_r ?_
          unfold spec_l3texts.b0
          rw [if_pos (by simp; omega), if_pos ⟨by omega, by omega⟩, if_pos ⟨by omega, by omega⟩, at_nat _ k hk1, at_nat _ k hk2, if_pos (by simpa using h1)]; rfl
        · by_cases h2 : a[k] > b[k]
          · have hne : (a[k] == b[k]) = false := by simp; omega
            rw [hne, decide_eq_false h1]
            refine iter_r ?_
            unfold spec_l3texts.b0
            rw [if_pos (by simp; omega), if_pos ⟨by omega, by omega⟩, if_pos ⟨by omega, by omega⟩, at_nat _ k hk1, at_nat _ k hk2, if_neg (by simpa using h1), if_pos ⟨by omega, by omega⟩, if_pos ⟨by omega, by omega⟩, if_pos (by simpa using h2)]; rfl
          · have hne : (a[k] == b[k]) = true := by simp; omega
            rw [hne, cond_true, ← ih (k + 1) (by omega) (by omega)]
            refine iter_l ?_
            unfold spec_l3texts.b0
            rw [if_pos (by simp; omega), if_pos ⟨by omega, by omega⟩, if_pos ⟨by omega, by omega⟩, at_nat _ k hk1, at_nat _ k hk2, if_neg (by simpa using h1), if_pos ⟨by omega, by omega⟩, if_pos ⟨by omega, by omega⟩, if_neg (by simpa using h2), w64 (by omega) (by omega)]; rfl
      · refine iter_r ?_
        unfold spec_l3texts.b0
        rw [if_neg (by simp; omega), if_neg (by simp; omega), if_pos (by simp; omega), List.drop_eq_getElem_cons hk1, List.drop_eq_nil_of_le (show b.length ≤ k by omega)]; rfl
  exact key a.length 0 (by omega) (by omega)
theorem cmpI (a b : Int) : cmp_Compare_int.f a b = some (SGN a b) := by
  unfold cmp_Compare_int.f cmp_isNaN_int.f SGN
  simp only [bne_self_eq_false, Option.bind_some, Bool.false_eq_true, if_false, decide_eq_true_eq]
  split
  · rfl
  · split <;> rfl
theorem cmpU (a b : Int) : cmp_Compare_uint64.f a b = some (SGN a b) := by
  unfold cmp_Compare_uint64.f cmp_isNaN_uint64.f SGN
  simp only [bne_self_eq_false, Option.bind_some, Bool.false_eq_true, if_false, decide_eq_true_eq]
  split
  · rfl
  · split <;> rfl
theorem cmpOr (l : List Int) (hl : l.length ≤ 1000) : cmp_Or_int.f l = some (runL (fun (_ : Unit) x => if x ≠ 0 then .inr x else .inl ()) (fun _ => 0) l ()) := by
  unfold cmp_Or_int.f
  refine iter_runL l (fun _ k => (k : Int)) _ _ (fun _ _ => True) (fun s k hk _ => ⟨?_, fun _ _ => trivial⟩) (fun s _ => ?_) () trivial
  · unfold cmp_Or_int.b0
    rw [if_pos (by simp; omega), if_pos ⟨by omega, by omega⟩, at_nat _ k hk, w64 (by omega) (by omega)]
    by_cases h : l[k] = 0
    · rw [if_neg (by simpa using h), if_neg (by simpa using h)]; rfl
    · rw [if_pos (by simpa using h), if_pos (by simpa using h)]
  · unfold cmp_Or_int.b0
    rw [if_neg (by simp)]; rfl
theorem impl_compareItems (a b : Item) (ha : ok_Item a) (hb : ok_Item b) : impl_compareItems.f a b = some (ICM a b) := by
  unfold impl_compareItems.f impl_FloatCompare.f bytes_Compare.f
  rw [cmpI, Option.bind_some, cmpI, Option.bind_some, impl_FloatRank _ ha.2.2.1, Option.bind_some, impl_FloatRank _ hb.2.2.1, Option.bind_some, cmpU, Option.bind_some, Option.bind_some, Option.bind_some, bcmpS_eq _ _ ha.2.2.2.2 hb.2.2.2.2, cmpOr _ (by simp), Option.bind_some]
  congr 1
  unfold ICM runL
  by_cases h1 : a.Kind = b.Kind
  · rw [if_neg (by simpa using sgn_0.2 h1), if_neg (by simpa using h1)]
    simp only []
    unfold runL
    by_cases h2 : a.N = b.N
    · rw [if_neg (by simpa using sgn_0.2 h2), if_neg (by simpa using h2)]
      simp only []
      unfold runL
      by_cases h3 : FRK a.F = FRK b.F
      · rw [if_neg (by simp [sgn_0, h3]), if_neg (by simpa using h3)]
        simp only []
        unfold runL
        by_cases h4 : bcmp a.T b.T = 0
        · rw [if_neg (by simpa using h4)]; simp only []; unfold runL; exact h4.symm
        · rw [if_pos (by simpa using h4)]
      · rw [if_pos (fun h => h3 (by have := sgn_0.1 h; omega)), if_pos h3]
    · rw [if_pos (fun h => h2 (sgn_0.1 h)), if_pos h2]
  · rw [if_pos (fun h => h1 (sgn_0.1 h)), if_pos h1]
theorem spec_FloatCompare (x y : Nat) (hx : okF x) (hy : okF y) : spec_FloatCompare.f x y = some (SGN (FRK x) (FRK y)) := by
  unfold spec_FloatCompare.f SGN
  rw [spec_FloatRank _ hx, Option.bind_some, spec_FloatRank _ hy, Option.bind_some]
  simp only [decide_eq_true_eq]
  split
  · rfl
  · split <;> rfl
theorem spec_ItemCompare (a b : Item) (ha : ok_Item a) (hb : ok_Item b) (va : IOK a = true) (vb : IOK b = true) : spec_ItemCompare.f a b = some (ICM a b) := by
  unfold spec_ItemCompare.f ICM
  rw [spec_ItemOk a ha.2.2.1, Option.bind_some, va, if_neg (by decide), spec_ItemOk b hb.2.2.1, Option.bind_some, vb]
  simp only [Option.bind_some, Bool.not_true, Bool.false_eq_true, if_false]
  by_cases h1 : a.Kind = b.Kind
  · rw [if_neg (show ¬ ((a.Kind != b.Kind) = true) by simpa using h1), if_neg (show ¬ (a.Kind ≠ b.Kind) by simpa using h1)]
    by_cases h2 : a.N = b.N
    · rw [if_neg (show ¬ ((a.N != b.N) = true) by simpa using h2), if_neg (show ¬ (a.N ≠ b.N) by simpa using h2), spec_FloatCompare _ _ ha.2.2.1 hb.2.2.1, Option.bind_some]
      by_cases h3 : FRK a.F = FRK b.F
      · rw [if_neg (by simp [sgn_0, h3]), if_neg (by simpa using h3), spec_l3texts _ _ (by have := iok_T va; omega)]; rfl
      · rw [if_pos (by simp [sgn_0]; omega), if_pos h3]
    · rw [if_pos (show (a.N != b.N) = true by simpa using h2), if_pos (show a.N ≠ b.N from h2)]
      unfold SGN
      simp only [decide_eq_true_eq]
      split
      · rfl
      · rw [if_pos (by omega)]
  · rw [if_pos (show (a.Kind != b.Kind) = true by simpa using h1), if_pos (show a.Kind ≠ b.Kind from h1)]
    unfold SGN
    simp only [decide_eq_true_eq]
    split
    · rfl
    · rw [if_pos (by omega)]

def SPK (s : Span) : Bool := KOK s.From && KOK s.To && decide (ICM s.From s.To ≤ 0)
def INS (a b c : Item) : Bool := KOK a && KOK b && KOK c && decide (ICM a c ≤ 0) && decide (ICM c b ≤ 0)
theorem impl_SpanOk (s : Span) (h : ok_Span s) : impl_SpanOk.f s = some (SPK s) := by
  unfold impl_SpanOk.f SPK
  rw [impl_KeyOk _ h.1.2.2.1, Option.bind_some]
  cases hf : KOK s.From with
  | false => rfl
  | true =>
    rw [if_pos rfl, impl_KeyOk _ h.2.2.2.1, Option.bind_some, Option.bind_some]
    cases ht : KOK s.To with
    | false => rfl
    | true => rw [if_pos rfl, impl_compareItems _ _ h.1 h.2]; rfl
theorem spec_SpanOk (s : Span) (h : ok_Span s) : spec_SpanOk.f s = some (SPK s) := by
  unfold spec_SpanOk.f SPK
  rw [spec_KeyOk _ h.1.2.2.1, Option.bind_some]
  cases hf : KOK s.From with
  | false => rfl
  | true =>
    rw [if_pos rfl, spec_KeyOk _ h.2.2.2.1, Option.bind_some, Option.bind_some]
    cases ht : KOK s.To with
    | false => rfl
    | true => rw [if_pos rfl, spec_ItemCompare _ _ h.1 h.2 (kok_iok hf) (kok_iok ht)]; rfl
theorem impl_InSpan (a b c : Item) (ha : ok_Item a) (hb : ok_Item b) (hc : ok_Item c) : impl_InSpan.f a b c = some (INS a b c) := by
  unfold impl_InSpan.f INS
  rw [impl_KeyOk _ ha.2.2.1, Option.bind_some]
  cases h1 : KOK a with
  | false => rfl
  | true =>
    rw [if_pos rfl, impl_KeyOk _ hb.2.2.1, Option.bind_some, Option.bind_some]
    cases h2 : KOK b with
    | false => rfl
    | true =>
      rw [if_pos rfl, impl_KeyOk _ hc.2.2.1, Option.bind_some, Option.bind_some]
      cases h3 : KOK c with
      | false => rfl
      | true =>
        rw [if_pos rfl, impl_compareItems _ _ ha hc, Option.bind_some, Option.bind_some]
        cases h4 : decide (ICM a c ≤ 0) with
        | false => rfl
        | true => rw [if_pos rfl, impl_compareItems _ _ hc hb]; rfl
theorem spec_InSpan (a b c : Item) (ha : ok_Item a) (hb : ok_Item b) (hc : ok_Item c) : spec_InSpan.f a b c = some (INS a b c) := by
  unfold spec_InSpan.f INS
  rw [spec_KeyOk _ ha.2.2.1, Option.bind_some]
  cases h1 : KOK a with
  | false => rfl
  | true =>
    rw [if_pos rfl, spec_KeyOk _ hb.2.2.1, Option.bind_some, Option.bind_some]
    cases h2 : KOK b with
    | false => rfl
    | true =>
      rw [if_pos rfl, spec_KeyOk _ hc.2.2.1, Option.bind_some, Option.bind_some]
      cases h3 : KOK c with
      | false => rfl
      | true =>
        rw [if_pos rfl, spec_ItemCompare _ _ ha hc (kok_iok h1) (kok_iok h3), Option.bind_some, Option.bind_some]
        cases h4 : decide (ICM a c ≤ 0) with
        | false => rfl
        | true => rw [if_pos rfl, spec_ItemCompare _ _ hc hb (kok_iok h3) (kok_iok h2)]; rfl
end Go.Proofs.Ytcagjdngannneaa
