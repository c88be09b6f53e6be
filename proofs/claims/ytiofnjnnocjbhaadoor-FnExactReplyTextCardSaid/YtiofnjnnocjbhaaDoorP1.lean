import Derived.Test.YtiofnjnnocjbhaaDoorG2
import Derived.Test.YtiofnjnnocjbhaaDoorGs
import Derived.Lib.ItoaNum
import Derived.Lib.ItoaLen
import Derived.Lib.Join
set_option linter.unusedVariables false
set_option linter.unusedSimpArgs false
namespace Go.Proofs.YtiofnjnnocjbhaaDoor
open Go V
theorem w64 {n : Int} (h0 : -9223372036854775808 ≤ n) (h1 : n ≤ 9223372036854775807) : IntKind.i64.wrap n = n := by
 rw [IntKind.wrap_i64]; omega
theorem i64_of {n : Int} (h : InK .i64 n) : -9223372036854775808 ≤ n ∧ n ≤ 9223372036854775807 := by
 simpa [InK, IntKind.min, IntKind.max, IntKind.signed, IntKind.bits] using h
theorem u8_of {n : Int} (h : InK .u8 n) : 0 ≤ n ∧ n ≤ 255 := by
 simpa [InK, IntKind.min, IntKind.max, IntKind.signed, IntKind.bits] using h
theorem i64_ok {n : Int} (h0 : -9223372036854775808 ≤ n) (h1 : n ≤ 9223372036854775807) : InK .i64 n := by
 simp [InK, IntKind.min, IntKind.max, IntKind.signed, IntKind.bits]; omega
theorem u8_ok {n : Int} (h0 : 0 ≤ n) (h1 : n ≤ 255) : InK .u8 n := by
 simp [InK, IntKind.min, IntKind.max, IntKind.signed, IntKind.bits]; omega
theorem u8n {b : Int} (h : InK .u8 b) : b = ((b.toNat : Nat) : Int) ∧ b.toNat < 256 := by have := u8_of h; omega
theorem fdiv_nat (a b : Nat) : Int.fdiv (a : Int) (b : Int) = ((a / b : Nat) : Int) := by
 rw [Int.fdiv_eq_ediv_of_nonneg _ (by omega)]; rfl
theorem ishr_nat (k : IntKind) (a b : Nat) (h : b ≤ k.bits) : ishr k (a : Int) (b : Int) = ((a / 2 ^ b : Nat) : Int) := by
 unfold ishr
 rw [Int.toNat_natCast, Nat.min_eq_left h]
 have : (2 : Int) ^ b = ((2 ^ b : Nat) : Int) := by simp
 rw [this, fdiv_nat]
theorem ofInt_nat (w a : Nat) (h : a < 2 ^ w) : (BitVec.ofInt w (a : Int)).toNat = a := by
 rw [BitVec.ofInt_natCast, BitVec.toNat_ofNat, Nat.mod_eq_of_lt h]
theorem wu64 (a : Nat) (h : a < 18446744073709551616) : IntKind.wrap .u64 ((a : Nat) : Int) = (a : Int) := by rw [IntKind.wrap_u64]; omega
theorem ior_u64 (a b : Nat) (ha : a < 18446744073709551616) (hb : b < 18446744073709551616) : ior .u64 (a : Int) (b : Int) = ((a ||| b : Nat) : Int) := by
 unfold ior
 rw [BitVec.toNat_or, ofInt_nat _ a ha, ofInt_nat _ b hb]
 exact wu64 _ (Nat.or_lt_two_pow (n := 64) ha hb)
theorem iand_u64 (a b : Nat) (ha : a < 18446744073709551616) (hb : b < 18446744073709551616) : iand .u64 (a : Int) (b : Int) = ((a &&& b : Nat) : Int) := by
 unfold iand
 rw [BitVec.toNat_and, ofInt_nat _ a ha, ofInt_nat _ b hb]
 exact wu64 _ (Nat.and_lt_two_pow (n := 64) _ hb)
theorem or_add (k n b : Nat) (h : b < 2 ^ k) : (n * 2 ^ k) ||| b = n * 2 ^ k + b := by
 have := Nat.two_pow_add_eq_or_of_lt (i := k) (b := b) h n
 rw [Nat.mul_comm n]
 exact this.symm
def rin (a b c : Int) : Bool := decide (b ≤ a) && decide (a ≤ c)
theorem rin_iff {a b c : Int} : rin a b c = true ↔ b ≤ a ∧ a ≤ c := by simp [rin]
theorem iter_for {S O : Type} {body : S → Option (S ⊕ O)} (n : Nat) (st : Nat → S) (o : O) (h : ∀ k, k < n → body (st k) = some (.inl (st (k + 1)))) (hn : body (st n) = some (.inr o)) : iter body (st 0) = some o := by
 have key : ∀ m, m ≤ n → iter body (st (n - m)) = some o := by
  intro m
  induction m with
  | zero => intro _; rw [iter_eq, Nat.sub_zero, hn]; rfl
  | succ m ih =>
   intro hm
   rw [iter_eq, h (n - (m + 1)) (by omega)]
   simp only [Option.bind_some]
   rw [show n - (m + 1) + 1 = n - m by omega]
   exact ih (by omega)
 have := key n (Nat.le_refl _)
 rwa [Nat.sub_self] at this
theorem iter_l {S O : Type} {body : S → Option (S ⊕ O)} {s s' : S} (h : body s = some (.inl s')) : iter body s = iter body s' := by rw [iter_eq, h]; rfl
theorem iter_r {S O : Type} {body : S → Option (S ⊕ O)} {s : S} {o : O} (h : body s = some (.inr o)) : iter body s = some o := by rw [iter_eq, h]; rfl
theorem iter_all {body : Int → Option (Int ⊕ Bool)} (n : Nat) (t : Nat → Bool) (h : ∀ k, k < n → body k = if t k = true then some (.inl ((k : Int) + 1)) else some (.inr false)) (hn : body n = some (.inr true)) : iter body 0 = some ((List.range n).all t) := by
 have key : ∀ m, m ≤ n → iter body ((n - m : Nat) : Int) = some ((List.range' (n - m) m).all t) := by
  intro m
  induction m with
  | zero => intro _; rw [iter_eq, Nat.sub_zero, hn]; rfl
  | succ m ih =>
   intro hm
   rw [iter_eq, h (n - (m + 1)) (by omega), List.range'_succ, List.all_cons]
   cases ht : t (n - (m + 1)) with
   | false => simp
   | true =>
    simp only [if_true, Option.bind_some, Bool.true_and]
    have e := ih (by omega)
    rw [show n - (m + 1) + 1 = n - m by omega, ← e]
    congr 1
    omega
 have := key n (Nat.le_refl _)
 rw [Nat.sub_self] at this
 rw [List.range_eq_range']
 exact this
theorem at_nat {α : Type} [Inhabited α] (xs : List α) (k : Nat) (h : k < xs.length) : at_ xs (k : Int) = xs[k] := by
 rw [at_eq xs k (by simpa using h)]; simp
theorem at_set {α : Type} [Inhabited α] (l : List α) (i : Nat) (v : α) (h : i < l.length) : at_ (l.set i v) (i : Int) = v := by
 rw [at_nat _ _ (by rw [List.length_set]; exact h)]; simp
theorem all_eq {α : Type} [DecidableEq α] (a b : List α) (h : a.length = b.length) : ((List.range a.length).all fun k => decide (a[k]? = b[k]?)) = decide (a = b) := by
  by_cases e : a = b
  · subst e; simp
  · have : ¬ ∀ k, k < a.length → a[k]? = b[k]? := fun hk => e (List.ext_getElem? fun k => by
      by_cases hl : k < a.length
      · exact hk k hl
      · rw [List.getElem?_eq_none (by omega), List.getElem?_eq_none (by omega)])
    simp only [e, decide_false]
    cases hb : (List.range a.length).all fun k => decide (a[k]? = b[k]?) with
    | false => rfl
    | true =>
      exact absurd (fun k hk => by
        have := List.all_eq_true.1 hb k (List.mem_range.2 hk)
        simpa using this) this
theorem eqS_gen {α : Type} [DecidableEq α] [Inhabited α] {body : Int → Option (Int ⊕ Bool)} (a b : List α) (hb : ∀ k : Nat, (h1 : k < a.length) → (h2 : k < b.length) → body (k : Int) = if decide (a[k] = b[k]) = true then some (.inl ((k : Int) + 1)) else some (.inr false))
    (hn : body (a.length : Int) = some (.inr true)) : (if ((a.length : Int) != (b.length : Int)) = true then some false else iter body 0) = some (decide (a = b)) := by
  by_cases hl : a.length = b.length
  · have hne : ((a.length : Int) != (b.length : Int)) = false := by simp [hl]
    rw [hne, if_neg (by decide), ← all_eq a b hl]
    refine iter_all a.length _ (fun k hk => ?_) hn
    rw [hb k hk (by omega), List.getElem?_eq_getElem hk, List.getElem?_eq_getElem (by omega)]
    simp
  · have hne : ((a.length : Int) != (b.length : Int)) = true := by simp; omega
    rw [hne, if_pos rfl]
    have : a ≠ b := fun e => hl (by rw [e])
    simp [this]
theorem toS_gen {α : Type} {body : List α × Int → Option ((List α × Int) ⊕ List α)} (a : List α) (z : α) (hb : ∀ (l : List α) (k : Nat) (h1 : k < a.length), l.length = a.length → body (l, (k : Int)) = some (.inl (l.set k a[k], (k : Int) + 1)))
    (hn : ∀ l : List α, body (l, (a.length : Int)) = some (.inr l)) : iter body (List.replicate ((a.length : Int)).toNat z, (0 : Int)) = some a := by
  have hst : (List.replicate ((a.length : Int)).toNat z, (0 : Int)) = (a.take 0 ++ List.replicate (a.length - 0) z, ((0 : Nat) : Int)) := by simp
  rw [hst]
  have e : (some a : Option (List α)) = some (a.take a.length ++ List.replicate (a.length - a.length) z) := by simp
  rw [e]
  refine iter_for a.length (fun k => (a.take k ++ List.replicate (a.length - k) z, (k : Int))) _ (fun k hk => ?_) (hn _)
  rw [hb _ k hk (by rw [List.length_append, List.length_take, List.length_replicate]; omega)]
  have hset : (a.take k ++ List.replicate (a.length - k) z).set k a[k] = a.take (k + 1) ++ List.replicate (a.length - (k + 1)) z := by
    rw [List.set_append, if_neg (by simp; omega)]
    have : (a.take k).length = k := by simp; omega
    rw [this, Nat.sub_self, show a.length - k = (a.length - (k + 1)) + 1 by omega, List.replicate_succ, List.set_cons_zero, List.take_succ_eq_append_getElem hk, List.append_assoc]
    rfl
  rw [hset]
  simp
def wsum {α : Type} (wt : α → Nat) (l : List α) : Nat := (l.map wt).sum
theorem wsum_cons {α : Type} (wt : α → Nat) (x : α) (l : List α) : wsum wt (x :: l) = wt x + wsum wt l := rfl
theorem wsum_mem {α : Type} (wt : α → Nat) (l : List α) : ∀ x ∈ l, wt x ≤ wsum wt l := by
 intro x hx
 induction l with
 | nil => cases hx
 | cons y l ih =>
  rw [wsum_cons]
  rcases List.mem_cons.1 hx with rfl | hx
  · omega
  · have := ih hx; omega
theorem wsum_le {α : Type} (w z : α → Nat) (c : Nat) (l : List α) (h : ∀ x ∈ l, w x ≤ c * (z x + 1)) : wsum w l ≤ c * (l.length + wsum z l) := by
 induction l with
 | nil => simp [wsum]
 | cons y l ih =>
  rw [wsum_cons, wsum_cons, List.length_cons]
  have h1 := h y (by simp)
  have h2 := ih fun x hx => h x (by simp [hx])
  have e : c * (l.length + 1 + (z y + wsum z l)) = c * (z y + 1) + c * (l.length + wsum z l) := by rw [← Nat.mul_add]; congr 1; omega
  omega
def Sz (f : Option Int) (n : Int) (z : Nat) : Prop := ∃ r, f = some r ∧ r ≤ n ∧ (0 ≤ r → r = n - (z : Int))
theorem szS_gen {α : Type} {body : Int × Int → Option ((Int × Int) ⊕ Int)} {z : α → Nat} (a : List α) (n : Int) (hl : a.length ≤ maxLen) (h0 : 0 ≤ n) (h1 : n ≤ 1048576)
    (hb : ∀ (k : Nat) (x : Int) (hk : k < a.length), 0 ≤ x → x ≤ 1048576 → ∃ r, r ≤ x ∧ (0 ≤ r → r = x - (z a[k] : Int)) ∧ body (x, (k : Int)) = if r < 0 then some (.inr (-1)) else some (.inl (r, (k : Int) + 1)))
    (hn : ∀ x, body (x, (a.length : Int)) = some (.inr x)) :
    Sz (if (decide ((IntKind.wrap .i64 (n - (a.length : Int))) < (0 : Int))) = true then (some (-1 : Int)) else iter body ((IntKind.wrap .i64 (n - (a.length : Int))), (0 : Int))) n (a.length + wsum z a) := by
  simp only [maxLen] at hl
  rw [w64 (by omega) (by omega)]
  by_cases hneg : n - (a.length : Int) < 0
  · rw [if_pos (by simpa using hneg)]
    exact ⟨-1, rfl, by omega, fun h => by omega⟩
  · rw [if_neg (by simpa using hneg)]
    have key : ∀ (m i : Nat) (x : Int), i + m = a.length → 0 ≤ x → x ≤ 1048576 → ∃ r, iter body (x, (i : Int)) = some r ∧ r ≤ x ∧ (0 ≤ r → r = x - (wsum z (a.drop i) : Int)) := by
      intro m
      induction m with
      | zero =>
        intro i x hi hx0 hx1
        have : i = a.length := by omega
        subst this
        refine ⟨x, iter_r (hn x), by omega, fun _ => ?_⟩
        rw [List.drop_length]; simp [wsum]
      | succ m ih =>
        intro i x hi hx0 hx1
        have hk : i < a.length := by omega
        obtain ⟨r, hr, hr2, hbb⟩ := hb i x hk hx0 hx1
        by_cases hrn : r < 0
        · rw [if_pos hrn] at hbb
          exact ⟨-1, iter_r hbb, by omega, fun h => by omega⟩
        · rw [if_neg hrn] at hbb
          rw [iter_l hbb]
          have e : (i : Int) + 1 = ((i + 1 : Nat) : Int) := by omega
          rw [e]
          obtain ⟨q, eq, hq, hq2⟩ := ih (i + 1) r (by omega) (by omega) (by omega)
          refine ⟨q, eq, by omega, fun h => ?_⟩
          have := hq2 h
          have := hr2 (by omega)
          rw [List.drop_eq_getElem_cons hk, wsum_cons]
          omega
    obtain ⟨r, er, hr, hr2⟩ := key a.length 0 (n - (a.length : Int)) (by omega) (by omega) (by omega)
    refine ⟨r, er, by omega, fun h => ?_⟩
    have := hr2 h
    rw [List.drop_zero] at this
    omega
theorem markS_gen {α : Type} {mb : List α × Int × Int → Option ((List α × Int × Int) ⊕ (Int × List α))} {hb : List α → Int × Int → Option ((Int × Int) ⊕ Int)} {wt : α → Nat} (HE : α → Int → Nat → Prop) (a : List α) (x : Int) (h0 : 0 ≤ x) (h1 : x + (wsum wt a : Int) ≤ 100000000000)
    (hm : ∀ (l : List α) (x : Int) (k : Nat) (hk : k < l.length), l.length = a.length → 0 ≤ x → x + (wt l[k] : Int) ≤ 100000000000 → ∃ e', mb (l, x, (k : Int)) = some (.inl (l.set k e', x + (wt l[k] : Int), (k : Int) + 1)) ∧ HE e' x (wt l[k]))
    (hmn : ∀ l x, l.length = a.length → mb (l, x, (l.length : Int)) = some (.inr (x, l)))
    (hh : ∀ (l : List α) (x : Int) (k n : Nat) (hk : k < l.length), l.length = a.length → HE l[k] x n → 0 ≤ x → x + (n : Int) ≤ 100000000000 → hb l (x, (k : Int)) = some (.inl (x + (n : Int), (k : Int) + 1)))
    (hhn : ∀ l x, l.length = a.length → hb l (x, (l.length : Int)) = some (.inr x)) :
    ∃ a', iter mb (a, x, (0 : Int)) = some (x + (wsum wt a : Int), a') ∧ a'.length = a.length ∧ iter (hb a') (x, (0 : Int)) = some (x + (wsum wt a : Int)) := by
  have key : ∀ (m i : Nat) (x : Int) (l : List α), i + m = l.length → l.length = a.length → 0 ≤ x → x + (wsum wt (l.drop i) : Int) ≤ 100000000000 →
      ∃ l', iter mb (l, x, (i : Int)) = some (x + (wsum wt (l.drop i) : Int), l') ∧ l'.length = l.length ∧ (∀ j, j < i → l'[j]? = l[j]?) ∧ iter (hb l') (x, (i : Int)) = some (x + (wsum wt (l.drop i) : Int)) := by
    intro m
    induction m with
    | zero =>
      intro i x l hi hla hx0 hx1
      have : i = l.length := by omega
      subst this
      rw [List.drop_length]
      refine ⟨l, ?_, rfl, fun _ _ => rfl, ?_⟩
      · rw [iter_r (hmn l x hla)]; simp [wsum]
      · rw [iter_r (hhn l x hla)]; simp [wsum]
    | succ m ih =>
      intro i x l hi hla hx0 hx1
      have hk : i < l.length := by omega
      have hd : l.drop i = l[i] :: l.drop (i + 1) := List.drop_eq_getElem_cons hk
      rw [hd, wsum_cons] at hx1 ⊢
      obtain ⟨e', hmb, hE⟩ := hm l x i hk hla hx0 (by omega)
      have e : (i : Int) + 1 = ((i + 1 : Nat) : Int) := by omega
      have hds : (l.set i e').drop (i + 1) = l.drop (i + 1) := List.drop_set_of_lt (by omega)
      obtain ⟨l', h1', h2', h3', h4'⟩ := ih (i + 1) (x + (wt l[i] : Int)) (l.set i e') (by rw [List.length_set]; omega) (by rw [List.length_set]; exact hla) (by omega) (by rw [hds]; omega)
      rw [hds] at h1' h4'
      rw [List.length_set] at h2'
      have hi' : i < l'.length := by omega
      have hli : l'[i] = e' := by
        have := h3' i (by omega)
        rw [List.getElem?_eq_getElem hi', List.getElem?_set_self hk] at this
        exact Option.some.inj this
      have hsum : x + (wt l[i] : Int) + (wsum wt (l.drop (i + 1)) : Int) = x + ((wt l[i] + wsum wt (l.drop (i + 1)) : Nat) : Int) := by omega
      refine ⟨l', ?_, h2', fun j hj => ?_, ?_⟩
      · rw [iter_l hmb, e, h1', hsum]
      · rw [h3' j (by omega), List.getElem?_set_ne (by omega)]
      · rw [iter_l (hh l' x i (wt l[i]) hi' (by omega) (by rw [hli]; exact hE) hx0 (by omega)), e, h4', hsum]
  obtain ⟨l', h1', h2', _, h4'⟩ := key a.length 0 x a (by omega) rfl h0 (by rw [List.drop_zero]; exact h1)
  rw [List.drop_zero] at h1' h4'
  exact ⟨l', h1', h2', h4'⟩
end Go.Proofs.YtiofnjnnocjbhaaDoor
set_option linter.unusedVariables false
set_option linter.unusedSimpArgs false
set_option linter.unusedSectionVars false
namespace Go.Proofs.YtiofnjnnocjbhaaDoor
open Go V Ieee
theorem iter_pass {S O : Type} {body : S → Option (S ⊕ O)} {s : S} {m : Option O} (h : body s = m.bind fun o => some (Sum.inr o)) : iter body s = m := by
 rw [iter_eq, h]
 cases m <;> rfl
def wd (M e : Nat) : Nat := D.word false (e * 4503599627370496 + M)
theorem wd_eq (M e : Nat) : wd M e = e * 4503599627370496 + M := rfl
theorem wd_v {M e : Nat} (h1 : M < 9007199254740992) (h2 : e = 0 ∨ 4503599627370496 ≤ M) (h3 : e ≤ 2045) : IsV (wd M e) false (M * pw e) := ⟨M, e, h1, h2, h3, rfl, rfl⟩
theorem rep_of {M : Nat} (h1 : M < 9007199254740992) : ∀ e, e ≤ 2045 → Rep (M * pw e) := by
 intro e
 induction e generalizing M with
 | zero => intro _; exact ⟨M, 0, h1, .inl rfl, by omega, rfl⟩
 | succ e ih =>
  intro he
  by_cases hm : 4503599627370496 ≤ M
  · exact ⟨M, e + 1, h1, .inr hm, he, rfl⟩
  · have := ih (M := 2 * M) (by omega) (by omega)
    rwa [show 2 * M * pw e = M * pw (e + 1) by rw [pw_succ, Nat.mul_comm 2 M, Nat.mul_assoc, Nat.mul_comm 2]] at this
theorem v0 : IsV 0 false 0 := ⟨0, 0, by decide, .inl rfl, by omega, by simp, rfl⟩
theorem v1 : IsV 4607182418800017408 false (4503599627370496 * pw 1022) := ⟨4503599627370496, 1022, by decide, .inr (Nat.le_refl _), by omega, rfl, rfl⟩
theorem v2 : IsV 4611686018427387904 false (4503599627370496 * pw 1023) := ⟨4503599627370496, 1023, by decide, .inr (Nat.le_refl _), by omega, rfl, rfl⟩
theorem vM : IsV 9218868437227405311 false (9007199254740991 * pw 2045) := ⟨9007199254740991, 2045, by decide, .inr (by decide), by omega, rfl, rfl⟩
section
variable {a b u v : Nat} (ha : IsV a false u) (hb : IsV b false v)
include ha hb
theorem cmp_v : fcmp .f64 a b = some (compare u v) := by
 have h := order_v ha hb
 rw [signed_f, signed_f, Nat.pow_zero, Nat.mul_one, Nat.mul_one] at h
 show D.order a b = _
 rw [h]
 show some (compareOfLessAndEq (u : Int) (v : Int)) = some (compareOfLessAndEq u v)
 unfold compareOfLessAndEq
 by_cases h1 : u < v
 · rw [if_pos h1, if_pos (by omega)]
 · rw [if_neg h1, if_neg (by omega)]
   by_cases h2 : u = v
   · rw [if_pos h2, if_pos (by omega)]
   · rw [if_neg h2, if_neg (by omega)]
theorem cmp_lt : (fcmp .f64 a b == some .lt) = decide (u < v) := by
 rw [cmp_v ha hb]
 by_cases h : u < v
 · simp [Nat.compare_eq_lt.2 h, h]
 · have : compare u v ≠ .lt := fun hc => h (Nat.compare_eq_lt.1 hc)
   simp [this, h]
theorem cmp_gt : (fcmp .f64 a b == some .gt) = decide (v < u) := by
 rw [cmp_v ha hb]
 by_cases h : v < u
 · simp [Nat.compare_eq_gt.2 h, h]
 · have : compare u v ≠ .gt := fun hc => h (Nat.compare_eq_gt.1 hc)
   simp [this, h]
theorem cmp_eq : (fcmp .f64 a b == some .eq) = decide (u = v) := by
 rw [cmp_v ha hb]
 by_cases h : u = v
 · simp [Nat.compare_eq_eq.2 h, h]
 · have : compare u v ≠ .eq := fun hc => h (Nat.compare_eq_eq.1 hc)
   simp [this, h]
end
theorem far_half {a u : Nat} (h : IsV a false (u * 2)) (hu : Rep u) : IsV (far .quo a 4611686018427387904) false u := by
 obtain ⟨w', hw, hv⟩ := div_pow (j := 1) c_two (by simpa [pw] using h) hu
 have : far .quo a 4611686018427387904 = w' := by show (D.div a _).getD _ = _; rw [hw]; rfl
 rwa [this]
theorem far_dbl {a u : Nat} (h : IsV a false u) (hu : Rep (u * 2)) : IsV (far .mul a 4611686018427387904) false (u * 2) := by
 obtain ⟨w', hw, hv⟩ := mul_pow_ (j := 1) c_two h (by simpa using hu)
 have : far .mul a 4611686018427387904 = w' := by show (D.mul a _).getD _ = _; rw [hw]; rfl
 rw [this]; simpa using hv
theorem far_big {a u : Nat} (h : IsV a false u) (hu : Rep (u * pw 52)) : IsV (far .mul a 4841369599423283200) false (u * pw 52) := by
 obtain ⟨w', hw, hv⟩ := mul_pow_ (j := 52) c_big h hu
 have : far .mul a 4841369599423283200 = w' := by show (D.mul a _).getD _ = _; rw [hw]; rfl
 rwa [this]
theorem far_sub1 {a v : Nat} (h : IsV a false (U1 + v)) (hv : Rep v) : IsV (far .sub a 4607182418800017408) false v := by
 obtain ⟨w', hw, hv⟩ := sub_one h hv
 have : far .sub a 4607182418800017408 = w' := by show (D.sub a _).getD _ = _; rw [hw]; rfl
 rwa [this]
theorem f2i_v {a n : Nat} (h : IsV a false (n * pw 1074)) (hn : n < 18446744073709551616) : floatToIntVal .f64 a .u64 = some (n : Int) := by
 unfold floatToIntVal
 have := toInt_p h
 show (match (D.read a).toInt .zero with | some n => _ | none => _) = _
 rw [this]
 simp only []
 rw [if_pos]
 simp [IntKind.min, IntKind.max, IntKind.signed, IntKind.bits]; omega
section
variable (S E : Nat) (A : Nat)
theorem bits_num (s E K : Nat) (hs : s ≤ 1) (hE : E < 2048) (hK : K < 4503599627370496) : ior .u64 (ior .u64 ((s * 9223372036854775808 : Nat) : Int) (ishl .u64 (IntKind.wrap .u64 (IntKind.wrap .i64 (E : Int))) 52)) (K : Int) = ((s * 9223372036854775808 + E * 4503599627370496 + K : Nat) : Int) := by
 rw [w64 (by omega) (by omega), wu64 E (by omega)]
 have h1 : ishl .u64 (E : Int) 52 = ((E * 4503599627370496 : Nat) : Int) := by
  unfold ishl
  show IntKind.wrap .u64 ((E : Int) * 2 ^ 52) = _
  have : (E : Int) * 2 ^ 52 = ((E * 4503599627370496 : Nat) : Int) := by rw [show (2 : Int) ^ 52 = 4503599627370496 by decide]; omega
  rw [this, wu64 _ (by omega)]
 rw [h1, ior_u64 _ _ (by omega) (by omega)]
 have h2 : s * 9223372036854775808 ||| E * 4503599627370496 = s * 9223372036854775808 + E * 4503599627370496 := by
  have := or_add 63 s (E * 4503599627370496) (by show _ < 9223372036854775808; omega)
  exact this
 rw [h2, ior_u64 _ _ (by omega) (by omega)]
 have h3 := or_add 52 (s * 2048 + E) K (by show _ < 4503599627370496; omega)
 have e : (s * 2048 + E) * 2 ^ 52 = s * 9223372036854775808 + E * 4503599627370496 := by
  rw [show (2 : Nat) ^ 52 = 4503599627370496 by decide]; omega
 rw [e] at h3
 rw [h3]
theorem bits_sub (s K : Nat) (hs : s ≤ 1) (hK : K < 4503599627370496) : ior .u64 ((s * 9223372036854775808 : Nat) : Int) (K : Int) = ((s * 9223372036854775808 + K : Nat) : Int) := by
 rw [ior_u64 _ _ (by omega) (by omega)]
 have h3 := or_add 63 s K (by show _ < 9223372036854775808; omega)
 rw [show (s * 2 ^ 63 : Nat) = s * 9223372036854775808 from rfl] at h3
 rw [h3]
end
theorem p_lt {M e : Nat} (k k' : Nat) (h : M < 9007199254740992) (he : e ≤ k) (hk : k' = k + 1) : M * pw e < 4503599627370496 * pw k' := by
 have h1 : M * pw e < 9007199254740992 * pw e := Nat.mul_lt_mul_of_pos_right h (pw_pos e)
 have h2 : 9007199254740992 * pw e ≤ 9007199254740992 * pw k := Nat.mul_le_mul_left _ (pw_le he)
 have h3 : 4503599627370496 * (pw k * 2) = 9007199254740992 * pw k := by
  generalize pw k = q
  omega
 rw [hk, pw_succ, h3]
 exact Nat.lt_of_lt_of_le h1 h2
theorem p_ge {M e k : Nat} (h : 4503599627370496 ≤ M) (he : k ≤ e) : 4503599627370496 * pw k ≤ M * pw e :=
 Nat.mul_le_mul h (pw_le he)
theorem fb_one (s M : Nat) (A : Nat) (c : Int) (E : Nat) (hs : s ≤ 1) (h1 : M < 9007199254740992) (h2 : 4503599627370496 ≤ M) (hE : E < 2048) (hc : c + 1023 = (E : Int)) : iter (spec_FloatBits.b1 (((s * 9223372036854775808 : Nat) : Int), A)) (wd M 1022, c) = some ((s * 9223372036854775808 + E * 4503599627370496 + (M - 4503599627370496) : Nat) : Int) := by
 have hv := wd_v h1 (.inr h2) (show 1022 ≤ 2045 by omega)
 have hlt := cmp_lt hv v1
 have hnl : ¬ M * pw 1022 < 4503599627370496 * pw 1022 := Nat.not_lt.2 (p_ge h2 (Nat.le_refl _))
 rw [decide_eq_false hnl] at hlt
 have hsum : M * pw 1022 = U1 + (M - 4503599627370496) * pw 1022 := by
  rw [U1_eq, ← Nat.add_mul, show 4503599627370496 + (M - 4503599627370496) = M by omega]
 have hK : M - 4503599627370496 < 9007199254740992 := by omega
 rw [hsum] at hv
 have hs1 := far_sub1 hv (rep_of hK 1022 (by omega))
 have hb := far_big hs1 (by rw [Nat.mul_assoc, ← pw_add]; exact rep_of hK _ (by omega))
 rw [Nat.mul_assoc, ← pw_add] at hb
 have hi := f2i_v hb (by omega)
 refine iter_r ?_
 unfold spec_FloatBits.b1
 simp only [hlt, hi, Bool.false_and, Bool.false_eq_true, if_false, Option.bind_some]
 rw [hc, bits_num s E _ hs hE (by omega)]
theorem fb_up (s M : Nat) (A : Nat) (hs : s ≤ 1) (h1 : M < 9007199254740992) (h2 : 4503599627370496 ≤ M) : ∀ (j i : Nat), i + j ≤ 1022 → iter (spec_FloatBits.b1 (((s * 9223372036854775808 : Nat) : Int), A)) (wd M (1022 - j), -(i : Int)) = some ((s * 9223372036854775808 + (1023 - i - j) * 4503599627370496 + (M - 4503599627370496) : Nat) : Int) := by
 intro j
 induction j with
 | zero => intro i hi; exact fb_one s M A _ _ hs h1 h2 (by omega) (by omega)
 | succ j ih =>
  intro i hi
  have hv := wd_v h1 (.inr h2) (show 1022 - (j + 1) ≤ 2045 by omega)
  have hlt := cmp_lt hv v1
  have hl : M * pw (1022 - (j + 1)) < 4503599627370496 * pw 1022 := p_lt 1021 1022 h1 (by omega) rfl
  rw [decide_eq_true hl] at hlt
  have he : M * pw (1022 - (j + 1)) * 2 = M * pw (1022 - j) := by
   rw [Nat.mul_assoc, ← pw_succ, show 1022 - (j + 1) + 1 = 1022 - j by omega]
  have hd := far_dbl hv (by rw [he]; exact rep_of h1 _ (by omega))
  rw [he] at hd
  have hw := hd.eq (wd_v h1 (.inr h2) (show 1022 - j ≤ 2045 by omega))
  have hstep : spec_FloatBits.b1 (((s * 9223372036854775808 : Nat) : Int), A) (wd M (1022 - (j + 1)), -(i : Int)) = some (.inl (wd M (1022 - j), -((i + 1 : Nat) : Int))) := by
   unfold spec_FloatBits.b1
   simp only [hlt, Bool.true_and]
   rw [if_pos (by simp; omega), hw, w64 (by omega) (by omega), show -(i : Int) - 1 = -((i + 1 : Nat) : Int) by omega]
  rw [iter_l hstep, ih (i + 1) (by omega), show 1023 - (i + 1) - j = 1023 - i - (j + 1) by omega]
theorem fb_sub (s M : Nat) (A : Nat) (hs : s ≤ 1) (h1 : M < 4503599627370496) : ∀ (j i a : Nat), i + j = 1022 → IsV a false (M * pw i) → iter (spec_FloatBits.b1 (((s * 9223372036854775808 : Nat) : Int), A)) (a, -(i : Int)) = some ((s * 9223372036854775808 + M : Nat) : Int) := by
 intro j
 induction j with
 | zero =>
  intro i a hi hv
  have hlt := cmp_lt hv v1
  have hl : M * pw i < 4503599627370496 * pw 1022 := by
   rw [show i = 1022 by omega]
   exact Nat.mul_lt_mul_of_pos_right h1 (pw_pos _)
  rw [decide_eq_true hl] at hlt
  have hb := far_big hv (by rw [Nat.mul_assoc, ← pw_add]; exact rep_of (by omega) _ (by omega))
  rw [Nat.mul_assoc, ← pw_add, show i + 52 = 1074 by omega] at hb
  have hi2 := f2i_v hb (by omega)
  refine iter_r ?_
  unfold spec_FloatBits.b1
  have hc : decide (-(i : Int) > -1022) = false := by simp; omega
  simp only [hlt, hc, hi2, Bool.true_and, Bool.false_eq_true, if_false, if_true, Option.bind_some]
  rw [bits_sub s M hs h1]
 | succ j ih =>
  intro i a hi hv
  have hlt := cmp_lt hv v1
  have hl : M * pw i < 4503599627370496 * pw 1022 := p_lt 1021 1022 (by omega) (by omega) rfl
  rw [decide_eq_true hl] at hlt
  have he : M * pw i * 2 = M * pw (i + 1) := by rw [Nat.mul_assoc, ← pw_succ]
  have hd := far_dbl hv (by rw [he]; exact rep_of (by omega) _ (by omega))
  rw [he] at hd
  have hstep : spec_FloatBits.b1 (((s * 9223372036854775808 : Nat) : Int), A) (a, -(i : Int)) = some (.inl (far .mul a 4611686018427387904, -((i + 1 : Nat) : Int))) := by
   unfold spec_FloatBits.b1
   simp only [hlt, Bool.true_and]
   rw [if_pos (by simp; omega), w64 (by omega) (by omega), show -(i : Int) - 1 = -((i + 1 : Nat) : Int) by omega]
  rw [iter_l hstep, ih (i + 1) _ (by omega) hd]
theorem fb_pass {y : Int × Nat} {a u : Nat} {c : Int} (hv : IsV a false u) (hu : u < 4503599627370496 * pw 1023) : iter (spec_FloatBits.b0 y) (a, c) = iter (spec_FloatBits.b1 y) (a, c) := by
 refine iter_pass ?_
 unfold spec_FloatBits.b0
 have h1 := cmp_gt hv v2
 have h2 := cmp_eq hv v2
 rw [decide_eq_false (by omega)] at h1
 rw [decide_eq_false (by omega)] at h2
 simp only [h1, h2, Bool.or_self, Bool.false_eq_true, if_false]
theorem fb_down (y : Int × Nat) (M : Nat) (h1 : M < 9007199254740992) (h2 : 4503599627370496 ≤ M) : ∀ (n e : Nat) (c : Int), e = 1022 + n → e ≤ 2045 → 0 ≤ c → c ≤ 10000 - n → iter (spec_FloatBits.b0 y) (wd M e, c) = iter (spec_FloatBits.b1 y) (wd M 1022, c + n) := by
 intro n
 induction n with
 | zero =>
  intro e c he _ _ _
  have : e = 1022 := by omega
  subst this
  rw [fb_pass (wd_v h1 (.inr h2) (by omega)) (p_lt 1022 1023 h1 (by omega) rfl)]
  simp
 | succ n ih =>
  intro e c he he2 hc0 hc1
  obtain ⟨e, rfl⟩ : ∃ e', e = e' + 1 := ⟨e - 1, by omega⟩
  have hv := wd_v h1 (.inr h2) he2
  have g1 := cmp_gt hv v2
  have g2 := cmp_eq hv v2
  have hge : 4503599627370496 * pw 1023 ≤ M * pw (e + 1) := p_ge h2 (by omega)
  have hor : (fcmp .f64 (wd M (e + 1)) 4611686018427387904 == some .gt || fcmp .f64 (wd M (e + 1)) 4611686018427387904 == some .eq) = true := by
   rw [g1, g2, Bool.or_eq_true, decide_eq_true_eq, decide_eq_true_eq]
   generalize 4503599627370496 * pw 1023 = q at hge ⊢
   omega
  have hv2 : IsV (wd M (e + 1)) false (M * pw e * 2) := by rw [Nat.mul_assoc, ← pw_succ]; exact hv
  have hw := (far_half hv2 (rep_of h1 _ (by omega))).eq (wd_v h1 (.inr h2) (by omega))
  have hstep : spec_FloatBits.b0 y (wd M (e + 1), c) = some (.inl (wd M e, c + 1)) := by
   unfold spec_FloatBits.b0
   simp only [hor, if_true]
   rw [hw, w64 (by omega) (by omega)]
  rw [iter_l hstep, ih e (c + 1) (by omega) (by omega) (by omega) (by omega), show c + 1 + (n : Int) = c + ((n + 1 : Nat) : Int) by omega]
theorem xor_sign (r : Nat) (h : r < 9223372036854775808) : Op.negFloat .f64 (9223372036854775808 + r) = r := by
 show (9223372036854775808 + r) ^^^ 2 ^ 63 = r
 have e : 9223372036854775808 + r = 2 ^ 63 ||| r := by
  have := Nat.two_pow_add_eq_or_of_lt (i := 63) (b := r) h 1
  simpa using this
 have e2 : 2 ^ 63 ||| r = 2 ^ 63 ^^^ r := by
  apply Nat.eq_of_testBit_eq
  intro i
  rw [Nat.testBit_or, Nat.testBit_xor]
  by_cases hi : i = 63
  · subst hi
    have : r.testBit 63 = false := Nat.testBit_lt_two_pow h
    rw [this]; simp
  · have : (2 ^ 63).testBit i = false := by rw [Nat.testBit_two_pow]; simp; omega
    rw [this]; simp
 rw [e, e2, Nat.xor_comm (2 ^ 63) r, Nat.xor_assoc, Nat.xor_self, Nat.xor_zero]
theorem fin_word {x : Nat} (hx : x < 18446744073709551616) (h : x % 9223372036854775808 < 9218868437227405312) : ∃ s M e, s ≤ 1 ∧ M < 9007199254740992 ∧ (e = 0 ∨ 4503599627370496 ≤ M) ∧ e ≤ 2045 ∧ x = s * 9223372036854775808 + wd M e := by
 refine ⟨x / 9223372036854775808, ?_⟩
 by_cases hr : x % 9223372036854775808 < 4503599627370496
 · exact ⟨x % 9223372036854775808, 0, by omega, by omega, .inl rfl, by omega, by rw [wd_eq]; omega⟩
 · refine ⟨4503599627370496 + x % 9223372036854775808 % 4503599627370496, x % 9223372036854775808 / 4503599627370496 - 1, by omega, by omega, .inr (by omega), by omega, ?_⟩
   rw [wd_eq]; omega
theorem fb_loops (s M e : Nat) (A : Nat) (hs : s ≤ 1) (h1 : M < 9007199254740992) (h2 : e = 0 ∨ 4503599627370496 ≤ M) (h3 : e ≤ 2045) : iter (spec_FloatBits.b0 (((s * 9223372036854775808 : Nat) : Int), A)) (wd M e, (0 : Int)) = some ((s * 9223372036854775808 + wd M e : Nat) : Int) := by
 by_cases hm : 4503599627370496 ≤ M
 · by_cases he : 1022 ≤ e
   · rw [fb_down _ M h1 hm (e - 1022) e 0 (by omega) h3 (by omega) (by omega)]
     rw [fb_one s M A _ (e + 1) hs h1 hm (by omega) (by omega), wd_eq, show s * 9223372036854775808 + (e + 1) * 4503599627370496 + (M - 4503599627370496) = s * 9223372036854775808 + (e * 4503599627370496 + M) by omega]
   · rw [fb_pass (wd_v h1 (.inr hm) h3) (p_lt 1022 1023 h1 (by omega) rfl)]
     have := fb_up s M A hs h1 hm (1022 - e) 0 (by omega)
     rw [show 1022 - (1022 - e) = e by omega] at this
     rw [show (0 : Int) = -((0 : Nat) : Int) by simp, this, wd_eq, show s * 9223372036854775808 + (1023 - 0 - (1022 - e)) * 4503599627370496 + (M - 4503599627370496) = s * 9223372036854775808 + (e * 4503599627370496 + M) by omega]
 · have he : e = 0 := by omega
   subst he
   have hv := wd_v h1 (.inl rfl) h3
   rw [fb_pass hv (p_lt 1022 1023 h1 (by omega) rfl)]
   have h0 : M * pw 0 = M * pw 0 := rfl
   have := fb_sub s M A hs (by omega) 1022 0 (wd M 0) (by omega) hv
   rw [show (0 : Int) = -((0 : Nat) : Int) by simp, this, wd_eq, show 0 * 4503599627370496 + M = M by omega]
theorem nan_word {x : Nat} (h : okF x) (hn : isN x = true) : x = nanB := by rw [← h.1, cn_nan hn]
theorem fb_nan : spec_FloatBits.f 9221120237041090560 = some 9221120237041090560 := by
 unfold spec_FloatBits.f
 rw [if_pos (by decide)]
theorem fb_inf : spec_FloatBits.f 9218868437227405312 = some 9218868437227405312 := by
 have h1 : (fcmp .f64 9218868437227405312 9218868437227405312 != some .eq) = false := by decide
 have h2 : (fcmp .f64 9218868437227405312 0 == some .lt) = false := by decide
 have h3 : (fcmp .f64 9218868437227405312 0 == some .eq) = false := by decide
 have h4 : (fcmp .f64 9218868437227405312 9218868437227405311 == some .gt) = true := by decide
 unfold spec_FloatBits.f
 simp only [h1, h2, h3, h4, Bool.false_eq_true, if_false, if_true, Option.bind_some]
 rfl
theorem fb_ninf : spec_FloatBits.f 18442240474082181120 = some 18442240474082181120 := by
 have h1 : (fcmp .f64 18442240474082181120 18442240474082181120 != some .eq) = false := by decide
 have h2 : (fcmp .f64 18442240474082181120 0 == some .lt) = true := by decide
 have h0 : fneg 18442240474082181120 = 9218868437227405312 := by decide
 have h3 : (fcmp .f64 9218868437227405312 0 == some .eq) = false := by decide
 have h4 : (fcmp .f64 9218868437227405312 9218868437227405311 == some .gt) = true := by decide
 unfold spec_FloatBits.f
 simp only [h1, h2, h0, h3, h4, Bool.false_eq_true, if_false, if_true, Option.bind_some]
 rfl
theorem fb_zero : spec_FloatBits.f 0 = some 0 := by
 have h1 : (fcmp .f64 0 0 != some .eq) = false := by decide
 have h2 : (fcmp .f64 0 0 == some .lt) = false := by decide
 have h3 : (fcmp .f64 0 0 == some .eq) = true := by decide
 have h4 : (fcmp .f64 (far .quo 4607182418800017408 0) 0 == some .lt) = false := by decide
 unfold spec_FloatBits.f
 simp only [h1, h2, h3, h4, Bool.false_eq_true, if_false, if_true, Option.bind_some]
theorem fb_nzero : spec_FloatBits.f 9223372036854775808 = some 9223372036854775808 := by
 have h1 : (fcmp .f64 9223372036854775808 9223372036854775808 != some .eq) = false := by decide
 have h2 : (fcmp .f64 9223372036854775808 0 == some .lt) = false := by decide
 have h3 : (fcmp .f64 9223372036854775808 0 == some .eq) = true := by decide
 have h4 : (fcmp .f64 (far .quo 4607182418800017408 9223372036854775808) 0 == some .lt) = true := by decide
 have h5 : (fcmp .f64 (fneg 9223372036854775808) 0 == some .eq) = true := by decide
 unfold spec_FloatBits.f
 simp only [h1, h2, h3, h4, h5, Bool.false_eq_true, if_false, if_true, Option.bind_some]
theorem ifF {α : Type} {b : Bool} {x y : α} (h : b = false) : (if b = true then x else y) = y := by subst h; rfl
theorem ifT {α : Type} {b : Bool} {x y : α} (h : b = true) : (if b = true then x else y) = x := by subst h; rfl
theorem cmp_self {w u : Nat} {s : Bool} (hw : IsV w s u) : (fcmp .f64 w w != some .eq) = false := by
 have : fcmp .f64 w w = some .eq := by
  show D.order w w = _
  rw [order_v hw hw]
  show (some (compareOfLessAndEq _ _)) = some _
  unfold compareOfLessAndEq
  rw [if_neg (Int.lt_irrefl _), if_pos rfl]
 rw [this]; rfl
theorem cmp_le {M e : Nat} (h1 : M < 9007199254740992) (h3 : e ≤ 2045) : ¬ 9007199254740991 * pw 2045 < M * pw e := by
 have : M * pw e ≤ 9007199254740991 * pw 2045 := Nat.mul_le_mul (by omega) (pw_le h3)
 exact Nat.not_lt.2 this
section
variable {M e : Nat} (h1 : M < 9007199254740992) (h2 : e = 0 ∨ 4503599627370496 ≤ M) (h3 : e ≤ 2045) (hM : 0 < M)
include h1 h2 h3
theorem wd_lt : wd M e < 9218868437227405312 := by rw [wd_eq]; omega
theorem wd_max : (fcmp .f64 (wd M e) 9218868437227405311 == some .gt) = false := by
 rw [cmp_gt (wd_v h1 h2 h3) vM, decide_eq_false (cmp_le h1 h3)]
theorem wd_neg : IsV (9223372036854775808 + wd M e) true (M * pw e) := ⟨M, e, h1, h2, h3, rfl, by rw [wd_eq]; rfl⟩
include hM
theorem wd_pos : 0 < M * pw e := Nat.mul_pos hM (pw_pos e)
theorem wd_ne0 : (fcmp .f64 (wd M e) 0 == some .eq) = false := by
 have := wd_pos h1 h2 h3 hM
 rw [cmp_eq (wd_v h1 h2 h3) v0, decide_eq_false (Nat.ne_of_gt this)]
theorem wd_nl : (fcmp .f64 (wd M e) 0 == some .lt) = false := by
 rw [cmp_lt (wd_v h1 h2 h3) v0, decide_eq_false (Nat.not_lt_zero _)]
theorem wd_gt : (fcmp .f64 (wd M e) 0 == some .gt) = true := by
 have := wd_pos h1 h2 h3 hM
 rw [cmp_gt (wd_v h1 h2 h3) v0, decide_eq_true this]
theorem neg_cmp : fcmp .f64 (9223372036854775808 + wd M e) 0 = some .lt := by
 have hp := wd_pos h1 h2 h3 hM
 have ho := order_v (wd_neg h1 h2 h3) v0
 rw [signed_t, signed_f, Nat.pow_zero, Nat.mul_one, Nat.zero_mul] at ho
 show D.order _ _ = _
 rw [ho]
 show (some (compareOfLessAndEq _ _)) = some _
 unfold compareOfLessAndEq
 generalize M * pw e = q at hp
 rw [if_pos (show (-((q : Nat) : Int)) < ((0 : Nat) : Int) by omega)]
theorem neg_neg' : fneg (9223372036854775808 + wd M e) = wd M e := by
 have hl := wd_lt h1 h2 h3
 unfold fneg
 have hn : isN (9223372036854775808 + wd M e) = false := by
  unfold isN
  generalize wd M e = q at hl
  simp; omega
 rw [hn, cond_false]
 exact xor_sign _ (by omega)
theorem fb_plus : spec_FloatBits.f (wd M e) = some ((wd M e : Nat) : Int) := by
 have hl := fb_loops 0 M e (wd M e) (by omega) h1 h2 h3
 have e0 : 0 * 9223372036854775808 + wd M e = wd M e := by rw [Nat.zero_mul, Nat.zero_add]
 have eS : ((0 * 9223372036854775808 : Nat) : Int) = 0 := by omega
 rw [e0, eS] at hl
 unfold spec_FloatBits.f
 rw [ifF (cmp_self (wd_v h1 h2 h3)), ifF (wd_nl h1 h2 h3 hM), ifF (wd_ne0 h1 h2 h3 hM), Option.bind_some, Option.bind_some, ifF rfl, Option.bind_some, ifF (wd_ne0 h1 h2 h3 hM), ifF (wd_max h1 h2 h3)]
 exact hl
theorem fb_minus : spec_FloatBits.f (9223372036854775808 + wd M e) = some ((9223372036854775808 + wd M e : Nat) : Int) := by
 have hl := fb_loops 1 M e (wd M e) (by omega) h1 h2 h3
 have eS : ((1 * 9223372036854775808 : Nat) : Int) = 9223372036854775808 := by omega
 rw [eS, Nat.one_mul] at hl
 have h4 : (fcmp .f64 (9223372036854775808 + wd M e) 0 == some .lt) = true := by rw [neg_cmp h1 h2 h3 hM]; rfl
 unfold spec_FloatBits.f
 rw [ifF (cmp_self (wd_neg h1 h2 h3)), ifT h4, Option.bind_some, ifT rfl, Option.bind_some, neg_neg' h1 h2 h3 hM, ifF (wd_ne0 h1 h2 h3 hM), ifF (wd_max h1 h2 h3)]
 exact hl
end
theorem word_cases {x : Nat} (h : okF x) (P : Nat → Prop) (hnan : P nanB) (hi : P 9218868437227405312) (hni : P 18442240474082181120) (h0 : P 0) (hn0 : P 9223372036854775808)
    (hp : ∀ M e, M < 9007199254740992 → (e = 0 ∨ 4503599627370496 ≤ M) → e ≤ 2045 → 0 < M → P (wd M e)) (hm : ∀ M e, M < 9007199254740992 → (e = 0 ∨ 4503599627370496 ≤ M) → e ≤ 2045 → 0 < M → P (9223372036854775808 + wd M e)) : P x := by
  cases hn : isN x with
  | true => rw [nan_word h hn]; exact hnan
  | false =>
    have hx := h.2
    have hr : x % 9223372036854775808 ≤ 9218868437227405312 := by
      unfold isN at hn
      have := of_decide_eq_false hn
      omega
    by_cases hi' : x % 9223372036854775808 = 9218868437227405312
    · rcases (show x = 9218868437227405312 ∨ x = 18442240474082181120 by omega) with rfl | rfl
      · exact hi
      · exact hni
    · obtain ⟨s, M, e, hs, h1, h2, h3, rfl⟩ := fin_word hx (by omega)
      by_cases hM : M = 0
      · subst hM
        have he : e = 0 := by omega
        subst he
        rcases (show s = 0 ∨ s = 1 by omega) with rfl | rfl
        · exact h0
        · exact hn0
      · rcases (show s = 0 ∨ s = 1 by omega) with rfl | rfl
        · rw [Nat.zero_mul, Nat.zero_add]; exact hp M e h1 h2 h3 (by omega)
        · rw [Nat.one_mul]; exact hm M e h1 h2 h3 (by omega)
theorem spec_FloatBits (x : Nat) (h : okF x) : spec_FloatBits.f x = some (x : Int) :=
 word_cases h (fun x => spec_FloatBits.f x = some (x : Int)) fb_nan fb_inf fb_ninf fb_zero fb_nzero (fun M e h1 h2 h3 hM => fb_plus h1 h2 h3 hM) (fun M e h1 h2 h3 hM => fb_minus h1 h2 h3 hM)
end Go.Proofs.YtiofnjnnocjbhaaDoor
set_option linter.unusedVariables false
set_option linter.unusedSimpArgs false
set_option linter.unusedSectionVars false
namespace Go.Proofs.YtiofnjnnocjbhaaDoor
open Go V Ieee
def highP (n k : Nat) : List Int := (List.range k).map fun j : Nat => ((n / 2 ^ (56 - 8 * j) % 256 : Nat) : Int)
def highB (n : Nat) : List Int := highP n 8
theorem highP_succ (n k : Nat) : highP n (k + 1) = highP n k ++ [((n / 2 ^ (56 - 8 * k) % 256 : Nat) : Int)] := by simp [highP, List.range_succ]
theorem highP_len (n k : Nat) : (highP n k).length = k := by simp [highP]
theorem highB_u8 (n : Nat) : ∀ x ∈ highB n, InK .u8 x := by
 intro x hx
 simp only [highB, highP, List.mem_map] at hx
 obtain ⟨j, _, rfl⟩ := hx
 have := Nat.mod_lt (n / 2 ^ (56 - 8 * j)) (show 256 > 0 by omega)
 exact u8_ok (by omega) (by omega)
theorem wrap8 (q : Nat) : IntKind.wrap .u8 ((q : Nat) : Int) = ((q % 256 : Nat) : Int) := by rw [IntKind.wrap_u8]; omega
theorem impl_highFirst (n : Nat) : impl_highFirst.f (n : Int) = some (highB n) := by
 unfold impl_highFirst.f
 have hst : (([] : List Int), (56 : Int)) = (highP n 0, (56 : Int) - 8 * ((0 : Nat) : Int)) := rfl
 rw [hst]
 refine iter_for 8 (fun k => (highP n k, (56 : Int) - 8 * (k : Int))) _ (fun k hk => ?_) ?_
 · unfold impl_highFirst.b0
   simp only []
   have e1 : (56 : Int) - 8 * (k : Int) = ((56 - 8 * k : Nat) : Int) := by omega
   rw [if_pos (by simp; omega), if_pos (by omega), if_pos (by rw [highP_len]; simp [Lim]; omega), e1, ishr_nat .u64 n _ (by show 56 - 8 * k ≤ 64; omega), wrap8, highP_succ, w64 (by omega) (by omega)]
   rw [show ((56 - 8 * k : Nat) : Int) - 8 = (56 : Int) - 8 * ((k + 1 : Nat) : Int) by omega]
 · unfold impl_highFirst.b0
   simp only []
   rw [if_neg (by simp)]; rfl
theorem spec_l3high (n : Nat) (h : n < 18446744073709551616) : spec_l3high.f (n : Int) = some (highB n) := by
 unfold spec_l3high.f
 have hst : (([] : List Int), (7 : Int)) = (highP n 0, (7 : Int) - ((0 : Nat) : Int)) := rfl
 rw [hst]
 refine iter_for 8 (fun k => (highP n k, (7 : Int) - (k : Int))) _ (fun k hk => ?_) ?_
 · unfold spec_l3high.b0
   simp only []
   have e1 : IntKind.wrap .u64 (IntKind.wrap .i64 ((8 : Int) * ((7 : Int) - (k : Int)))) = ((56 - 8 * k : Nat) : Int) := by
    rw [w64 (by omega) (by omega), show (8 : Int) * ((7 : Int) - (k : Int)) = ((56 - 8 * k : Nat) : Int) by omega, wu64 _ (by omega)]
   have h2 : iand .u64 ((n / 2 ^ (56 - 8 * k) : Nat) : Int) (255 : Int) = (((n / 2 ^ (56 - 8 * k)) &&& 255 : Nat) : Int) := iand_u64 _ 255 (Nat.lt_of_le_of_lt (Nat.div_le_self _ _) h) (by omega)
   have h3 : (n / 2 ^ (56 - 8 * k)) &&& 255 = n / 2 ^ (56 - 8 * k) % 256 := Nat.and_two_pow_sub_one_eq_mod _ 8
   rw [e1, if_pos (by simp; omega), if_pos (by omega), if_pos (by rw [highP_len]; simp [Lim]; omega), ishr_nat .u64 n _ (by show 56 - 8 * k ≤ 64; omega), h2, h3, wrap8, Nat.mod_mod, highP_succ, w64 (by omega) (by omega)]
   rw [show (7 : Int) - (k : Int) - 1 = (7 : Int) - ((k + 1 : Nat) : Int) by omega]
 · unfold spec_l3high.b0
   simp only []
   rw [if_neg (by simp)]; rfl
end Go.Proofs.YtiofnjnnocjbhaaDoor
set_option linter.unusedVariables false
set_option linter.unusedSimpArgs false
set_option linter.unusedSectionVars false
namespace Go.Proofs.YtiofnjnnocjbhaaDoor
open Go V Ieee
def U8 (l : List Int) : Prop := ∀ x ∈ l, InK .u8 x
theorem str_data' (xs : List Int) : (str xs).data.toList = xs.map fun n => UInt8.ofNat n.toNat := by
 have key : ∀ (xs : List Int) (r : ByteArray), (xs.foldl (fun (r : ByteArray) n => r.push (UInt8.ofNat n.toNat)) r).data.toList = r.data.toList ++ xs.map fun n => UInt8.ofNat n.toNat := by
  intro xs
  induction xs with
  | nil => intro r; simp
  | cons x xs ih => intro r; rw [List.foldl_cons, ih]; simp
 have := key xs ByteArray.empty
 simpa [str] using this
theorem bts_str {xs : List Int} (h : U8 xs) : bts (str xs) = xs := by
 unfold bts
 rw [str_data', List.map_map]
 conv => rhs; rw [← List.map_id xs]
 apply List.map_congr_left
 intro x hx
 have hx' := u8n (h x hx)
 simp only [Function.comp, id]
 rw [UInt8.toNat_ofNat', Nat.mod_eq_of_lt (by omega)]
 omega
theorem bts_app (a b : ByteArray) : bts (a ++ b) = bts a ++ bts b := by
 unfold bts
 simp
theorem size_str {xs : List Int} (h : U8 xs) : (str xs).size = xs.length := by rw [← bts_len, bts_str h]
def hx (n : Nat) : Int := if n < 10 then ((48 + n : Nat) : Int) else ((87 + n : Nat) : Int)
def HX (b : List Int) : List Int := b.flatMap fun x => [hx (x.toNat / 16), hx (x.toNat % 16)]
theorem hx_u8 (n : Nat) (h : n < 16) : InK .u8 (hx n) := by
 unfold hx
 split <;> exact u8_ok (by omega) (by omega)
theorem HX_u8 {b : List Int} (h : U8 b) : U8 (HX b) := by
 intro x hx'
 simp only [HX, List.mem_flatMap] at hx'
 obtain ⟨y, hy, hx'⟩ := hx'
 have := u8n (h y hy)
 simp only [List.mem_cons, List.not_mem_nil, or_false] at hx'
 rcases hx' with rfl | rfl <;> exact hx_u8 _ (by omega)
theorem HX_len (b : List Int) : (HX b).length = 2 * b.length := by
 induction b with
 | nil => rfl
 | cons x b ih => simp only [HX, List.flatMap_cons, List.length_append, List.length_cons, List.length_nil] at ih ⊢; omega
theorem HX_succ (b : List Int) (k : Nat) (h : k < b.length) : HX (b.take (k + 1)) = HX (b.take k) ++ [hx (b[k].toNat / 16), hx (b[k].toNat % 16)] := by
 rw [List.take_succ_eq_append_getElem h]
 simp only [HX, List.flatMap_append, List.flatMap_cons, List.flatMap_nil, List.append_nil]
theorem dig_at (n : Nat) (h : n < 16) : at_ ([(48 : Int), (49 : Int), (50 : Int), (51 : Int), (52 : Int), (53 : Int), (54 : Int), (55 : Int), (56 : Int), (57 : Int), (97 : Int), (98 : Int), (99 : Int), (100 : Int), (101 : Int), (102 : Int)]) (n : Int) = hx n := by
 have : ∀ m : Fin 16, at_ ([(48 : Int), (49 : Int), (50 : Int), (51 : Int), (52 : Int), (53 : Int), (54 : Int), (55 : Int), (56 : Int), (57 : Int), (97 : Int), (98 : Int), (99 : Int), (100 : Int), (101 : Int), (102 : Int)]) ((m : Nat) : Int) = hx m := by decide
 exact this ⟨n, h⟩
theorem bts_dig : bts (⟨#[48, 49, 50, 51, 52, 53, 54, 55, 56, 57, 97, 98, 99, 100, 101, 102]⟩ : ByteArray) = [(48 : Int), (49 : Int), (50 : Int), (51 : Int), (52 : Int), (53 : Int), (54 : Int), (55 : Int), (56 : Int), (57 : Int), (97 : Int), (98 : Int), (99 : Int), (100 : Int), (101 : Int), (102 : Int)] := by decide
theorem shr4 (n : Nat) : ishr .u8 (n : Int) (4 : Int) = ((n / 16 : Nat) : Int) := ishr_nat .u8 n 4 (by show 4 ≤ 8; omega)
theorem and15 (n : Nat) (h : n < 256) : iand .u8 (n : Int) (15 : Int) = ((n % 16 : Nat) : Int) := by
 have : ∀ m : Fin 256, iand .u8 ((m : Nat) : Int) (15 : Int) = (((m : Nat) % 16 : Nat) : Int) := by decide +kernel
 exact this ⟨n, h⟩
theorem spec_l18hex (b : List Int) (h : U8 b) (hl : b.length ≤ 1048576) : spec_l18hex.f b = some (HX b) := by
 unfold spec_l18hex.f
 have hst : (([] : List Int), (0 : Int)) = (HX (b.take 0), ((0 : Nat) : Int)) := by simp [HX]
 rw [hst]
 refine iter_for b.length (fun k => (HX (b.take k), (k : Int))) _ (fun k hk => ?_) ?_
 · unfold spec_l18hex.b0
   simp only []
   have hu := u8n (h _ (List.getElem_mem hk))
   have hlen : (HX (b.take k)).length ≤ 2097152 := by rw [HX_len, List.length_take]; omega
   have e1 : at_ b (k : Int) = ((b[k].toNat : Nat) : Int) := by rw [at_nat b k hk]; exact hu.1
   have e2 : IntKind.wrap .u8 (Int.tdiv ((b[k].toNat : Nat) : Int) (16 : Int)) = ((b[k].toNat / 16 : Nat) : Int) := by
    have : Int.tdiv ((b[k].toNat : Nat) : Int) (16 : Int) = ((b[k].toNat / 16 : Nat) : Int) := rfl
    rw [this, wrap8]; omega
   have e3 : Int.tmod ((b[k].toNat : Nat) : Int) (16 : Int) = ((b[k].toNat % 16 : Nat) : Int) := rfl
   rw [e1, e2, e3, dig_at _ (by omega), dig_at _ (by omega)]
   rw [if_pos (by simp; omega), if_pos (by omega), if_pos ⟨by omega, by simp only [List.length_cons, List.length_nil]; omega⟩, if_pos (by simp [Lim]; omega), if_pos (by omega), if_pos ⟨by omega, by simp only [List.length_cons, List.length_nil]; omega⟩, if_pos (by simp [Lim]; omega)]
   rw [w64 (by omega) (by omega), List.append_assoc, HX_succ b k hk]
   rfl
 · unfold spec_l18hex.b0
   simp only []
   rw [if_neg (by simp), List.take_length]; rfl
theorem impl_hexText (b : List Int) (h : U8 b) (hl : b.length ≤ 1048576) : impl_hexText.f b = some (str (HX b)) := by
 unfold impl_hexText.f
 have hst : (([] : List Int), (0 : Int)) = (HX (b.take 0), ((0 : Nat) : Int)) := by simp [HX]
 rw [hst]
 refine iter_for b.length (fun k => (HX (b.take k), (k : Int))) _ (fun k hk => ?_) ?_
 · unfold impl_hexText.b0
   simp only []
   have hu := u8n (h _ (List.getElem_mem hk))
   have hlen : (HX (b.take k)).length ≤ 2097152 := by rw [HX_len, List.length_take]; omega
   have e1 : at_ b (k : Int) = ((b[k].toNat : Nat) : Int) := by rw [at_nat b k hk]; exact hu.1
   have hsz : ((⟨#[48, 49, 50, 51, 52, 53, 54, 55, 56, 57, 97, 98, 99, 100, 101, 102]⟩ : ByteArray).size : Int) = 16 := rfl
   rw [e1, shr4, and15 _ hu.2, bts_dig, dig_at _ (by omega), dig_at _ (by omega), hsz]
   rw [if_pos (by simp; omega), if_pos (by omega), if_pos (by omega), if_pos (by omega), if_pos (by simp [Lim]; omega), w64 (by omega) (by omega), HX_succ b k hk]
   rfl
 · unfold impl_hexText.b0
   simp only []
   rw [if_neg (by simp), List.take_length]; rfl
end Go.Proofs.YtiofnjnnocjbhaaDoor
set_option linter.unusedVariables false
set_option linter.unusedSimpArgs false
set_option linter.unusedSectionVars false
namespace Go.Proofs.YtiofnjnnocjbhaaDoor
open Go V Ieee
def DG (u : Nat) : List Int := (Lib.decDigits u).map fun b => (b.toNat : Int)
def IT (n : Int) : List Int := (Lib.itoa n).map fun b => (b.toNat : Int)
theorem bts_itoa (n : Int) : bts ⟨(Lib.itoa n).toArray⟩ = IT n := rfl
theorem DG_lt {u : Nat} (h : u < 10) : DG u = [((48 + u : Nat) : Int)] := by
 unfold DG
 rw [Lib.decDigits, dif_pos h]
 simp only [List.map_cons, List.map_nil, UInt8.toNat_ofNat']
 rw [Nat.mod_eq_of_lt (by omega)]
theorem DG_ge {u : Nat} (h : ¬ u < 10) : DG u = DG (u / 10) ++ [((48 + u % 10 : Nat) : Int)] := by
 unfold DG
 conv => lhs; rw [Lib.decDigits, dif_neg h]
 simp only [List.map_append, List.map_cons, List.map_nil, UInt8.toNat_ofNat']
 rw [Nat.mod_eq_of_lt (by omega)]
theorem IT_len (n : Int) (h : InK .i64 n) : (IT n).length ≤ 21 := by
 have := i64_of h
 simp only [IT, List.length_map]
 exact Lib.itoa_length_le n this.1 this.2
theorem rev_loop (x : Int × List Int) (u : Nat) (hu : u < 10) (hx : x = ((u : Int), x.2)) (hl : x.2.length ≤ 1000) :
    iter (spec_l18digits.b1 x) (([] : List Int), IntKind.wrap .i64 (((x.2 ++ [(IntKind.wrap .u8 (IntKind.wrap .i64 ((48 : Int) + x.1)))]).length : Int) - (1 : Int))) = some ((x.2 ++ [((48 + u : Nat) : Int)]).reverse) := by
  obtain ⟨xa, xb⟩ := x
  simp only at hl
  obtain rfl : xa = (u : Int) := (Prod.mk.inj hx).1
  have e1 : IntKind.wrap .u8 (IntKind.wrap .i64 ((48 : Int) + (u : Int))) = ((48 + u : Nat) : Int) := by
    rw [w64 (by omega) (by omega), show (48 : Int) + (u : Int) = ((48 + u : Nat) : Int) by omega, wrap8]; omega
  have hb : spec_l18digits.b1 ((u : Int), xb) = fun x34 => (if (decide (x34.2 ≥ (0 : Int))) = true then (if 0 ≤ x34.2 ∧ x34.2 < ((xb ++ [((48 + u : Nat) : Int)]).length : Int) then (if x34.1.length + ([(at_ (xb ++ [((48 + u : Nat) : Int)]) x34.2)]).length ≤ Lim then (some (Sum.inl ((x34.1 ++ [(at_ (xb ++ [((48 + u : Nat) : Int)]) x34.2)]), (IntKind.wrap .i64 (x34.2 - (1 : Int)))))) else none) else none) else ((some x34.1).bind fun o => some (Sum.inr o))) := by
    funext y
    unfold spec_l18digits.b1
    simp only [e1]
  rw [hb]
  simp only [e1]
  generalize hB : xb ++ [((48 + u : Nat) : Int)] = B
  have hBl : B.length = xb.length + 1 := by rw [← hB]; simp
  have hst : (([] : List Int), IntKind.wrap .i64 ((B.length : Int) - 1)) = (B.reverse.take 0, (B.length : Int) - 1 - ((0 : Nat) : Int)) := by rw [w64 (by omega) (by omega)]; simp
  rw [hst]
  refine iter_for B.length (fun k => (B.reverse.take k, (B.length : Int) - 1 - (k : Int))) _ (fun k hk => ?_) ?_
  · simp only []
    have e2 : (B.length : Int) - 1 - (k : Int) = ((B.length - 1 - k : Nat) : Int) := by omega
    have hlt : B.length - 1 - k < B.length := by omega
    rw [e2, if_pos (by simp), if_pos (by omega), at_nat B _ hlt, if_pos (by simp [Lim]; omega), w64 (by omega) (by omega)]
    rw [List.take_succ_eq_append_getElem (by simpa using hk), List.getElem_reverse, show ((B.length - 1 - k : Nat) : Int) - 1 = (B.length : Int) - 1 - ((k + 1 : Nat) : Int) by omega]
  · simp only []
    rw [if_neg (by simp; omega)]
    simp [List.take_of_length_le]
theorem dig_loop : ∀ (k u : Nat) (back : List Int), u < 10 ^ k → (u : Int) ≤ 9223372036854775807 → back.length + k ≤ 1000 → iter spec_l18digits.b0 ((u : Int), back) = some (DG u ++ back.reverse)
  | 0, u, back, h, h2, hl => by
    obtain rfl : u = 0 := by simpa using h
    rw [DG_lt (by omega)]
    have hr := rev_loop ((0 : Nat), back) 0 (by omega) rfl (by simpa using hl)
    refine iter_pass ?_ |>.trans (hr.trans ?_)
    · unfold spec_l18digits.b0
      simp only []
      rw [if_neg (by simp), if_pos (by simp [Lim]; omega)]
    · simp
  | k + 1, u, back, h, h2, hl => by
    by_cases hu : u < 10
    · rw [DG_lt hu]
      have hr := rev_loop ((u : Nat), back) u hu rfl (by simp; omega)
      refine iter_pass ?_ |>.trans (hr.trans ?_)
      · unfold spec_l18digits.b0
        simp only []
        rw [if_neg (by simp; omega), if_pos (by simp [Lim]; omega)]
      · simp
    · have e1 : IntKind.wrap .u8 (IntKind.wrap .i64 ((48 : Int) + Int.tmod (u : Int) 10)) = ((48 + u % 10 : Nat) : Int) := by
        have : Int.tmod (u : Int) (10 : Int) = ((u % 10 : Nat) : Int) := rfl
        rw [this, w64 (by omega) (by omega), show (48 : Int) + ((u % 10 : Nat) : Int) = ((48 + u % 10 : Nat) : Int) by omega, wrap8]; omega
      have e2 : IntKind.wrap .i64 (Int.tdiv (u : Int) 10) = ((u / 10 : Nat) : Int) := by
        have : Int.tdiv (u : Int) (10 : Int) = ((u / 10 : Nat) : Int) := rfl
        rw [this, w64 (by omega) (by omega)]
      have hs : spec_l18digits.b0 ((u : Int), back) = some (.inl (((u / 10 : Nat) : Int), back ++ [((48 + u % 10 : Nat) : Int)])) := by
        unfold spec_l18digits.b0
        simp only [e1, e2]
        rw [if_pos (by simp; omega), if_pos (by simp [Lim]; omega)]
      rw [iter_l hs, dig_loop k (u / 10) _ (by rw [Nat.pow_succ] at h; omega) (by omega) (by simp; omega), DG_ge hu]
      simp
theorem b1_same : spec_l18digits0.b1 = spec_l18digits.b1 := by
 funext x y
 unfold spec_l18digits0.b1 spec_l18digits.b1
 rfl
theorem b0_same : spec_l18digits0.b0 = spec_l18digits.b0 := by
 funext x
 unfold spec_l18digits0.b0 spec_l18digits.b0
 rw [b1_same]
theorem digits0 (u : Nat) (h : (u : Int) ≤ 9223372036854775807) : spec_l18digits0.f (u : Int) = some (DG u) := by
 unfold spec_l18digits0.f
 rw [if_neg (by simp), if_neg (by simp), b0_same, dig_loop 19 u [] (by omega) h (by simp)]
 simp
theorem spec_l18digits (n : Int) (h : InK .i64 n) : spec_l18digits.f n = some (IT n) := by
 have hn := i64_of h
 unfold spec_l18digits.f
 by_cases hm : n = -9223372036854775808
 · subst hm
   rw [if_pos (by simp)]
   have : IT (-9223372036854775808) = 45 :: DG 9223372036854775808 := rfl
   rw [this]
   iterate 18 rw [DG_ge (by omega)]
   rw [DG_lt (by omega)]
   rfl
 · rw [if_neg (by simp [hm])]
   by_cases hs : n < 0
   · obtain ⟨u, rfl⟩ : ∃ u : Nat, n = -(u : Int) := ⟨n.natAbs, by omega⟩
     rw [if_pos (by simpa using hs), show IntKind.wrap .i64 (0 - -(u : Int)) = (u : Int) by rw [w64 (by omega) (by omega)]; omega, digits0 u (by omega), Option.bind_some]
     have e : IT (-(u : Int)) = 45 :: DG u := by unfold IT Lib.itoa; rw [if_pos hs]; simp [DG]
     have hl := IT_len _ h
     rw [e] at hl
     rw [if_pos (by simp at hl; simp [Lim]; omega), e]; rfl
   · obtain ⟨u, rfl⟩ := Int.eq_ofNat_of_zero_le (show 0 ≤ n by omega)
     rw [if_neg (by simp), dig_loop 19 u [] (by omega) (by omega) (by simp)]
     have e : IT (u : Int) = DG u := by unfold IT Lib.itoa; rw [if_neg hs]; simp [DG]
     rw [e]; simp
end Go.Proofs.YtiofnjnnocjbhaaDoor
set_option linter.unusedVariables false
set_option linter.unusedSimpArgs false
set_option linter.unusedSectionVars false
namespace Go.Proofs.YtiofnjnnocjbhaaDoor
open Go V Ieee
theorem wd_rng {M e : Nat} (h1 : M < 9007199254740992) (h3 : e ≤ 2045) (hM : 0 < M) : 0 < wd M e ∧ wd M e < 9218868437227405312 := by rw [wd_eq]; omega
theorem cmp_facts (x : Nat) (h : okF x) : (fcmp .f64 x x != some .eq) = decide (x = 9221120237041090560) ∧ (fcmp .f64 x 0 == some .eq) = decide (x = 0 ∨ x = 9223372036854775808) ∧
    (x ≠ 9221120237041090560 → (fcmp .f64 x 0 == some .gt) = decide (0 < x ∧ x < 9223372036854775808)) ∧ isN x = decide (x = 9221120237041090560) := by
  refine word_cases h (fun x => (fcmp .f64 x x != some .eq) = decide (x = 9221120237041090560) ∧ (fcmp .f64 x 0 == some .eq) = decide (x = 0 ∨ x = 9223372036854775808) ∧
    (x ≠ 9221120237041090560 → (fcmp .f64 x 0 == some .gt) = decide (0 < x ∧ x < 9223372036854775808)) ∧ isN x = decide (x = 9221120237041090560)) ?_ ?_ ?_ ?_ ?_ (fun M e h1 h2 h3 hM => ?_) (fun M e h1 h2 h3 hM => ?_)
  · exact ⟨by decide, by decide, fun h => absurd rfl h, by decide⟩
  · exact ⟨by decide, by decide, fun _ => by decide, by decide⟩
  · exact ⟨by decide, by decide, fun _ => by decide, by decide⟩
  · exact ⟨by decide, by decide, fun _ => by decide, by decide⟩
  · exact ⟨by decide, by decide, fun _ => by decide, by decide⟩
  · obtain ⟨q0, q1⟩ := wd_rng h1 h3 hM
    have c1 := cmp_self (wd_v h1 h2 h3)
    have c2 := wd_ne0 h1 h2 h3 hM
    have c3 := wd_gt h1 h2 h3 hM
    rw [c1, c2, c3]
    generalize wd M e = q at q0 q1
    refine ⟨?_, ?_, fun _ => ?_, ?_⟩
    · rw [decide_eq_false (by omega)]
    · rw [decide_eq_false (by omega)]
    · rw [decide_eq_true (by omega)]
    · unfold isN
      rw [decide_eq_false (by omega), decide_eq_false (by omega)]
  · obtain ⟨q0, q1⟩ := wd_rng h1 h3 hM
    have c1 := cmp_self (wd_neg h1 h2 h3)
    have c2 := neg_cmp h1 h2 h3 hM
    rw [c1, c2]
    generalize wd M e = q at q0 q1
    refine ⟨?_, ?_, fun _ => ?_, ?_⟩
    · rw [decide_eq_false (by omega)]
    · rw [decide_eq_false (by omega)]; rfl
    · rw [decide_eq_false (by omega)]; rfl
    · unfold isN
      rw [decide_eq_false (by omega), decide_eq_false (by omega)]
end Go.Proofs.YtiofnjnnocjbhaaDoor
set_option linter.unusedVariables false
set_option linter.unusedSimpArgs false
set_option linter.unusedSectionVars false
namespace Go.Proofs.YtiofnjnnocjbhaaDoor
open Go V Ieee
theorem within_rin (a b c : Int) : impl_within.f a b c = some (rin a b c) := rfl
def IOK (a : Item) : Bool := ((rin a.Kind 0 3 && ((a.N == (0 : Int)) || (a.Kind == (1 : Int)))) && (((a.F : Int) == 0) || (a.Kind == (2 : Int)))) && (((a.T.length : Int) == (0 : Int)) || ((a.Kind == (3 : Int)) && (decide ((a.T.length : Int) ≤ (40 : Int)))))
theorem impl_ItemOk (a : Item) : impl_ItemOk.f a = some (IOK a) := by
 unfold impl_ItemOk.f
 rw [within_rin, Option.bind_some]; rfl
theorem iok_iff (a : Item) : IOK a = true ↔ ((0 ≤ a.Kind ∧ a.Kind ≤ 3) ∧ (a.N = 0 ∨ a.Kind = 1)) ∧ (a.F = 0 ∨ a.Kind = 2) ∧ (a.T.length = 0 ∨ a.Kind = 3 ∧ a.T.length ≤ 40) := by
 simp only [IOK, rin, Bool.and_eq_true, Bool.or_eq_true, decide_eq_true_eq, beq_iff_eq]
 constructor
 · rintro ⟨⟨⟨h1, h2⟩, h3⟩, h4⟩; exact ⟨⟨h1, h2⟩, by omega, by omega⟩
 · rintro ⟨⟨h1, h2⟩, h3, h4⟩; exact ⟨⟨⟨h1, h2⟩, by omega⟩, by omega⟩
theorem spec_ItemOk (a : Item) (h : okF a.F) : spec_ItemOk.f a = some (IOK a) := by
  unfold spec_ItemOk.f
  rw [spec_FloatBits a.F h]
  obtain ⟨k, n, f, t⟩ := a
  have hi := iok_iff ⟨k, n, f, t⟩
  simp only at hi ⊢
  generalize t.length = l at hi ⊢
  by_cases c1 : (((decide (k < (0 : Int))) || (decide (k > (3 : Int)))) || (decide ((l : Int) > (40 : Int)))) = true
  · rw [if_pos c1]
    have : IOK ⟨k, n, f, t⟩ = false := by
      cases hh : IOK ⟨k, n, f, t⟩ with
      | false => rfl
      | true =>
        have := hi.1 hh
        simp only [Bool.or_eq_true, decide_eq_true_eq] at c1
        omega
    rw [this]
  · rw [if_neg c1]
    simp only [Bool.or_eq_true, decide_eq_true_eq, not_or] at c1
    by_cases c2 : ((k != (1 : Int)) && (n != (0 : Int))) = true
    · rw [if_pos c2]
      have : IOK ⟨k, n, f, t⟩ = false := by
        cases hh : IOK ⟨k, n, f, t⟩ with
        | false => rfl
        | true =>
          have := hi.1 hh
          simp only [Bool.and_eq_true, bne_iff_ne, ne_eq] at c2
          omega
      rw [this]
    · rw [if_neg c2]
      simp only [Bool.and_eq_true, bne_iff_ne, ne_eq, not_and, Decidable.not_not] at c2
      by_cases c3 : k = 2
      · rw [if_neg (by simp [c3])]
        simp only [Option.bind_some, Bool.false_eq_true, if_false]
        congr 1
        have e : ((k == (3 : Int)) || ((l : Int) == (0 : Int))) = decide (k = 3 ∨ l = 0) := by
          by_cases q : k = 3 <;> by_cases q2 : l = 0 <;> simp [q, q2]
        rw [e]
        cases hh : IOK ⟨k, n, f, t⟩ with
        | true => exact decide_eq_true (by have := hi.1 hh; omega)
        | false => exact decide_eq_false (fun hc => by
            have : IOK ⟨k, n, f, t⟩ = true := hi.2 (by omega)
            rw [hh] at this; cases this)
      · rw [if_pos (by simp [c3])]
        simp only [Option.bind_some]
        by_cases c4 : f = 0
        · rw [if_neg (by simp [c4])]
          congr 1
          have e : ((k == (3 : Int)) || ((l : Int) == (0 : Int))) = decide (k = 3 ∨ l = 0) := by
            by_cases q : k = 3 <;> by_cases q2 : l = 0 <;> simp [q, q2]
          rw [e]
          cases hh : IOK ⟨k, n, f, t⟩ with
          | true => exact decide_eq_true (by have := hi.1 hh; omega)
          | false => exact decide_eq_false (fun hc => by
              have : IOK ⟨k, n, f, t⟩ = true := hi.2 (by omega)
              rw [hh] at this; cases this)
        · rw [if_pos (by simp; exact c4)]
          have : IOK ⟨k, n, f, t⟩ = false := by
            cases hh : IOK ⟨k, n, f, t⟩ with
            | false => rfl
            | true =>
              have := hi.1 hh
              omega
          rw [this]
theorem iok_T {a : Item} (h : IOK a = true) : a.T.length ≤ 40 := by have := (iok_iff a).1 h; omega
end Go.Proofs.YtiofnjnnocjbhaaDoor
set_option linter.unusedVariables false
set_option linter.unusedSimpArgs false
set_option linter.unusedSectionVars false
namespace Go.Proofs.YtiofnjnnocjbhaaDoor
open Go V Ieee
theorem impl_FloatBits (x : Nat) (h : okF x) : impl_FloatBits.f x = some (x : Int) := by
 obtain ⟨c1, _, _, c4⟩ := cmp_facts x h
 unfold impl_FloatBits.f
 by_cases hx : x = 9221120237041090560
 · rw [ifT (by rw [c1]; exact decide_eq_true hx), hx]; rfl
 · rw [ifF (by rw [c1]; exact decide_eq_false hx), if_pos (by rw [c4]; exact decide_eq_false hx)]
end Go.Proofs.YtiofnjnnocjbhaaDoor
set_option linter.unusedVariables false
set_option linter.unusedSimpArgs false
set_option linter.unusedSectionVars false
namespace Go.Proofs.YtiofnjnnocjbhaaDoor
open Go V Ieee
def TX (a : Item) : List Int := if a.Kind = 1 then 105 :: IT a.N else if a.Kind = 2 then 102 :: HX (highB a.F) else if a.Kind = 3 then 116 :: HX a.T else [45]
theorem TX_len (a : Item) (hn : InK .i64 a.N) : (TX a).length ≤ 2 * a.T.length + 30 := by
 unfold TX
 have h1 := IT_len a.N hn
 have h2 : (HX (highB a.F)).length = 16 := by rw [HX_len, highB, highP_len]
 have h3 := HX_len a.T
 split
 · simp only [List.length_cons]; omega
 · split
   · simp only [List.length_cons]; omega
   · split <;> simp only [List.length_cons, List.length_nil] <;> omega
theorem highB_len (n : Nat) : (highB n).length = 8 := by rw [highB, highP_len]
theorem impl_bitsText (x : Nat) (hx : okF x) : impl_bitsText.f x = some (str (HX (highB x))) := by
 unfold impl_bitsText.f
 rw [impl_FloatBits x hx, Option.bind_some, impl_highFirst, Option.bind_some, impl_hexText _ (highB_u8 x) (by rw [highB_len]; omega)]; rfl
theorem okF_lt {x : Nat} (h : okF x) : x < 18446744073709551616 := h.2
theorem bts_itemText (a : Item) (ha : ok_Item a) (hT : a.T.length ≤ 1000000) : ∃ t, impl_itemText.f a = some t ∧ bts t = TX a := by
 have hn := i64_of ha.2.1
 have hil := IT_len a.N ha.2.1
 unfold impl_itemText.f TX
 by_cases h1 : a.Kind = 1
 · rw [if_pos (by simp [h1]), if_pos h1]
   have : strconv_Itoa.f a.N = some ⟨(Lib.itoa a.N).toArray⟩ := by unfold strconv_Itoa.f; rw [if_pos hn]
   rw [this, Option.bind_some, if_pos (by rw [← bts_len, ← bts_len, bts_itoa]; simp [bts, Lim]; omega)]
   exact ⟨_, rfl, by rw [bts_app, bts_itoa]; rfl⟩
 · rw [if_neg (by simp [h1]), if_neg h1]
   by_cases h2 : a.Kind = 2
   · rw [if_pos (by simp [h2]), if_pos h2, impl_bitsText a.F ha.2.2.1, Option.bind_some]
     have hu := HX_u8 (highB_u8 a.F)
     rw [if_pos (by rw [size_str hu, HX_len, highB_len]; decide)]
     exact ⟨_, rfl, by rw [bts_app, bts_str hu]; rfl⟩
   · rw [if_neg (by simp [h2]), if_neg h2]
     by_cases h3 : a.Kind = 3
     · have hu := HX_u8 ha.2.2.2.2
       rw [if_pos (by simp [h3]), if_pos h3, impl_hexText a.T ha.2.2.2.2 (by omega), Option.bind_some, if_pos (by rw [size_str hu, HX_len, ← bts_len]; simp [bts, Lim]; omega)]
       exact ⟨_, rfl, by rw [bts_app, bts_str hu]; rfl⟩
     · rw [if_neg (by simp [h3]), if_neg h3]
       exact ⟨_, rfl, rfl⟩
def TXO (a : Item) : List Int := if IOK a = true then TX a else []
theorem spec_ItemText (a : Item) (ha : ok_Item a) : spec_ItemText.f a = some (TXO a) := by
 have hil := IT_len a.N ha.2.1
 unfold spec_ItemText.f TXO
 rw [spec_ItemOk a ha.2.2.1, Option.bind_some]
 by_cases h : IOK a = true
 · have hT := iok_T h
   rw [if_neg (by simp [h]), if_pos h]
   unfold TX
   by_cases h1 : a.Kind = 1
   · rw [if_pos (by simp [h1]), if_pos h1, spec_l18digits a.N ha.2.1, Option.bind_some, if_pos (by simp [Lim]; omega)]; rfl
   · rw [if_neg (by simp [h1]), if_neg h1]
     by_cases h2 : a.Kind = 2
     · rw [if_pos (by simp [h2]), if_pos h2, spec_FloatBits a.F ha.2.2.1, Option.bind_some, spec_l3high a.F (okF_lt ha.2.2.1), Option.bind_some, spec_l18hex _ (highB_u8 _) (by rw [highB_len]; omega), Option.bind_some, if_pos (by rw [HX_len, highB_len]; decide)]; rfl
     · rw [if_neg (by simp [h2]), if_neg h2]
       by_cases h3 : a.Kind = 3
       · rw [if_pos (by simp [h3]), if_pos h3, spec_l18hex a.T ha.2.2.2.2 (by omega), Option.bind_some, if_pos (by rw [HX_len]; simp [Lim]; omega)]; rfl
       · rw [if_neg (by simp [h3]), if_neg h3]
 · rw [if_pos (by simpa using h), if_neg h]
end Go.Proofs.YtiofnjnnocjbhaaDoor
set_option linter.unusedVariables false
set_option linter.unusedSimpArgs false
set_option linter.unusedSectionVars false
namespace Go.Proofs.YtiofnjnnocjbhaaDoor
open Go V Ieee
theorem szByteS (a : List Int) (n : Int) (hl : a.length ≤ maxLen) (h0 : 0 ≤ n) (h1 : n ≤ 1048576) : Sz (laws_szByteS.f a n) n a.length := by
 simp only [maxLen] at hl
 unfold laws_szByteS.f
 rw [w64 (by omega) (by omega)]
 by_cases hneg : n - (a.length : Int) < 0
 · rw [if_pos (by simpa using hneg)]; exact ⟨-1, rfl, by omega, fun h => by omega⟩
 · rw [if_neg (by simpa using hneg)]; exact ⟨_, rfl, by omega, fun h => rfl⟩
theorem toByteS (a : List Int) (h : a.length ≤ 1048576) : laws_toByteS.f a = some a := by
 unfold laws_toByteS.f
 rw [if_pos ⟨by omega, by simp only [Lim]; omega⟩]
 refine toS_gen a 0 (fun l k hk hl => ?_) (fun l => ?_)
 · unfold laws_toByteS.b0
   simp only []
   rw [if_pos (by simp; omega), if_pos ⟨by omega, by omega⟩, if_pos ⟨by omega, by omega⟩, at_nat _ k hk, w64 (by omega) (by omega)]; rfl
 · unfold laws_toByteS.b0
   simp only []
   rw [if_neg (by simp)]; rfl
theorem eqByteS (a : List Int) (h : a.length ≤ 1048576) : laws_eqByteS.f a a = some true := by
 unfold laws_eqByteS.f
 have := eqS_gen (body := laws_eqByteS.b0 a a) a a (fun k hk _ => by
  unfold laws_eqByteS.b0
  rw [if_pos (by simp; omega), if_pos ⟨by omega, by omega⟩, if_pos ⟨by omega, by omega⟩, at_nat _ k hk, w64 (by omega) (by omega)]
  simp) (by
  unfold laws_eqByteS.b0
  rw [if_neg (by simp)]; rfl)
 rw [this]; simp
theorem wsum_one (a : List Int) : wsum (fun _ => 1) a = a.length := by
 induction a with
 | nil => rfl
 | cons x l ih => rw [wsum_cons, ih, List.length_cons]; omega
end Go.Proofs.YtiofnjnnocjbhaaDoor
set_option linter.unusedVariables false
set_option linter.unusedSimpArgs false
set_option linter.unusedSectionVars false
namespace Go.Proofs.YtiofnjnnocjbhaaDoor
open Go V Ieee
theorem szItem (a : Item) (n : Int) (ha : ok_Item a) (h0 : 0 ≤ n) (h1 : n ≤ 1048576) : Sz (laws_szItem.f a n) n a.T.length := by
 unfold laws_szItem.f
 obtain ⟨r, er, hr, hr2⟩ := szByteS a.T n ha.2.2.2.1 h0 h1
 rw [er, Option.bind_some]
 by_cases hn : r < 0
 · rw [if_pos (by simpa using hn)]; exact ⟨-1, rfl, by omega, fun h => by omega⟩
 · rw [if_neg (by simpa using hn)]; exact ⟨r, rfl, hr, hr2⟩
theorem toItem (a : Item) (h : a.T.length ≤ 1048576) : laws_toItem.f a = some a := by
 unfold laws_toItem.f
 rw [toByteS _ h]; rfl
theorem sameFloat (x : Nat) : laws_sameFloat.f x x = some true := by
 unfold laws_sameFloat.f
 have hbe : ∀ b : Bool, (b == b) = true := fun b => by cases b <;> rfl
 cases hb : fcmp .f64 x x != some .eq with
 | true => rfl
 | false =>
  have he : (fcmp .f64 x x == some .eq) = true := by
   have : (fcmp .f64 x x != some .eq) = !(fcmp .f64 x x == some .eq) := rfl
   rw [this] at hb
   cases hq : (fcmp .f64 x x == some .eq) with
   | true => rfl
   | false => rw [hq] at hb; cases hb
  rw [if_neg (by decide), he, hbe]
  split <;> rfl
theorem eqItem (a : Item) (h : a.T.length ≤ 1048576) : laws_eqItem.f a a = some true := by
 unfold laws_eqItem.f
 rw [if_neg (by simp), if_neg (by simp), sameFloat, Option.bind_some, if_neg (by decide), eqByteS _ h]; rfl
end Go.Proofs.YtiofnjnnocjbhaaDoor
set_option linter.unusedVariables false
set_option linter.unusedSimpArgs false
set_option linter.unusedSectionVars false
namespace Go.Proofs.YtiofnjnnocjbhaaDoor
open Go V Ieee
def JW (w : List Int) (ws : List (List Int)) : List Int := w ++ (ws.map fun x => (32 : Int) :: x).flatten
theorem JW_snoc (w : List Int) (ws : List (List Int)) (x : List Int) : JW w (ws ++ [x]) = JW w ws ++ [(32 : Int)] ++ x := by simp [JW]
theorem JW_len (w : List Int) (c : Nat) : ∀ ws : List (List Int), (∀ x ∈ ws, x.length + 1 ≤ c) → (JW w ws).length ≤ w.length + ws.length * c
 | [], _ => by simp [JW]
 | x :: ws, h => by
  have ih := JW_len w c ws fun y hy => h y (List.mem_cons_of_mem _ hy)
  have hx := h x List.mem_cons_self
  simp only [JW, List.map_cons, List.flatten_cons, List.length_append, List.length_cons, Nat.add_mul] at ih ⊢
  omega
theorem bts_join (x : ByteArray) (xs : List ByteArray) : bts ⟨(Lib.join ((x :: xs).map (·.data.toList)) (⟨#[32]⟩ : ByteArray).data.toList).toArray⟩ = JW (bts x) (xs.map bts) := by
 unfold bts JW
 rw [List.map_cons, Lib.join_cons]
 simp only [Lib.joinTail, List.map_append, List.map_flatten, List.map_map]
 congr 2
theorem l18word (a b : List Int) (h : a.length + b.length + 1 ≤ 4294967296) : spec_l18word.f a b = some (a ++ [(32 : Int)] ++ b) := by
 unfold spec_l18word.f
 rw [if_pos (by simp [Lim]; omega), if_pos (by simp [Lim]; omega)]
theorem TX_le {a : Item} (hn : InK .i64 a.N) (h : IOK a = true) : (TX a).length ≤ 110 := by
 have := TX_len a hn
 have := iok_T h
 omega
theorem itoa_ok (n : Int) (h : InK .i64 n) : strconv_Itoa.f n = some ⟨(Lib.itoa n).toArray⟩ := by
 unfold strconv_Itoa.f
 rw [if_pos (i64_of h)]
def ORM (a : Item) : List Int := if IOK a = true then TX a else [63]
theorem ORM_len (a : Item) (hn : InK .i64 a.N) : (ORM a).length ≤ 110 := by
 unfold ORM
 split
 · rename_i h; exact TX_le hn h
 · simp
theorem spec_l18item (a : Item) (ha : ok_Item a) : spec_l18item.f a = some (ORM a) := by
 unfold spec_l18item.f ORM
 rw [spec_ItemOk a ha.2.2.1, Option.bind_some]
 by_cases h : IOK a = true
 · rw [if_neg (by simp [h]), if_pos h, spec_ItemText a ha, Option.bind_some, TXO, if_pos h]
 · rw [if_pos (by simpa using h), if_neg h]
noncomputable def otb (a : Item) : ByteArray := (impl_orMark.f a).getD ⟨#[]⟩
theorem impl_orMark (a : Item) (ha : ok_Item a) : impl_orMark.f a = some (otb a) ∧ bts (otb a) = ORM a := by
 have key : ∃ t, impl_orMark.f a = some t ∧ bts t = ORM a := by
  unfold impl_orMark.f ORM
  rw [impl_ItemOk, Option.bind_some]
  by_cases h : IOK a = true
  · have hT := iok_T h
    obtain ⟨t, ht, hb⟩ := bts_itemText a ha (by omega)
    rw [if_neg (by simp [h]), if_pos h, ht]
    exact ⟨t, rfl, hb⟩
  · rw [if_pos (by simpa using h), if_neg h]; exact ⟨_, rfl, rfl⟩
 obtain ⟨t, ht, hb⟩ := key
 have : otb a = t := by unfold otb; rw [ht]; rfl
 rw [this]; exact ⟨ht, hb⟩
theorem sz_orm (a : Item) (ha : ok_Item a) : (otb a).size ≤ 110 := by
 rw [← bts_len, (impl_orMark a ha).2]; exact ORM_len a ha.2.1
def RW (p : Pair) : List Int := ORM p.Key ++ [(61 : Int)] ++ ORM p.Value
noncomputable def RWB (p : Pair) : ByteArray := (otb p.Key ++ (⟨#[61]⟩ : ByteArray)) ++ otb p.Value
theorem bts_RWB (p : Pair) (h : ok_Pair p) : bts (RWB p) = RW p := by
 unfold RWB RW
 rw [bts_app, bts_app, (impl_orMark _ h.1).2, (impl_orMark _ h.2).2]; rfl
theorem RW_len (p : Pair) (h : ok_Pair p) : (RW p).length + 1 ≤ 222 := by
 have := ORM_len p.Key h.1.2.1
 have := ORM_len p.Value h.2.2.1
 unfold RW
 simp only [List.length_append, List.length_cons, List.length_nil]
 omega
def CD (c : Int) : List Int := if 0 ≤ c ∧ c ≤ 99 then [((48 + c.toNat / 10 : Nat) : Int), ((48 + c.toNat % 10 : Nat) : Int)] else [63, 63]
def five (r : Reply) : List (List Int) := [IT r.Seat, IT r.Kind, IT r.N, ORM r.Value, HX (highB r.Total)]
def RTX (r : Reply) : List Int := JW (CD r.Code) (five r ++ r.Rows.map RW)
theorem CD_len (c : Int) : (CD c).length = 2 := by unfold CD; split <;> rfl
theorem five_len (r : Reply) (h : ok_Reply r) : ∀ x ∈ five r, x.length + 1 ≤ 222 := by
 intro x hx
 have h1 := IT_len r.Seat h.1
 have h2 := IT_len r.Kind h.2.1
 have h3 := IT_len r.N h.2.2.2.1
 have h4 := ORM_len r.Value h.2.2.2.2.1.2.1
 have h5 : (HX (highB r.Total)).length = 16 := by rw [HX_len, highB_len]
 simp only [five, List.mem_cons, List.not_mem_nil, or_false] at hx
 rcases hx with rfl | rfl | rfl | rfl | rfl <;> omega
theorem JW_rows (r : Reply) (h : ok_Reply r) (k : Nat) : (JW (CD r.Code) (five r ++ (r.Rows.take k).map RW)).length ≤ 2 + (5 + r.Rows.length) * 222 := by
 have h1 := JW_len (CD r.Code) 222 (five r ++ (r.Rows.take k).map RW) (fun x hx => by
  rcases List.mem_append.1 hx with hx | hx
  · exact five_len r h x hx
  · obtain ⟨p, hp, rfl⟩ := List.mem_map.1 hx
    exact RW_len p (h.2.2.2.2.2.1.2 p (List.mem_of_mem_take hp)))
 rw [CD_len] at h1
 simp only [List.length_append, List.length_map, List.length_take, show (five r).length = 5 from rfl] at h1
 have : (5 + min k r.Rows.length) * 222 ≤ (5 + r.Rows.length) * 222 := Nat.mul_le_mul_right _ (by omega)
 omega
theorem RTX_len (r : Reply) (h : ok_Reply r) : (RTX r).length ≤ 2 + (5 + r.Rows.length) * 222 := by
 have := JW_rows r h r.Rows.length
 rwa [List.take_length] at this
theorem spec_ReplyText (r : Reply) (h : ok_Reply r) (hl : r.Rows.length ≤ 1048576) : spec_ReplyText.f r = some (RTX r) := by
 have hc := i64_of h.2.2.1
 unfold spec_ReplyText.f
 have e0 : spec_l5in.f r.Code (0 : Int) (99 : Int) = some (decide (0 ≤ r.Code ∧ r.Code ≤ 99)) := by unfold spec_l5in.f; rw [Bool.decide_and]
 rw [e0, Option.bind_some]
 have e1 : (if decide (0 ≤ r.Code ∧ r.Code ≤ 99) = true then (some ([(IntKind.wrap .u8 (IntKind.wrap .i64 ((48 : Int) + (IntKind.wrap .i64 (r.Code.tdiv (10 : Int)))))), (IntKind.wrap .u8 (IntKind.wrap .i64 ((48 : Int) + (r.Code.tmod (10 : Int)))))])) else (some ([(63 : Int), (63 : Int)]))) = some (CD r.Code) := by
  unfold CD
  by_cases hb : 0 ≤ r.Code ∧ r.Code ≤ 99
  · rw [if_pos (by simpa using hb), if_pos hb]
    obtain ⟨c, hcc⟩ := Int.eq_ofNat_of_zero_le hb.1
    rw [hcc]
    have q1 : Int.tdiv (c : Int) (10 : Int) = ((c / 10 : Nat) : Int) := rfl
    have q2 : Int.tmod (c : Int) (10 : Int) = ((c % 10 : Nat) : Int) := rfl
    have : c ≤ 99 := by omega
    have d1 : IntKind.wrap .u8 (IntKind.wrap .i64 ((48 : Int) + (IntKind.wrap .i64 ((c / 10 : Nat) : Int)))) = ((48 + c / 10 : Nat) : Int) := by
     rw [w64 (n := ((c / 10 : Nat) : Int)) (by omega) (by omega), w64 (by omega) (by omega), show (48 : Int) + ((c / 10 : Nat) : Int) = ((48 + c / 10 : Nat) : Int) by omega, wrap8]; omega
    have d2 : IntKind.wrap .u8 (IntKind.wrap .i64 ((48 : Int) + ((c % 10 : Nat) : Int))) = ((48 + c % 10 : Nat) : Int) := by
     rw [w64 (by omega) (by omega), show (48 : Int) + ((c % 10 : Nat) : Int) = ((48 + c % 10 : Nat) : Int) by omega, wrap8]; omega
    rw [q1, q2, d1, d2]; rfl
  · rw [if_neg (by simpa using hb), if_neg hb]
 rw [e1, Option.bind_some, spec_l18digits _ h.1, Option.bind_some]
 have hcd := CD_len r.Code
 have h1 := IT_len r.Seat h.1
 have h2 := IT_len r.Kind h.2.1
 have h3 := IT_len r.N h.2.2.2.1
 have h4 := ORM_len r.Value h.2.2.2.2.1.2.1
 have h5 : (HX (highB r.Total)).length = 16 := by rw [HX_len, highB_len]
 rw [l18word _ _ (by omega), Option.bind_some, spec_l18digits _ h.2.1, Option.bind_some, l18word _ _ (by simp; omega), Option.bind_some, spec_l18digits _ h.2.2.2.1, Option.bind_some, l18word _ _ (by simp; omega), Option.bind_some]
 rw [spec_l18item _ h.2.2.2.2.1, Option.bind_some, l18word _ _ (by simp; omega), Option.bind_some, spec_FloatBits _ h.2.2.2.2.2.2, Option.bind_some, spec_l3high _ (okF_lt h.2.2.2.2.2.2), Option.bind_some, spec_l18hex _ (highB_u8 _) (by rw [highB_len]; omega), Option.bind_some, l18word _ _ (by simp; omega), Option.bind_some]
 have hst : ∀ z : List Int, z = JW (CD r.Code) (five r ++ (r.Rows.take 0).map RW) → iter (spec_ReplyText.b0 r) (z, (0 : Int)) = some (RTX r) := by
  intro z hz
  subst hz
  refine iter_for r.Rows.length (fun k => (JW (CD r.Code) (five r ++ (r.Rows.take k).map RW), (k : Int))) _ (fun k hk => ?_) ?_
  · unfold spec_ReplyText.b0
    simp only []
    have hp := h.2.2.2.2.2.1.2 _ (List.getElem_mem hk)
    have hJ := JW_rows r h k
    have hk1 := ORM_len (r.Rows[k]).Key hp.1.2.1
    have hk2 := ORM_len (r.Rows[k]).Value hp.2.2.1
    rw [if_pos (by simp; omega), if_pos (by omega), at_nat _ k hk, spec_l18item _ hp.1, Option.bind_some, l18word _ _ (by omega), Option.bind_some]
    rw [if_pos (by simp only [List.length_append, List.length_cons, List.length_nil, Lim]; omega), if_pos (by omega), spec_l18item _ hp.2, Option.bind_some, if_pos (by simp only [List.length_append, List.length_cons, List.length_nil, Lim]; omega), w64 (by omega) (by omega)]
    rw [List.take_succ_eq_append_getElem hk, List.map_append, ← List.append_assoc, List.map_cons, List.map_nil, JW_snoc]
    simp [RW]
  · unfold spec_ReplyText.b0
    simp only []
    rw [if_neg (by simp), List.take_length]; rfl
 refine hst _ ?_
 simp [JW, five]
theorem impl_replyText (r : Reply) (h : ok_Reply r) (hl : r.Rows.length ≤ 1048576) : ∃ t, impl_replyText.f r = some t ∧ bts t = RTX r := by
 have hc := i64_of h.2.2.1
 unfold impl_replyText.f
 rw [within_rin, Option.bind_some]
 have e1 : ∃ t, (if rin r.Code 0 99 = true then ((strconv_Itoa.f (IntKind.wrap .i64 (r.Code.tdiv (10 : Int)))).bind fun r22 => ((strconv_Itoa.f (r.Code.tmod (10 : Int))).bind fun r27 => (if r22.size + r27.size ≤ Lim then (some (r22 ++ r27)) else none))) else (some (⟨#[63, 63]⟩ : ByteArray))) = some t ∧ bts t = CD r.Code := by
  unfold CD
  by_cases hb : 0 ≤ r.Code ∧ r.Code ≤ 99
  · rw [if_pos (rin_iff.2 hb), if_pos hb]
    obtain ⟨c, hcc⟩ := Int.eq_ofNat_of_zero_le hb.1
    rw [hcc]
    have q1 : Int.tdiv (c : Int) (10 : Int) = ((c / 10 : Nat) : Int) := rfl
    have q2 : Int.tmod (c : Int) (10 : Int) = ((c % 10 : Nat) : Int) := rfl
    have : c ≤ 99 := by omega
    rw [q1, q2, w64 (by omega) (by omega), itoa_ok _ (i64_ok (by omega) (by omega)), Option.bind_some, itoa_ok _ (i64_ok (by omega) (by omega)), Option.bind_some]
    have i1 := IT_len ((c / 10 : Nat) : Int) (i64_ok (by omega) (by omega))
    have i2 := IT_len ((c % 10 : Nat) : Int) (i64_ok (by omega) (by omega))
    have dg : ∀ u : Nat, IT (u : Int) = DG u := fun u => by unfold IT Lib.itoa; rw [if_neg (by omega)]; simp [DG]
    rw [if_pos (by rw [← bts_len, ← bts_len, bts_itoa, bts_itoa]; simp only [Lim]; omega)]
    refine ⟨_, rfl, ?_⟩
    rw [bts_app, bts_itoa, bts_itoa, dg, dg, DG_lt (by omega), DG_lt (by omega)]; rfl
  · rw [if_neg (by rw [rin_iff]; exact hb), if_neg hb]; exact ⟨_, rfl, rfl⟩
 obtain ⟨t0, e1, hb0⟩ := e1
 rw [e1, Option.bind_some, itoa_ok _ h.1, Option.bind_some, itoa_ok _ h.2.1, Option.bind_some, itoa_ok _ h.2.2.2.1, Option.bind_some, (impl_orMark _ h.2.2.2.2.1).1, Option.bind_some, impl_bitsText _ h.2.2.2.2.2.2, Option.bind_some]
 generalize hW : [t0, (⟨(Lib.itoa r.Seat).toArray⟩ : ByteArray), ⟨(Lib.itoa r.Kind).toArray⟩, ⟨(Lib.itoa r.N).toArray⟩, otb r.Value, str (HX (highB r.Total))] = W
 have hWl : W.length = 6 := by rw [← hW]; rfl
 have hpk : ∀ p ∈ r.Rows, ok_Pair p := h.2.2.2.2.2.1.2
 have hend : ∃ t, strings_Join.f (W ++ r.Rows.map RWB) (⟨#[32]⟩ : ByteArray) = some t ∧ bts t = RTX r := by
  have hj : bts ⟨(Lib.join ((W ++ r.Rows.map RWB).map (·.data.toList)) (⟨#[32]⟩ : ByteArray).data.toList).toArray⟩ = RTX r := by
   rw [← hW, List.cons_append, bts_join, hb0]
   unfold RTX five
   congr 1
   simp only [List.cons_append, List.nil_append, List.map_cons, List.map_map, bts_itoa, (impl_orMark _ h.2.2.2.2.1).2, bts_str (HX_u8 (highB_u8 r.Total))]
   congr 5
   exact List.map_congr_left fun p hp => bts_RWB p (hpk p hp)
  have hlen := RTX_len r h
  unfold strings_Join.f
  rw [if_pos ⟨by simp only [List.length_append, List.length_map, hWl, Lim]; omega, by
   have := congrArg List.length hj
   rw [bts_len] at this
   have e : (ByteArray.mk (Lib.join ((W ++ r.Rows.map RWB).map (·.data.toList)) (⟨#[32]⟩ : ByteArray).data.toList).toArray).size = (Lib.join ((W ++ r.Rows.map RWB).map (·.data.toList)) (⟨#[32]⟩ : ByteArray).data.toList).length := rfl
   rw [e] at this
   rw [this]
   simp only [Lim]
   omega⟩]
  exact ⟨_, rfl, hj⟩
 obtain ⟨t, ht, hbt⟩ := hend
 refine ⟨t, ?_, hbt⟩
 have hst : (W, (0 : Int)) = (W ++ (r.Rows.take 0).map RWB, ((0 : Nat) : Int)) := by simp
 rw [hst]
 refine iter_for r.Rows.length (fun k => (W ++ (r.Rows.take k).map RWB, (k : Int))) _ (fun k hk => ?_) ?_
 · unfold impl_replyText.b0
   simp only []
   have hp := hpk _ (List.getElem_mem hk)
   have s1 := sz_orm _ hp.1
   have s2 := sz_orm _ hp.2
   have s61 : (⟨#[61]⟩ : ByteArray).size = 1 := rfl
   rw [if_pos (by simp; omega), if_pos (by omega), at_nat _ k hk, (impl_orMark _ hp.1).1, Option.bind_some, if_pos (by rw [s61]; simp only [Lim]; omega), (impl_orMark _ hp.2).1, Option.bind_some]
   rw [if_pos (by rw [← bts_len, bts_app, List.length_append, bts_len, bts_len, s61]; simp only [Lim]; omega), if_pos (by simp only [List.length_append, List.length_map, List.length_take, List.length_cons, List.length_nil, hWl, Lim]; omega), w64 (by omega) (by omega)]
   rw [List.take_succ_eq_append_getElem hk, List.map_append, ← List.append_assoc]
   rfl
 · unfold impl_replyText.b0
   simp only []
   rw [if_neg (by simp), List.take_length, ht]; rfl
theorem impl_ReplyText (r : Reply) (h : ok_Reply r) (hl : r.Rows.length ≤ 1048576) : impl_ReplyText.f r = some (RTX r) := by
 obtain ⟨t, ht, hb⟩ := impl_replyText r h hl
 have hlen := RTX_len r h
 unfold impl_ReplyText.f
 rw [ht, Option.bind_some, if_pos (by rw [← bts_len, hb]; simp only [Lim]; omega), hb]
end Go.Proofs.YtiofnjnnocjbhaaDoor
set_option linter.unusedVariables false
set_option linter.unusedSimpArgs false
set_option linter.unusedSectionVars false
namespace Go.Proofs.YtiofnjnnocjbhaaDoor
open Go V Ieee
theorem markByteS (a : List Int) (x : Int) (h0 : 0 ≤ x) (h1 : x + (a.length : Int) ≤ 100000000000) : ∃ a', laws_markByteS.f a x = some (x + (a.length : Int), a') ∧ a'.length = a.length ∧ laws_heldByteS.f a' x = some (x + (a.length : Int)) := by
 have := markS_gen (mb := laws_markByteS.b0) (hb := laws_heldByteS.b0) (wt := fun _ => 1) (fun e y n => e = IntKind.wrap .u8 y ∧ n = 1) a x h0 (by rw [wsum_one]; exact h1)
  (fun l y k hk hla hy hy1 => by
   refine ⟨IntKind.wrap .u8 y, ?_, rfl, rfl⟩
   unfold laws_markByteS.b0
   simp only []
   rw [if_pos (by simp; omega), if_pos ⟨by omega, by omega⟩, w64 (by omega) (by omega), w64 (by omega) (by omega)]; rfl)
  (fun l y hla => by
   unfold laws_markByteS.b0
   simp only []
   rw [if_neg (by simp)]; rfl)
  (fun l y k n hk hla he hy hy1 => by
   obtain ⟨e1, rfl⟩ := he
   unfold laws_heldByteS.b0
   simp only []
   rw [if_pos (by simp; omega), if_pos ⟨by omega, by omega⟩, at_nat _ k hk, e1, if_neg (by simp), w64 (by omega) (by omega), w64 (by omega) (by omega)]; rfl)
  (fun l y hla => by
   unfold laws_heldByteS.b0
   simp only []
   rw [if_neg (by simp)]; rfl)
 rw [wsum_one] at this
 exact this
end Go.Proofs.YtiofnjnnocjbhaaDoor
set_option linter.unusedVariables false
set_option linter.unusedSimpArgs false
set_option linter.unusedSectionVars false
namespace Go.Proofs.YtiofnjnnocjbhaaDoor
open Go V Ieee
def lgI (a : Item) : Prop := a.T.length ≤ 1048576
theorem markS1 {α : Type} {mb : List α × Int × Int → Option ((List α × Int × Int) ⊕ (Int × List α))} {wt : α → Nat} (P : α → Prop) (Q : α → α → Prop) (hQ : ∀ a, Q a a) (a : List α) (hP : ∀ y ∈ a, P y) (x : Int) (h0 : 0 ≤ x) (h1 : x + (wsum wt a : Int) ≤ 100000000000)
    (hm : ∀ (l : List α) (x : Int) (k : Nat) (hk : k < l.length), l.length = a.length → P l[k] → 0 ≤ x → x + (wt l[k] : Int) ≤ 100000000000 → ∃ e', mb (l, x, (k : Int)) = some (.inl (l.set k e', x + (wt l[k] : Int), (k : Int) + 1)) ∧ Q l[k] e')
    (hmn : ∀ l x, l.length = a.length → mb (l, x, (l.length : Int)) = some (.inr (x, l))) :
    ∃ a', iter mb (a, x, (0 : Int)) = some (x + (wsum wt a : Int), a') ∧ a'.length = a.length := by
  have key : ∀ (m i : Nat) (x : Int) (l : List α), i + m = l.length → l.length = a.length → (∀ y ∈ l.drop i, P y) → 0 ≤ x → x + (wsum wt (l.drop i) : Int) ≤ 100000000000 →
      ∃ l', iter mb (l, x, (i : Int)) = some (x + (wsum wt (l.drop i) : Int), l') ∧ l'.length = l.length := by
    intro m
    induction m with
    | zero =>
      intro i x l hi hla hPl hx0 hx1
      have : i = l.length := by omega
      subst this
      rw [List.drop_length]
      refine ⟨l, ?_, rfl⟩
      rw [iter_r (hmn l x hla)]; simp [wsum]
    | succ m ih =>
      intro i x l hi hla hPl hx0 hx1
      have hk : i < l.length := by omega
      have hd : l.drop i = l[i] :: l.drop (i + 1) := List.drop_eq_getElem_cons hk
      rw [hd] at hPl
      rw [hd, wsum_cons] at hx1 ⊢
      obtain ⟨e', hmb, _⟩ := hm l x i hk hla (hPl _ List.mem_cons_self) hx0 (by omega)
      have e : (i : Int) + 1 = ((i + 1 : Nat) : Int) := by omega
      have hds : (l.set i e').drop (i + 1) = l.drop (i + 1) := List.drop_set_of_lt (by omega)
      obtain ⟨l', h1', h2'⟩ := ih (i + 1) (x + (wt l[i] : Int)) (l.set i e') (by rw [List.length_set]; omega) (by rw [List.length_set]; exact hla) (by rw [hds]; exact fun y hy => hPl y (List.mem_cons_of_mem _ hy)) (by omega) (by rw [hds]; omega)
      rw [hds] at h1'
      rw [List.length_set] at h2'
      have hsum : x + (wt l[i] : Int) + (wsum wt (l.drop (i + 1)) : Int) = x + ((wt l[i] + wsum wt (l.drop (i + 1)) : Nat) : Int) := by omega
      exact ⟨l', by rw [iter_l hmb, e, h1', hsum], h2'⟩
  obtain ⟨l', h1', h2'⟩ := key a.length 0 x a (by omega) rfl (by rw [List.drop_zero]; exact hP) h0 (by rw [List.drop_zero]; exact h1)
  rw [List.drop_zero] at h1'
  exact ⟨l', h1', h2'⟩
theorem markByteS1 (a : List Int) (x : Int) (h0 : 0 ≤ x) (h1 : x + (a.length : Int) ≤ 100000000000) : ∃ a', laws_markByteS.f a x = some (x + (a.length : Int), a') ∧ a'.length = a.length := by
 have := markS1 (mb := laws_markByteS.b0) (wt := fun _ => 1) (fun _ => True) (fun _ _ => True) (fun _ => trivial) a (fun _ _ => trivial) x h0 (by rw [wsum_one]; exact h1)
  (fun l y k hk hla _ hy hy1 => by
   refine ⟨IntKind.wrap .u8 y, ?_, trivial⟩
   unfold laws_markByteS.b0
   simp only []
   rw [if_pos (by simp; omega), if_pos ⟨by omega, by omega⟩, w64 (by omega) (by omega), w64 (by omega) (by omega)]; rfl)
  (fun l y hla => by
   unfold laws_markByteS.b0
   simp only []
   rw [if_neg (by simp)]; rfl)
 rw [wsum_one] at this
 exact this
def wI (a : Item) : Nat := 3 + a.T.length
def zPr (s : Pair) : Nat := s.Key.T.length + s.Value.T.length
theorem szPair (s : Pair) (n : Int) (hs : ok_Pair s) (h0 : 0 ≤ n) (h1 : n ≤ 1048576) : Sz (laws_szPair.f s n) n (zPr s) := by
 unfold laws_szPair.f zPr
 obtain ⟨r, er, hr, hr2⟩ := szItem s.Key n hs.1 h0 h1
 rw [er, Option.bind_some]
 by_cases hn : r < 0
 · rw [if_pos (by simpa using hn)]; exact ⟨-1, rfl, by omega, fun h => by omega⟩
 · rw [if_neg (by simpa using hn)]
   obtain ⟨q, eq, hq, hq2⟩ := szItem s.Value r hs.2 (by omega) (by omega)
   rw [eq, Option.bind_some]
   by_cases hm : q < 0
   · rw [if_pos (by simpa using hm)]; exact ⟨-1, rfl, by omega, fun h => by omega⟩
   · rw [if_neg (by simpa using hm)]
     refine ⟨q, rfl, by omega, fun h => ?_⟩
     have := hr2 (by omega)
     have := hq2 h
     omega
theorem szPairS (a : List Pair) (n : Int) (hl : a.length ≤ maxLen) (he : ∀ b ∈ a, ok_Pair b) (h0 : 0 ≤ n) (h1 : n ≤ 1048576) : Sz (laws_szPairS.f a n) n (a.length + wsum zPr a) := by
 unfold laws_szPairS.f
 have hl' := hl
 simp only [maxLen] at hl'
 refine szS_gen a n hl h0 h1 (fun k x hk x0 x1 => ?_) (fun x => ?_)
 · obtain ⟨r, er, hr, hr2⟩ := szPair a[k] x (he _ (List.getElem_mem hk)) x0 x1
   refine ⟨r, hr, hr2, ?_⟩
   unfold laws_szPairS.b0
   simp only []
   rw [if_pos (by simp; omega), if_pos ⟨by omega, by omega⟩, at_nat _ k hk]
   rw [er, Option.bind_some, w64 (by omega) (by omega)]
   by_cases hn : r < 0
   · rw [if_pos (by simpa using hn), if_pos hn]
   · rw [if_neg (by simpa using hn), if_neg hn]
 · unfold laws_szPairS.b0
   simp only []
   rw [if_neg (by simp)]; rfl
def lgPr (s : Pair) : Prop := lgI s.Key ∧ lgI s.Value
theorem toPair (s : Pair) (h : lgPr s) : laws_toPair.f s = some s := by
 unfold laws_toPair.f
 rw [toItem _ h.1, Option.bind_some, toItem _ h.2]; rfl
theorem eqPair (s : Pair) (h : lgPr s) : laws_eqPair.f s s = some true := by
 unfold laws_eqPair.f
 rw [eqItem _ h.1, Option.bind_some, if_neg (by decide), eqItem _ h.2]; rfl
theorem toPairS (a : List Pair) (h : a.length ≤ 1048576) (he : ∀ b ∈ a, lgPr b) : laws_toPairS.f a = some a := by
 unfold laws_toPairS.f
 rw [if_pos ⟨by omega, by simp only [Lim]; omega⟩]
 refine toS_gen a _ (fun l k hk hl => ?_) (fun l => ?_)
 · unfold laws_toPairS.b0
   simp only []
   rw [if_pos (by simp; omega), if_pos ⟨by omega, by omega⟩, at_nat _ k hk]
   rw [toPair _ (he _ (List.getElem_mem hk)), Option.bind_some, if_pos ⟨by omega, by omega⟩, w64 (by omega) (by omega)]; rfl
 · unfold laws_toPairS.b0
   simp only []
   rw [if_neg (by simp)]; rfl
theorem eqPairS (a : List Pair) (h : a.length ≤ 1048576) (he : ∀ b ∈ a, lgPr b) : laws_eqPairS.f a a = some true := by
 unfold laws_eqPairS.f
 have := eqS_gen (body := laws_eqPairS.b0 a a) a a (fun k hk _ => by
  unfold laws_eqPairS.b0
  rw [if_pos (by simp; omega), if_pos ⟨by omega, by omega⟩, if_pos ⟨by omega, by omega⟩, at_nat _ k hk]
  rw [eqPair _ (he _ (List.getElem_mem hk)), w64 (by omega) (by omega)]
  simp) (by
  unfold laws_eqPairS.b0
  rw [if_neg (by simp)]; rfl)
 rw [this]; simp
def wPr (s : Pair) : Nat := wI s.Key + wI s.Value
theorem markPairS (a : List Pair) (x : Int) (hl : a.length ≤ 1048576) (h0 : 0 ≤ x) (h1 : x + (wsum wPr a : Int) ≤ 100000000000) : ∃ a', laws_markPairS.f a x = some (x + (wsum wPr a : Int), a') ∧ a'.length = a.length :=
 markS1 (mb := laws_markPairS.b0) (wt := wPr) (fun _ => True) (fun _ _ => True) (fun _ => trivial) a (fun _ _ => trivial) x h0 h1
  (fun l y k hk hla _ hy hy1 => by
   unfold wPr wI at hy1 ⊢
   obtain ⟨e1, em1, _⟩ := markByteS1 (l[k]).Key.T (y + 1 + 1 + 1) (by omega) (by omega)
   obtain ⟨e2, em2, _⟩ := markByteS1 (l[k]).Value.T (y + 1 + 1 + 1 + ((l[k]).Key.T.length : Int) + 1 + 1 + 1) (by omega) (by omega)
   refine ⟨Pair.mk (Item.mk y (y + 1) (FloatKind.f64.nearest (y + 1 + 1)) e1) (Item.mk (y + 1 + 1 + 1 + ((l[k]).Key.T.length : Int)) (y + 1 + 1 + 1 + ((l[k]).Key.T.length : Int) + 1) (FloatKind.f64.nearest (y + 1 + 1 + 1 + ((l[k]).Key.T.length : Int) + 1 + 1)) e2), ?_, trivial⟩
   unfold laws_markPairS.b0
   simp only []
   rw [if_pos (by simp; omega), if_pos ⟨by omega, by omega⟩, Option.bind_some, if_pos ⟨by omega, by simp; omega⟩, Option.bind_some, if_pos ⟨by omega, by simp; omega⟩, Option.bind_some, if_pos ⟨by omega, by simp; omega⟩]
   simp only [Int.toNat_natCast, at_nat l k hk, List.set_set, at_set _ _ _ hk, List.length_set]
   simp only [show IntKind.wrap .i64 (y + 1) = y + 1 from w64 (by omega) (by omega), show IntKind.wrap .i64 (y + 1 + 1) = y + 1 + 1 from w64 (by omega) (by omega), show IntKind.wrap .i64 (y + 1 + 1 + 1) = y + 1 + 1 + 1 from w64 (by omega) (by omega)]
   rw [em1, Option.bind_some, Option.bind_some]
   simp only [at_set _ _ _ hk, List.set_set, List.length_set]
   rw [if_pos ⟨by omega, by omega⟩, Option.bind_some, if_pos ⟨by omega, by simp; omega⟩, Option.bind_some, if_pos ⟨by omega, by simp; omega⟩, Option.bind_some, if_pos ⟨by omega, by simp; omega⟩]
   simp only [Int.toNat_natCast, List.set_set, at_set _ _ _ hk, List.length_set]
   simp only [show IntKind.wrap .i64 (y + 1 + 1 + 1 + ((l[k]).Key.T.length : Int) + 1) = y + 1 + 1 + 1 + ((l[k]).Key.T.length : Int) + 1 from w64 (by omega) (by omega), show IntKind.wrap .i64 (y + 1 + 1 + 1 + ((l[k]).Key.T.length : Int) + 1 + 1) = y + 1 + 1 + 1 + ((l[k]).Key.T.length : Int) + 1 + 1 from w64 (by omega) (by omega), show IntKind.wrap .i64 (y + 1 + 1 + 1 + ((l[k]).Key.T.length : Int) + 1 + 1 + 1) = y + 1 + 1 + 1 + ((l[k]).Key.T.length : Int) + 1 + 1 + 1 from w64 (by omega) (by omega)]
   rw [em2, Option.bind_some, Option.bind_some, w64 (by omega) (by omega)]
   congr 3
   congr 1
   omega)
  (fun l y hla => by
   unfold laws_markPairS.b0
   simp only []
   rw [if_neg (by simp)]; rfl)
theorem wPr_le (l : List Pair) : wsum wPr l ≤ 7 * (l.length + wsum zPr l) := wsum_le wPr zPr 7 l fun x _ => by unfold wPr wI zPr; omega
theorem lgPr_of (l : List Pair) (h : wsum zPr l ≤ 1048576) : ∀ b ∈ l, lgPr b := fun b hb => by have h1 : zPr b ≤ 1048576 := Nat.le_trans (wsum_mem zPr l b hb) h; unfold zPr at h1; unfold lgPr lgI; omega
theorem szReply (r : Reply) (n : Int) (hr : ok_Reply r) (h0 : 0 ≤ n) (h1 : n ≤ 1048576) : Sz (laws_szReply.f r n) n (r.Value.T.length + (r.Rows.length + wsum zPr r.Rows)) := by
 unfold laws_szReply.f
 obtain ⟨q, eq, hq, hq2⟩ := szItem r.Value n hr.2.2.2.2.1 h0 h1
 rw [eq, Option.bind_some]
 by_cases hn : q < 0
 · rw [if_pos (by simpa using hn)]; exact ⟨-1, rfl, by omega, fun h => by omega⟩
 · rw [if_neg (by simpa using hn)]
   obtain ⟨p, ep, hp, hp2⟩ := szPairS r.Rows q hr.2.2.2.2.2.1.1 hr.2.2.2.2.2.1.2 (by omega) (by omega)
   rw [ep, Option.bind_some]
   by_cases hm : p < 0
   · rw [if_pos (by simpa using hm)]; exact ⟨-1, rfl, by omega, fun h => by omega⟩
   · rw [if_neg (by simpa using hm)]
     refine ⟨p, rfl, by omega, fun h => ?_⟩
     have := hq2 (by omega)
     have := hp2 h
     omega
theorem toReply (r : Reply) (h1 : r.Value.T.length ≤ 1048576) (h2 : r.Rows.length ≤ 1048576) (h3 : ∀ b ∈ r.Rows, lgPr b) : laws_toReply.f r = some r := by
 unfold laws_toReply.f
 rw [toItem _ h1, Option.bind_some, toPairS _ h2 h3]; rfl
theorem eqReply (r : Reply) (hF : laws_sameFloat.f r.Total r.Total = some true) (h1 : r.Value.T.length ≤ 1048576) (h2 : r.Rows.length ≤ 1048576) (h3 : ∀ b ∈ r.Rows, lgPr b) : laws_eqReply.f r r = some true := by
 unfold laws_eqReply.f
 rw [if_neg (by simp), if_neg (by simp), if_neg (by simp), if_neg (by simp), eqItem _ h1, Option.bind_some, if_neg (by decide), eqPairS _ h2 h3, Option.bind_some, if_neg (by decide), hF]; rfl
theorem markReply (r : Reply) (h : r.Value.T.length + (r.Rows.length + wsum zPr r.Rows) ≤ 1048576) : ∃ b, laws_markReply.f r 1 = some (1 + (r.Value.T.length : Int) + (wsum wPr r.Rows : Int), b) := by
 unfold laws_markReply.f
 obtain ⟨e, em, _, _⟩ := markByteS r.Value.T 1 (by omega) (by omega)
 have hm : laws_markItem.f r.Value 1 = some (1 + (r.Value.T.length : Int), e) := by unfold laws_markItem.f; rw [em]; rfl
 have hw := wPr_le r.Rows
 obtain ⟨e2, em2, _⟩ := markPairS r.Rows (1 + (r.Value.T.length : Int)) (by omega) (by omega) (by omega)
 rw [hm, Option.bind_some]
 simp only [em2, Option.bind_some]
 exact ⟨_, rfl⟩
end Go.Proofs.YtiofnjnnocjbhaaDoor
