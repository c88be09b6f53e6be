import Derived.Test.YtlpbggnpiogioaaGreatG2
import Derived.Test.YtlpbggnpiogioaaGreatGs
set_option linter.unusedVariables false
set_option linter.unusedSimpArgs false
namespace Go.Proofs.YtlpbggnpiogioaaGreat
open Go V
theorem w64 {n : Int} (h0 : -9223372036854775808 ≤ n) (h1 : n ≤ 9223372036854775807) : IntKind.i64.wrap n = n := by
 rw [IntKind.wrap_i64]; omega
theorem u8_of {n : Int} (h : InK .u8 n) : 0 ≤ n ∧ n ≤ 255 := by
 simpa [InK, IntKind.min, IntKind.max, IntKind.signed, IntKind.bits] using h
theorem fdiv_nat (a b : Nat) : Int.fdiv (a : Int) (b : Int) = ((a / b : Nat) : Int) := by
 rw [Int.fdiv_eq_ediv_of_nonneg _ (by omega)]; rfl
theorem ishr_nat (k : IntKind) (a b : Nat) (h : b ≤ k.bits) : ishr k (a : Int) (b : Int) = ((a / 2 ^ b : Nat) : Int) := by
 unfold ishr
 rw [Int.toNat_natCast, Nat.min_eq_left h]
 have : (2 : Int) ^ b = ((2 ^ b : Nat) : Int) := by simp
 rw [this, fdiv_nat]
theorem ofInt_nat (w a : Nat) (h : a < 2 ^ w) : (BitVec.ofInt w (a : Int)).toNat = a := by
 rw [BitVec.ofInt_natCast, BitVec.toNat_ofNat, Nat.mod_eq_of_lt h]
theorem wu64 (a : Nat) (h : a < 18446744073709551616) : IntKind.wrap .u64 ((a : Nat) : Int) = (a : Int) := by rw [IntKind.wrap_u64]; omega
theorem ior_u64 (a b : Nat) (ha : a < 18446744073709551616) (hb : b < 18446744073709551616) : ior .u64 (a : Int) (b : Int) = ((a ||| b : Nat) : Int) := by
 unfold ior
 rw [BitVec.toNat_or, ofInt_nat _ a ha, ofInt_nat _ b hb]
 exact wu64 _ (Nat.or_lt_two_pow (n := 64) ha hb)
theorem ixor_u64 (a b : Nat) (ha : a < 18446744073709551616) (hb : b < 18446744073709551616) : ixor .u64 (a : Int) (b : Int) = ((a ^^^ b : Nat) : Int) := by
 unfold ixor
 rw [BitVec.toNat_xor, ofInt_nat _ a ha, ofInt_nat _ b hb]
 exact wu64 _ (Nat.xor_lt_two_pow (n := 64) ha hb)
theorem or_add (k n b : Nat) (h : b < 2 ^ k) : (n * 2 ^ k) ||| b = n * 2 ^ k + b := by
 have := Nat.two_pow_add_eq_or_of_lt (i := k) (b := b) h n
 rw [Nat.mul_comm n]
 exact this.symm
def rin (a b c : Int) : Bool := decide (b ≤ a) && decide (a ≤ c)
theorem rin_iff {a b c : Int} : rin a b c = true ↔ b ≤ a ∧ a ≤ c := by simp [rin]
theorem iter_for {S O : Type} {body : S → Option (S ⊕ O)} (n : Nat) (st : Nat → S) (o : O) (h : ∀ k, k < n → body (st k) = some (.inl (st (k + 1)))) (hn : body (st n) = some (.inr o)) : iter body (st 0) = some o := by
 have key : ∀ m, m ≤ n → iter body (st (n - m)) = some o := by
  intro m
  induction m with
  | zero => intro _; rw [iter_eq, Nat.sub_zero, hn]; rfl
  | succ m ih =>
   intro hm
   rw [iter_eq, h (n - (m + 1)) (by omega)]
   simp only [Option.bind_some]
   rw [show n - (m + 1) + 1 = n - m by omega]
   exact ih (by omega)
 have := key n (Nat.le_refl _)
 rwa [Nat.sub_self] at this
theorem iter_l {S O : Type} {body : S → Option (S ⊕ O)} {s s' : S} (h : body s = some (.inl s')) : iter body s = iter body s' := by rw [iter_eq, h]; rfl
theorem iter_r {S O : Type} {body : S → Option (S ⊕ O)} {s : S} {o : O} (h : body s = some (.inr o)) : iter body s = some o := by rw [iter_eq, h]; rfl
theorem iter_all {body : Int → Option (Int ⊕ Bool)} (n : Nat) (t : Nat → Bool) (h : ∀ k, k < n → body k = if t k = true then some (.inl ((k : Int) + 1)) else some (.inr false)) (hn : body n = some (.inr true)) : iter body 0 = some ((List.range n).all t) := by
 have key : ∀ m, m ≤ n → iter body ((n - m : Nat) : Int) = some ((List.range' (n - m) m).all t) := by
  intro m
  induction m with
  | zero => intro _; rw [iter_eq, Nat.sub_zero, hn]; rfl
  | succ m ih =>
   intro hm
   rw [iter_eq, h (n - (m + 1)) (by omega), List.range'_succ, List.all_cons]
   cases ht : t (n - (m + 1)) with
   | false => simp
   | true =>
    simp only [if_true, Option.bind_some, Bool.true_and]
    have e := ih (by omega)
    rw [show n - (m + 1) + 1 = n - m by omega, ← e]
    congr 1
    omega
 have := key n (Nat.le_refl _)
 rw [Nat.sub_self] at this
 rw [List.range_eq_range']
 exact this
theorem at_nat {α : Type} [Inhabited α] (xs : List α) (k : Nat) (h : k < xs.length) : at_ xs (k : Int) = xs[k] := by
 rw [at_eq xs k (by simpa using h)]; simp
theorem at_set {α : Type} [Inhabited α] (l : List α) (i : Nat) (v : α) (h : i < l.length) : at_ (l.set i v) (i : Int) = v := by
 rw [at_nat _ _ (by rw [List.length_set]; exact h)]; simp
theorem all_eq {α : Type} [DecidableEq α] (a b : List α) (h : a.length = b.length) : ((List.range a.length).all fun k => decide (a[k]? = b[k]?)) = decide (a = b) := by
  by_cases e : a = b
  · subst e; simp
  · have : ¬ ∀ k, k < a.length → a[k]? = b[k]? := fun hk => e (List.ext_getElem? fun k => by
      by_cases hl : k < a.length
      · exact hk k hl
      · rw [List.getElem?_eq_none (by omega), List.getElem?_eq_none (by omega)])
    simp only [e, decide_false]
    cases hb : (List.range a.length).all fun k => decide (a[k]? = b[k]?) with
    | false => rfl
    | true =>
      exact absurd (fun k hk => by
        have := List.all_eq_true.1 hb k (List.mem_range.2 hk)
        simpa using this) this
theorem eqS_gen {α : Type} [DecidableEq α] [Inhabited α] {body : Int → Option (Int ⊕ Bool)} (a b : List α) (hb : ∀ k : Nat, (h1 : k < a.length) → (h2 : k < b.length) → body (k : Int) = if decide (a[k] = b[k]) = true then some (.inl ((k : Int) + 1)) else some (.inr false))
    (hn : body (a.length : Int) = some (.inr true)) : (if ((a.length : Int) != (b.length : Int)) = true then some false else iter body 0) = some (decide (a = b)) := by
  by_cases hl : a.length = b.length
  · have hne : ((a.length : Int) != (b.length : Int)) = false := by simp [hl]
    rw [hne, if_neg (by decide), ← all_eq a b hl]
    refine iter_all a.length _ (fun k hk => ?_) hn
    rw [hb k hk (by omega), List.getElem?_eq_getElem hk, List.getElem?_eq_getElem (by omega)]
    simp
  · have hne : ((a.length : Int) != (b.length : Int)) = true := by simp; omega
    rw [hne, if_pos rfl]
    have : a ≠ b := fun e => hl (by rw [e])
    simp [this]
theorem toS_gen {α : Type} {body : List α × Int → Option ((List α × Int) ⊕ List α)} (a : List α) (z : α) (hb : ∀ (l : List α) (k : Nat) (h1 : k < a.length), l.length = a.length → body (l, (k : Int)) = some (.inl (l.set k a[k], (k : Int) + 1)))
    (hn : ∀ l : List α, body (l, (a.length : Int)) = some (.inr l)) : iter body (List.replicate ((a.length : Int)).toNat z, (0 : Int)) = some a := by
  have hst : (List.replicate ((a.length : Int)).toNat z, (0 : Int)) = (a.take 0 ++ List.replicate (a.length - 0) z, ((0 : Nat) : Int)) := by simp
  rw [hst]
  have e : (some a : Option (List α)) = some (a.take a.length ++ List.replicate (a.length - a.length) z) := by simp
  rw [e]
  refine iter_for a.length (fun k => (a.take k ++ List.replicate (a.length - k) z, (k : Int))) _ (fun k hk => ?_) (hn _)
  rw [hb _ k hk (by rw [List.length_append, List.length_take, List.length_replicate]; omega)]
  have hset : (a.take k ++ List.replicate (a.length - k) z).set k a[k] = a.take (k + 1) ++ List.replicate (a.length - (k + 1)) z := by
    rw [List.set_append, if_neg (by simp; omega)]
    have : (a.take k).length = k := by simp; omega
    rw [this, Nat.sub_self, show a.length - k = (a.length - (k + 1)) + 1 by omega, List.replicate_succ, List.set_cons_zero, List.take_succ_eq_append_getElem hk, List.append_assoc]
    rfl
  rw [hset]
  simp
def wsum {α : Type} (wt : α → Nat) (l : List α) : Nat := (l.map wt).sum
theorem wsum_cons {α : Type} (wt : α → Nat) (x : α) (l : List α) : wsum wt (x :: l) = wt x + wsum wt l := rfl
theorem wsum_mem {α : Type} (wt : α → Nat) (l : List α) : ∀ x ∈ l, wt x ≤ wsum wt l := by
 intro x hx
 induction l with
 | nil => cases hx
 | cons y l ih =>
  rw [wsum_cons]
  rcases List.mem_cons.1 hx with rfl | hx
  · omega
  · have := ih hx; omega
theorem wsum_le {α : Type} (w z : α → Nat) (c : Nat) (l : List α) (h : ∀ x ∈ l, w x ≤ c * (z x + 1)) : wsum w l ≤ c * (l.length + wsum z l) := by
 induction l with
 | nil => simp [wsum]
 | cons y l ih =>
  rw [wsum_cons, wsum_cons, List.length_cons]
  have h1 := h y (by simp)
  have h2 := ih fun x hx => h x (by simp [hx])
  have e : c * (l.length + 1 + (z y + wsum z l)) = c * (z y + 1) + c * (l.length + wsum z l) := by rw [← Nat.mul_add]; congr 1; omega
  omega
def Sz (f : Option Int) (n : Int) (z : Nat) : Prop := ∃ r, f = some r ∧ r ≤ n ∧ (0 ≤ r → r = n - (z : Int))
theorem szS_gen {α : Type} {body : Int × Int → Option ((Int × Int) ⊕ Int)} {z : α → Nat} (a : List α) (n : Int) (hl : a.length ≤ maxLen) (h0 : 0 ≤ n) (h1 : n ≤ 1048576)
    (hb : ∀ (k : Nat) (x : Int) (hk : k < a.length), 0 ≤ x → x ≤ 1048576 → ∃ r, r ≤ x ∧ (0 ≤ r → r = x - (z a[k] : Int)) ∧ body (x, (k : Int)) = if r < 0 then some (.inr (-1)) else some (.inl (r, (k : Int) + 1)))
    (hn : ∀ x, body (x, (a.length : Int)) = some (.inr x)) :
    Sz (if (decide ((IntKind.wrap .i64 (n - (a.length : Int))) < (0 : Int))) = true then (some (-1 : Int)) else iter body ((IntKind.wrap .i64 (n - (a.length : Int))), (0 : Int))) n (a.length + wsum z a) := by
  simp only [maxLen] at hl
  rw [w64 (by omega) (by omega)]
  by_cases hneg : n - (a.length : Int) < 0
  · rw [if_pos (by simpa using hneg)]
    exact ⟨-1, rfl, by omega, fun h => by omega⟩
  · rw [if_neg (by simpa using hneg)]
    have key : ∀ (m i : Nat) (x : Int), i + m = a.length → 0 ≤ x → x ≤ 1048576 → ∃ r, iter body (x, (i : Int)) = some r ∧ r ≤ x ∧ (0 ≤ r → r = x - (wsum z (a.drop i) : Int)) := by
      intro m
      induction m with
      | zero =>
        intro i x hi hx0 hx1
        have : i = a.length := by omega
        subst this
        refine ⟨x, iter_r (hn x), by omega, fun _ => ?_⟩
        rw [List.drop_length]; simp [wsum]
      | succ m ih =>
        intro i x hi hx0 hx1
        have hk : i < a.length := by omega
        obtain ⟨r, hr, hr2, hbb⟩ := hb i x hk hx0 hx1
        by_cases hrn : r < 0
        · rw [if_pos hrn] at hbb
          exact ⟨-1, iter_r hbb, by omega, fun h => by omega⟩
        · rw [if_neg hrn] at hbb
          rw [iter_l hbb]
          have e : (i : Int) + 1 = ((i + 1 : Nat) : Int) := by omega
          rw [e]
          obtain ⟨q, eq, hq, hq2⟩ := ih (i + 1) r (by omega) (by omega) (by omega)
          refine ⟨q, eq, by omega, fun h => ?_⟩
          have := hq2 h
          have := hr2 (by omega)
          rw [List.drop_eq_getElem_cons hk, wsum_cons]
          omega
    obtain ⟨r, er, hr, hr2⟩ := key a.length 0 (n - (a.length : Int)) (by omega) (by omega) (by omega)
    refine ⟨r, er, by omega, fun h => ?_⟩
    have := hr2 h
    rw [List.drop_zero] at this
    omega
theorem markS_gen {α : Type} {mb : List α × Int × Int → Option ((List α × Int × Int) ⊕ (Int × List α))} {hb : List α → Int × Int → Option ((Int × Int) ⊕ Int)} {wt : α → Nat} (HE : α → Int → Nat → Prop) (a : List α) (x : Int) (h0 : 0 ≤ x) (h1 : x + (wsum wt a : Int) ≤ 100000000000)
    (hm : ∀ (l : List α) (x : Int) (k : Nat) (hk : k < l.length), l.length = a.length → 0 ≤ x → x + (wt l[k] : Int) ≤ 100000000000 → ∃ e', mb (l, x, (k : Int)) = some (.inl (l.set k e', x + (wt l[k] : Int), (k : Int) + 1)) ∧ HE e' x (wt l[k]))
    (hmn : ∀ l x, l.length = a.length → mb (l, x, (l.length : Int)) = some (.inr (x, l)))
    (hh : ∀ (l : List α) (x : Int) (k n : Nat) (hk : k < l.length), l.length = a.length → HE l[k] x n → 0 ≤ x → x + (n : Int) ≤ 100000000000 → hb l (x, (k : Int)) = some (.inl (x + (n : Int), (k : Int) + 1)))
    (hhn : ∀ l x, l.length = a.length → hb l (x, (l.length : Int)) = some (.inr x)) :
    ∃ a', iter mb (a, x, (0 : Int)) = some (x + (wsum wt a : Int), a') ∧ a'.length = a.length ∧ iter (hb a') (x, (0 : Int)) = some (x + (wsum wt a : Int)) := by
  have key : ∀ (m i : Nat) (x : Int) (l : List α), i + m = l.length → l.length = a.length → 0 ≤ x → x + (wsum wt (l.drop i) : Int) ≤ 100000000000 →
      ∃ l', iter mb (l, x, (i : Int)) = some (x + (wsum wt (l.drop i) : Int), l') ∧ l'.length = l.length ∧ (∀ j, j < i → l'[j]? = l[j]?) ∧ iter (hb l') (x, (i : Int)) = some (x + (wsum wt (l.drop i) : Int)) := by
    intro m
    induction m with
    | zero =>
      intro i x l hi hla hx0 hx1
      have : i = l.length := by omega
      subst this
      rw [List.drop_length]
      refine ⟨l, ?_, rfl, fun _ _ => rfl, ?_⟩
      · rw [iter_r (hmn l x hla)]; simp [wsum]
      · rw [iter_r (hhn l x hla)]; simp [wsum]
    | succ m ih =>
      intro i x l hi hla hx0 hx1
      have hk : i < l.length := by omega
      have hd : l.drop i = l[i] :: l.drop (i + 1) := List.drop_eq_getElem_cons hk
      rw [hd, wsum_cons] at hx1 ⊢
      obtain ⟨e', hmb, hE⟩ := hm l x i hk hla hx0 (by omega)
      have e : (i : Int) + 1 = ((i + 1 : Nat) : Int) := by omega
      have hds : (l.set i e').drop (i + 1) = l.drop (i + 1) := List.drop_set_of_lt (by omega)
      obtain ⟨l', h1', h2', h3', h4'⟩ := ih (i + 1) (x + (wt l[i] : Int)) (l.set i e') (by rw [List.length_set]; omega) (by rw [List.length_set]; exact hla) (by omega) (by rw [hds]; omega)
      rw [hds] at h1' h4'
      rw [List.length_set] at h2'
      have hi' : i < l'.length := by omega
      have hli : l'[i] = e' := by
        have := h3' i (by omega)
        rw [List.getElem?_eq_getElem hi', List.getElem?_set_self hk] at this
        exact Option.some.inj this
      have hsum : x + (wt l[i] : Int) + (wsum wt (l.drop (i + 1)) : Int) = x + ((wt l[i] + wsum wt (l.drop (i + 1)) : Nat) : Int) := by omega
      refine ⟨l', ?_, h2', fun j hj => ?_, ?_⟩
      · rw [iter_l hmb, e, h1', hsum]
      · rw [h3' j (by omega), List.getElem?_set_ne (by omega)]
      · rw [iter_l (hh l' x i (wt l[i]) hi' (by omega) (by rw [hli]; exact hE) hx0 (by omega)), e, h4', hsum]
  obtain ⟨l', h1', h2', _, h4'⟩ := key a.length 0 x a (by omega) rfl h0 (by rw [List.drop_zero]; exact h1)
  rw [List.drop_zero] at h1' h4'
  exact ⟨l', h1', h2', h4'⟩
end Go.Proofs.YtlpbggnpiogioaaGreat
set_option linter.unusedVariables false
set_option linter.unusedSimpArgs false
set_option linter.unusedSectionVars false
namespace Go.Proofs.YtlpbggnpiogioaaGreat
open Go V Ieee
theorem iter_pass {S O : Type} {body : S → Option (S ⊕ O)} {s : S} {m : Option O} (h : body s = m.bind fun o => some (Sum.inr o)) : iter body s = m := by
 rw [iter_eq, h]
 cases m <;> rfl
def wd (M e : Nat) : Nat := D.word false (e * 4503599627370496 + M)
theorem wd_eq (M e : Nat) : wd M e = e * 4503599627370496 + M := rfl
theorem wd_v {M e : Nat} (h1 : M < 9007199254740992) (h2 : e = 0 ∨ 4503599627370496 ≤ M) (h3 : e ≤ 2045) : IsV (wd M e) false (M * pw e) := ⟨M, e, h1, h2, h3, rfl, rfl⟩
theorem rep_of {M : Nat} (h1 : M < 9007199254740992) : ∀ e, e ≤ 2045 → Rep (M * pw e) := by
 intro e
 induction e generalizing M with
 | zero => intro _; exact ⟨M, 0, h1, .inl rfl, by omega, rfl⟩
 | succ e ih =>
  intro he
  by_cases hm : 4503599627370496 ≤ M
  · exact ⟨M, e + 1, h1, .inr hm, he, rfl⟩
  · have := ih (M := 2 * M) (by omega) (by omega)
    rwa [show 2 * M * pw e = M * pw (e + 1) by rw [pw_succ, Nat.mul_comm 2 M, Nat.mul_assoc, Nat.mul_comm 2]] at this
theorem v0 : IsV 0 false 0 := ⟨0, 0, by decide, .inl rfl, by omega, by simp, rfl⟩
theorem v1 : IsV 4607182418800017408 false (4503599627370496 * pw 1022) := ⟨4503599627370496, 1022, by decide, .inr (Nat.le_refl _), by omega, rfl, rfl⟩
theorem v2 : IsV 4611686018427387904 false (4503599627370496 * pw 1023) := ⟨4503599627370496, 1023, by decide, .inr (Nat.le_refl _), by omega, rfl, rfl⟩
theorem vM : IsV 9218868437227405311 false (9007199254740991 * pw 2045) := ⟨9007199254740991, 2045, by decide, .inr (by decide), by omega, rfl, rfl⟩
section
variable {a b u v : Nat} (ha : IsV a false u) (hb : IsV b false v)
include ha hb
theorem cmp_v : fcmp .f64 a b = some (compare u v) := by
 have h := order_v ha hb
 rw [signed_f, signed_f, Nat.pow_zero, Nat.mul_one, Nat.mul_one] at h
 show D.order a b = _
 rw [h]
 show some (compareOfLessAndEq (u : Int) (v : Int)) = some (compareOfLessAndEq u v)
 unfold compareOfLessAndEq
 by_cases h1 : u < v
 · rw [if_pos h1, if_pos (by omega)]
 · rw [if_neg h1, if_neg (by omega)]
   by_cases h2 : u = v
   · rw [if_pos h2, if_pos (by omega)]
   · rw [if_neg h2, if_neg (by omega)]
theorem cmp_lt : (fcmp .f64 a b == some .lt) = decide (u < v) := by
 rw [cmp_v ha hb]
 by_cases h : u < v
 · simp [Nat.compare_eq_lt.2 h, h]
 · have : compare u v ≠ .lt := fun hc => h (Nat.compare_eq_lt.1 hc)
   simp [this, h]
theorem cmp_gt : (fcmp .f64 a b == some .gt) = decide (v < u) := by
 rw [cmp_v ha hb]
 by_cases h : v < u
 · simp [Nat.compare_eq_gt.2 h, h]
 · have : compare u v ≠ .gt := fun hc => h (Nat.compare_eq_gt.1 hc)
   simp [this, h]
theorem cmp_eq : (fcmp .f64 a b == some .eq) = decide (u = v) := by
 rw [cmp_v ha hb]
 by_cases h : u = v
 · simp [Nat.compare_eq_eq.2 h, h]
 · have : compare u v ≠ .eq := fun hc => h (Nat.compare_eq_eq.1 hc)
   simp [this, h]
end
theorem far_half {a u : Nat} (h : IsV a false (u * 2)) (hu : Rep u) : IsV (far .quo a 4611686018427387904) false u := by
 obtain ⟨w', hw, hv⟩ := div_pow (j := 1) c_two (by simpa [pw] using h) hu
 have : far .quo a 4611686018427387904 = w' := by show (D.div a _).getD _ = _; rw [hw]; rfl
 rwa [this]
theorem far_dbl {a u : Nat} (h : IsV a false u) (hu : Rep (u * 2)) : IsV (far .mul a 4611686018427387904) false (u * 2) := by
 obtain ⟨w', hw, hv⟩ := mul_pow_ (j := 1) c_two h (by simpa using hu)
 have : far .mul a 4611686018427387904 = w' := by show (D.mul a _).getD _ = _; rw [hw]; rfl
 rw [this]; simpa using hv
theorem far_big {a u : Nat} (h : IsV a false u) (hu : Rep (u * pw 52)) : IsV (far .mul a 4841369599423283200) false (u * pw 52) := by
 obtain ⟨w', hw, hv⟩ := mul_pow_ (j := 52) c_big h hu
 have : far .mul a 4841369599423283200 = w' := by show (D.mul a _).getD _ = _; rw [hw]; rfl
 rwa [this]
theorem far_sub1 {a v : Nat} (h : IsV a false (U1 + v)) (hv : Rep v) : IsV (far .sub a 4607182418800017408) false v := by
 obtain ⟨w', hw, hv⟩ := sub_one h hv
 have : far .sub a 4607182418800017408 = w' := by show (D.sub a _).getD _ = _; rw [hw]; rfl
 rwa [this]
theorem f2i_v {a n : Nat} (h : IsV a false (n * pw 1074)) (hn : n < 18446744073709551616) : floatToIntVal .f64 a .u64 = some (n : Int) := by
 unfold floatToIntVal
 have := toInt_p h
 show (match (D.read a).toInt .zero with | some n => _ | none => _) = _
 rw [this]
 simp only []
 rw [if_pos]
 simp [IntKind.min, IntKind.max, IntKind.signed, IntKind.bits]; omega
section
variable (S E : Nat) (A : Nat)
theorem bits_num (s E K : Nat) (hs : s ≤ 1) (hE : E < 2048) (hK : K < 4503599627370496) : ior .u64 (ior .u64 ((s * 9223372036854775808 : Nat) : Int) (ishl .u64 (IntKind.wrap .u64 (IntKind.wrap .i64 (E : Int))) 52)) (K : Int) = ((s * 9223372036854775808 + E * 4503599627370496 + K : Nat) : Int) := by
 rw [w64 (by omega) (by omega), wu64 E (by omega)]
 have h1 : ishl .u64 (E : Int) 52 = ((E * 4503599627370496 : Nat) : Int) := by
  unfold ishl
  show IntKind.wrap .u64 ((E : Int) * 2 ^ 52) = _
  have : (E : Int) * 2 ^ 52 = ((E * 4503599627370496 : Nat) : Int) := by rw [show (2 : Int) ^ 52 = 4503599627370496 by decide]; omega
  rw [this, wu64 _ (by omega)]
 rw [h1, ior_u64 _ _ (by omega) (by omega)]
 have h2 : s * 9223372036854775808 ||| E * 4503599627370496 = s * 9223372036854775808 + E * 4503599627370496 := by
  have := or_add 63 s (E * 4503599627370496) (by show _ < 9223372036854775808; omega)
  exact this
 rw [h2, ior_u64 _ _ (by omega) (by omega)]
 have h3 := or_add 52 (s * 2048 + E) K (by show _ < 4503599627370496; omega)
 have e : (s * 2048 + E) * 2 ^ 52 = s * 9223372036854775808 + E * 4503599627370496 := by
  rw [show (2 : Nat) ^ 52 = 4503599627370496 by decide]; omega
 rw [e] at h3
 rw [h3]
theorem bits_sub (s K : Nat) (hs : s ≤ 1) (hK : K < 4503599627370496) : ior .u64 ((s * 9223372036854775808 : Nat) : Int) (K : Int) = ((s * 9223372036854775808 + K : Nat) : Int) := by
 rw [ior_u64 _ _ (by omega) (by omega)]
 have h3 := or_add 63 s K (by show _ < 9223372036854775808; omega)
 rw [show (s * 2 ^ 63 : Nat) = s * 9223372036854775808 from rfl] at h3
 rw [h3]
end
theorem p_lt {M e : Nat} (k k' : Nat) (h : M < 9007199254740992) (he : e ≤ k) (hk : k' = k + 1) : M * pw e < 4503599627370496 * pw k' := by
 have h1 : M * pw e < 9007199254740992 * pw e := Nat.mul_lt_mul_of_pos_right h (pw_pos e)
 have h2 : 9007199254740992 * pw e ≤ 9007199254740992 * pw k := Nat.mul_le_mul_left _ (pw_le he)
 have h3 : 4503599627370496 * (pw k * 2) = 9007199254740992 * pw k := by
  generalize pw k = q
  omega
 rw [hk, pw_succ, h3]
 exact Nat.lt_of_lt_of_le h1 h2
theorem p_ge {M e k : Nat} (h : 4503599627370496 ≤ M) (he : k ≤ e) : 4503599627370496 * pw k ≤ M * pw e :=
 Nat.mul_le_mul h (pw_le he)
theorem fb_one (s M : Nat) (A : Nat) (c : Int) (E : Nat) (hs : s ≤ 1) (h1 : M < 9007199254740992) (h2 : 4503599627370496 ≤ M) (hE : E < 2048) (hc : c + 1023 = (E : Int)) : iter (spec_FloatBits.b1 (((s * 9223372036854775808 : Nat) : Int), A)) (wd M 1022, c) = some ((s * 9223372036854775808 + E * 4503599627370496 + (M - 4503599627370496) : Nat) : Int) := by
 have hv := wd_v h1 (.inr h2) (show 1022 ≤ 2045 by omega)
 have hlt := cmp_lt hv v1
 have hnl : ¬ M * pw 1022 < 4503599627370496 * pw 1022 := Nat.not_lt.2 (p_ge h2 (Nat.le_refl _))
 rw [decide_eq_false hnl] at hlt
 have hsum : M * pw 1022 = U1 + (M - 4503599627370496) * pw 1022 := by
  rw [U1_eq, ← Nat.add_mul, show 4503599627370496 + (M - 4503599627370496) = M by omega]
 have hK : M - 4503599627370496 < 9007199254740992 := by omega
 rw [hsum] at hv
 have hs1 := far_sub1 hv (rep_of hK 1022 (by omega))
 have hb := far_big hs1 (by rw [Nat.mul_assoc, ← pw_add]; exact rep_of hK _ (by omega))
 rw [Nat.mul_assoc, ← pw_add] at hb
 have hi := f2i_v hb (by omega)
 refine iter_r ?_
 unfold spec_FloatBits.b1
 simp only [hlt, hi, Bool.false_and, Bool.false_eq_true, if_false, Option.bind_some]
 rw [hc, bits_num s E _ hs hE (by omega)]
theorem fb_up (s M : Nat) (A : Nat) (hs : s ≤ 1) (h1 : M < 9007199254740992) (h2 : 4503599627370496 ≤ M) : ∀ (j i : Nat), i + j ≤ 1022 → iter (spec_FloatBits.b1 (((s * 9223372036854775808 : Nat) : Int), A)) (wd M (1022 - j), -(i : Int)) = some ((s * 9223372036854775808 + (1023 - i - j) * 4503599627370496 + (M - 4503599627370496) : Nat) : Int) := by
 intro j
 induction j with
 | zero => intro i hi; exact fb_one s M A _ _ hs h1 h2 (by omega) (by omega)
 | succ j ih =>
  intro i hi
  have hv := wd_v h1 (.inr h2) (show 1022 - (j + 1) ≤ 2045 by omega)
  have hlt := cmp_lt hv v1
  have hl : M * pw (1022 - (j + 1)) < 4503599627370496 * pw 1022 := p_lt 1021 1022 h1 (by omega) rfl
  rw [decide_eq_true hl] at hlt
  have he : M * pw (1022 - (j + 1)) * 2 = M * pw (1022 - j) := by
   rw [Nat.mul_assoc, ← pw_succ, show 1022 - (j + 1) + 1 = 1022 - j by omega]
  have hd := far_dbl hv (by rw [he]; exact rep_of h1 _ (by omega))
  rw [he] at hd
  have hw := hd.eq (wd_v h1 (.inr h2) (show 1022 - j ≤ 2045 by omega))
  have hstep : spec_FloatBits.b1 (((s * 9223372036854775808 : Nat) : Int), A) (wd M (1022 - (j + 1)), -(i : Int)) = some (.inl (wd M (1022 - j), -((i + 1 : Nat) : Int))) := by
   unfold spec_FloatBits.b1
   simp only [hlt, Bool.true_and]
   rw [if_pos (by simp; omega), hw, w64 (by omega) (by omega), show -(i : Int) - 1 = -((i + 1 : Nat) : Int) by omega]
  rw [iter_l hstep, ih (i + 1) (by omega), show 1023 - (i + 1) - j = 1023 - i - (j + 1) by omega]
theorem fb_sub (s M : Nat) (A : Nat) (hs : s ≤ 1) (h1 : M < 4503599627370496) : ∀ (j i a : Nat), i + j = 1022 → IsV a false (M * pw i) → iter (spec_FloatBits.b1 (((s * 9223372036854775808 : Nat) : Int), A)) (a, -(i : Int)) = some ((s * 9223372036854775808 + M : Nat) : Int) := by
 intro j
 induction j with
 | zero =>
  intro i a hi hv
  have hlt := cmp_lt hv v1
  have hl : M * pw i < 4503599627370496 * pw 1022 := by
   rw [show i = 1022 by omega]
   exact Nat.mul_lt_mul_of_pos_right h1 (pw_pos _)
  rw [decide_eq_true hl] at hlt
  have hb := far_big hv (by rw [Nat.mul_assoc, ← pw_add]; exact rep_of (by omega) _ (by omega))
  rw [Nat.mul_assoc, ← pw_add, show i + 52 = 1074 by omega] at hb
  have hi2 := f2i_v hb (by omega)
  refine iter_r ?_
  unfold spec_FloatBits.b1
  have hc : decide (-(i : Int) > -1022) = false := by simp; omega
  simp only [hlt, hc, hi2, Bool.true_and, Bool.false_eq_true, if_false, if_true, Option.bind_some]
  rw [bits_sub s M hs h1]
 | succ j ih =>
  intro i a hi hv
  have hlt := cmp_lt hv v1
  have hl : M * pw i < 4503599627370496 * pw 1022 := p_lt 1021 1022 (by omega) (by omega) rfl
  rw [decide_eq_true hl] at hlt
  have he : M * pw i * 2 = M * pw (i + 1) := by rw [Nat.mul_assoc, ← pw_succ]
  have hd := far_dbl hv (by rw [he]; exact rep_of (by omega) _ (by omega))
  rw [he] at hd
  have hstep : spec_FloatBits.b1 (((s * 9223372036854775808 : Nat) : Int), A) (a, -(i : Int)) = some (.inl (far .mul a 4611686018427387904, -((i + 1 : Nat) : Int))) := by
   unfold spec_FloatBits.b1
   simp only [hlt, Bool.true_and]
   rw [if_pos (by simp; omega), w64 (by omega) (by omega), show -(i : Int) - 1 = -((i + 1 : Nat) : Int) by omega]
  rw [iter_l hstep, ih (i + 1) _ (by omega) hd]
theorem fb_pass {y : Int × Nat} {a u : Nat} {c : Int} (hv : IsV a false u) (hu : u < 4503599627370496 * pw 1023) : iter (spec_FloatBits.b0 y) (a, c) = iter (spec_FloatBits.b1 y) (a, c) := by
 refine iter_pass ?_
 unfold spec_FloatBits.b0
 have h1 := cmp_gt hv v2
 have h2 := cmp_eq hv v2
 rw [decide_eq_false (by omega)] at h1
 rw [decide_eq_false (by omega)] at h2
 simp only [h1, h2, Bool.or_self, Bool.false_eq_true, if_false]
theorem fb_down (y : Int × Nat) (M : Nat) (h1 : M < 9007199254740992) (h2 : 4503599627370496 ≤ M) : ∀ (n e : Nat) (c : Int), e = 1022 + n → e ≤ 2045 → 0 ≤ c → c ≤ 10000 - n → iter (spec_FloatBits.b0 y) (wd M e, c) = iter (spec_FloatBits.b1 y) (wd M 1022, c + n) := by
 intro n
 induction n with
 | zero =>
  intro e c he _ _ _
  have : e = 1022 := by omega
  subst this
  rw [fb_pass (wd_v h1 (.inr h2) (by omega)) (p_lt 1022 1023 h1 (by omega) rfl)]
  simp
 | succ n ih =>
  intro e c he he2 hc0 hc1
  obtain ⟨e, rfl⟩ : ∃ e', e = e' + 1 := ⟨e - 1, by omega⟩
  have hv := wd_v h1 (.inr h2) he2
  have g1 := cmp_gt hv v2
  have g2 := cmp_eq hv v2
  have hge : 4503599627370496 * pw 1023 ≤ M * pw (e + 1) := p_ge h2 (by omega)
  have hor : (fcmp .f64 (wd M (e + 1)) 4611686018427387904 == some .gt || fcmp .f64 (wd M (e + 1)) 4611686018427387904 == some .eq) = true := by
   rw [g1, g2, Bool.or_eq_true, decide_eq_true_eq, decide_eq_true_eq]
   generalize 4503599627370496 * pw 1023 = q at hge ⊢
   omega
  have hv2 : IsV (wd M (e + 1)) false (M * pw e * 2) := by rw [Nat.mul_assoc, ← pw_succ]; exact hv
  have hw := (far_half hv2 (rep_of h1 _ (by omega))).eq (wd_v h1 (.inr h2) (by omega))
  have hstep : spec_FloatBits.b0 y (wd M (e + 1), c) = some (.inl (wd M e, c + 1)) := by
   unfold spec_FloatBits.b0
   simp only [hor, if_true]
   rw [hw, w64 (by omega) (by omega)]
  rw [iter_l hstep, ih e (c + 1) (by omega) (by omega) (by omega) (by omega), show c + 1 + (n : Int) = c + ((n + 1 : Nat) : Int) by omega]
theorem xor_sign (r : Nat) (h : r < 9223372036854775808) : Op.negFloat .f64 (9223372036854775808 + r) = r := by
 show (9223372036854775808 + r) ^^^ 2 ^ 63 = r
 have e : 9223372036854775808 + r = 2 ^ 63 ||| r := by
  have := Nat.two_pow_add_eq_or_of_lt (i := 63) (b := r) h 1
  simpa using this
 have e2 : 2 ^ 63 ||| r = 2 ^ 63 ^^^ r := by
  apply Nat.eq_of_testBit_eq
  intro i
  rw [Nat.testBit_or, Nat.testBit_xor]
  by_cases hi : i = 63
  · subst hi
    have : r.testBit 63 = false := Nat.testBit_lt_two_pow h
    rw [this]; simp
  · have : (2 ^ 63).testBit i = false := by rw [Nat.testBit_two_pow]; simp; omega
    rw [this]; simp
 rw [e, e2, Nat.xor_comm (2 ^ 63) r, Nat.xor_assoc, Nat.xor_self, Nat.xor_zero]
theorem fin_word {x : Nat} (hx : x < 18446744073709551616) (h : x % 9223372036854775808 < 9218868437227405312) : ∃ s M e, s ≤ 1 ∧ M < 9007199254740992 ∧ (e = 0 ∨ 4503599627370496 ≤ M) ∧ e ≤ 2045 ∧ x = s * 9223372036854775808 + wd M e := by
 refine ⟨x / 9223372036854775808, ?_⟩
 by_cases hr : x % 9223372036854775808 < 4503599627370496
 · exact ⟨x % 9223372036854775808, 0, by omega, by omega, .inl rfl, by omega, by rw [wd_eq]; omega⟩
 · refine ⟨4503599627370496 + x % 9223372036854775808 % 4503599627370496, x % 9223372036854775808 / 4503599627370496 - 1, by omega, by omega, .inr (by omega), by omega, ?_⟩
   rw [wd_eq]; omega
theorem fb_loops (s M e : Nat) (A : Nat) (hs : s ≤ 1) (h1 : M < 9007199254740992) (h2 : e = 0 ∨ 4503599627370496 ≤ M) (h3 : e ≤ 2045) : iter (spec_FloatBits.b0 (((s * 9223372036854775808 : Nat) : Int), A)) (wd M e, (0 : Int)) = some ((s * 9223372036854775808 + wd M e : Nat) : Int) := by
 by_cases hm : 4503599627370496 ≤ M
 · by_cases he : 1022 ≤ e
   · rw [fb_down _ M h1 hm (e - 1022) e 0 (by omega) h3 (by omega) (by omega)]
     rw [fb_one s M A _ (e + 1) hs h1 hm (by omega) (by omega), wd_eq, show s * 9223372036854775808 + (e + 1) * 4503599627370496 + (M - 4503599627370496) = s * 9223372036854775808 + (e * 4503599627370496 + M) by omega]
   · rw [fb_pass (wd_v h1 (.inr hm) h3) (p_lt 1022 1023 h1 (by omega) rfl)]
     have := fb_up s M A hs h1 hm (1022 - e) 0 (by omega)
     rw [show 1022 - (1022 - e) = e by omega] at this
     rw [show (0 : Int) = -((0 : Nat) : Int) by simp, this, wd_eq, show s * 9223372036854775808 + (1023 - 0 - (1022 - e)) * 4503599627370496 + (M - 4503599627370496) = s * 9223372036854775808 + (e * 4503599627370496 + M) by omega]
 · have he : e = 0 := by omega
   subst he
   have hv := wd_v h1 (.inl rfl) h3
   rw [fb_pass hv (p_lt 1022 1023 h1 (by omega) rfl)]
   have h0 : M * pw 0 = M * pw 0 := rfl
   have := fb_sub s M A hs (by omega) 1022 0 (wd M 0) (by omega) hv
   rw [show (0 : Int) = -((0 : Nat) : Int) by simp, this, wd_eq, show 0 * 4503599627370496 + M = M by omega]
theorem nan_word {x : Nat} (h : okF x) (hn : isN x = true) : x = nanB := by rw [← h.1, cn_nan hn]
theorem fb_nan : spec_FloatBits.f 9221120237041090560 = some 9221120237041090560 := by
 unfold spec_FloatBits.f
 rw [if_pos (by decide)]
theorem fb_inf : spec_FloatBits.f 9218868437227405312 = some 9218868437227405312 := by
 have h1 : (fcmp .f64 9218868437227405312 9218868437227405312 != some .eq) = false := by decide
 have h2 : (fcmp .f64 9218868437227405312 0 == some .lt) = false := by decide
 have h3 : (fcmp .f64 9218868437227405312 0 == some .eq) = false := by decide
 have h4 : (fcmp .f64 9218868437227405312 9218868437227405311 == some .gt) = true := by decide
 unfold spec_FloatBits.f
 simp only [h1, h2, h3, h4, Bool.false_eq_true, if_false, if_true, Option.bind_some]
 rfl
theorem fb_ninf : spec_FloatBits.f 18442240474082181120 = some 18442240474082181120 := by
 have h1 : (fcmp .f64 18442240474082181120 18442240474082181120 != some .eq) = false := by decide
 have h2 : (fcmp .f64 18442240474082181120 0 == some .lt) = true := by decide
 have h0 : fneg 18442240474082181120 = 9218868437227405312 := by decide
 have h3 : (fcmp .f64 9218868437227405312 0 == some .eq) = false := by decide
 have h4 : (fcmp .f64 9218868437227405312 9218868437227405311 == some .gt) = true := by decide
 unfold spec_FloatBits.f
 simp only [h1, h2, h0, h3, h4, Bool.false_eq_true, if_false, if_true, Option.bind_some]
 rfl
theorem fb_zero : spec_FloatBits.f 0 = some 0 := by
 have h1 : (fcmp .f64 0 0 != some .eq) = false := by decide
 have h2 : (fcmp .f64 0 0 == some .lt) = false := by decide
 have h3 : (fcmp .f64 0 0 == some .eq) = true := by decide
 have h4 : (fcmp .f64 (far .quo 4607182418800017408 0) 0 == some .lt) = false := by decide
 unfold spec_FloatBits.f
 simp only [h1, h2, h3, h4, Bool.false_eq_true, if_false, if_true, Option.bind_some]
theorem fb_nzero : spec_FloatBits.f 9223372036854775808 = some 9223372036854775808 := by
 have h1 : (fcmp .f64 9223372036854775808 9223372036854775808 != some .eq) = false := by decide
 have h2 : (fcmp .f64 9223372036854775808 0 == some .lt) = false := by decide
 have h3 : (fcmp .f64 9223372036854775808 0 == some .eq) = true := by decide
 have h4 : (fcmp .f64 (far .quo 4607182418800017408 9223372036854775808) 0 == some .lt) = true := by decide
 have h5 : (fcmp .f64 (fneg 9223372036854775808) 0 == some .eq) = true := by decide
 unfold spec_FloatBits.f
 simp only [h1, h2, h3, h4, h5, Bool.false_eq_true, if_false, if_true, Option.bind_some]
theorem ifF {α : Type} {b : Bool} {x y : α} (h : b = false) : (if b = true then x else y) = y := by subst h; rfl
theorem ifT {α : Type} {b : Bool} {x y : α} (h : b = true) : (if b = true then x else y) = x := by subst h; rfl
theorem cmp_self {w u : Nat} {s : Bool} (hw : IsV w s u) : (fcmp .f64 w w != some .eq) = false := by
 have : fcmp .f64 w w = some .eq := by
  show D.order w w = _
  rw [order_v hw hw]
  show (some (compareOfLessAndEq _ _)) = some _
  unfold compareOfLessAndEq
  rw [if_neg (Int.lt_irrefl _), if_pos rfl]
 rw [this]; rfl
theorem cmp_le {M e : Nat} (h1 : M < 9007199254740992) (h3 : e ≤ 2045) : ¬ 9007199254740991 * pw 2045 < M * pw e := by
 have : M * pw e ≤ 9007199254740991 * pw 2045 := Nat.mul_le_mul (by omega) (pw_le h3)
 exact Nat.not_lt.2 this
section
variable {M e : Nat} (h1 : M < 9007199254740992) (h2 : e = 0 ∨ 4503599627370496 ≤ M) (h3 : e ≤ 2045) (hM : 0 < M)
include h1 h2 h3
theorem wd_lt : wd M e < 9218868437227405312 := by rw [wd_eq]; omega
theorem wd_max : (fcmp .f64 (wd M e) 9218868437227405311 == some .gt) = false := by
 rw [cmp_gt (wd_v h1 h2 h3) vM, decide_eq_false (cmp_le h1 h3)]
theorem wd_neg : IsV (9223372036854775808 + wd M e) true (M * pw e) := ⟨M, e, h1, h2, h3, rfl, by rw [wd_eq]; rfl⟩
include hM
theorem wd_pos : 0 < M * pw e := Nat.mul_pos hM (pw_pos e)
theorem wd_ne0 : (fcmp .f64 (wd M e) 0 == some .eq) = false := by
 have := wd_pos h1 h2 h3 hM
 rw [cmp_eq (wd_v h1 h2 h3) v0, decide_eq_false (Nat.ne_of_gt this)]
theorem wd_nl : (fcmp .f64 (wd M e) 0 == some .lt) = false := by
 rw [cmp_lt (wd_v h1 h2 h3) v0, decide_eq_false (Nat.not_lt_zero _)]
theorem wd_gt : (fcmp .f64 (wd M e) 0 == some .gt) = true := by
 have := wd_pos h1 h2 h3 hM
 rw [cmp_gt (wd_v h1 h2 h3) v0, decide_eq_true this]
theorem neg_cmp : fcmp .f64 (9223372036854775808 + wd M e) 0 = some .lt := by
 have hp := wd_pos h1 h2 h3 hM
 have ho := order_v (wd_neg h1 h2 h3) v0
 rw [signed_t, signed_f, Nat.pow_zero, Nat.mul_one, Nat.zero_mul] at ho
 show D.order _ _ = _
 rw [ho]
 show (some (compareOfLessAndEq _ _)) = some _
 unfold compareOfLessAndEq
 generalize M * pw e = q at hp
 rw [if_pos (show (-((q : Nat) : Int)) < ((0 : Nat) : Int) by omega)]
theorem neg_neg' : fneg (9223372036854775808 + wd M e) = wd M e := by
 have hl := wd_lt h1 h2 h3
 unfold fneg
 have hn : isN (9223372036854775808 + wd M e) = false := by
  unfold isN
  generalize wd M e = q at hl
  simp; omega
 rw [hn, cond_false]
 exact xor_sign _ (by omega)
theorem fb_plus : spec_FloatBits.f (wd M e) = some ((wd M e : Nat) : Int) := by
 have hl := fb_loops 0 M e (wd M e) (by omega) h1 h2 h3
 have e0 : 0 * 9223372036854775808 + wd M e = wd M e := by rw [Nat.zero_mul, Nat.zero_add]
 have eS : ((0 * 9223372036854775808 : Nat) : Int) = 0 := by omega
 rw [e0, eS] at hl
 unfold spec_FloatBits.f
 rw [ifF (cmp_self (wd_v h1 h2 h3)), ifF (wd_nl h1 h2 h3 hM), ifF (wd_ne0 h1 h2 h3 hM), Option.bind_some, Option.bind_some, ifF rfl, Option.bind_some, ifF (wd_ne0 h1 h2 h3 hM), ifF (wd_max h1 h2 h3)]
 exact hl
theorem fb_minus : spec_FloatBits.f (9223372036854775808 + wd M e) = some ((9223372036854775808 + wd M e : Nat) : Int) := by
 have hl := fb_loops 1 M e (wd M e) (by omega) h1 h2 h3
 have eS : ((1 * 9223372036854775808 : Nat) : Int) = 9223372036854775808 := by omega
 rw [eS, Nat.one_mul] at hl
 have h4 : (fcmp .f64 (9223372036854775808 + wd M e) 0 == some .lt) = true := by rw [neg_cmp h1 h2 h3 hM]; rfl
 unfold spec_FloatBits.f
 rw [ifF (cmp_self (wd_neg h1 h2 h3)), ifT h4, Option.bind_some, ifT rfl, Option.bind_some, neg_neg' h1 h2 h3 hM, ifF (wd_ne0 h1 h2 h3 hM), ifF (wd_max h1 h2 h3)]
 exact hl
end
theorem word_cases {x : Nat} (h : okF x) (P : Nat → Prop) (hnan : P nanB) (hi : P 9218868437227405312) (hni : P 18442240474082181120) (h0 : P 0) (hn0 : P 9223372036854775808)
    (hp : ∀ M e, M < 9007199254740992 → (e = 0 ∨ 4503599627370496 ≤ M) → e ≤ 2045 → 0 < M → P (wd M e)) (hm : ∀ M e, M < 9007199254740992 → (e = 0 ∨ 4503599627370496 ≤ M) → e ≤ 2045 → 0 < M → P (9223372036854775808 + wd M e)) : P x := by
  cases hn : isN x with
  | true => rw [nan_word h hn]; exact hnan
  | false =>
    have hx := h.2
    have hr : x % 9223372036854775808 ≤ 9218868437227405312 := by
      unfold isN at hn
      have := of_decide_eq_false hn
      omega
    by_cases hi' : x % 9223372036854775808 = 9218868437227405312
    · rcases (show x = 9218868437227405312 ∨ x = 18442240474082181120 by omega) with rfl | rfl
      · exact hi
      · exact hni
    · obtain ⟨s, M, e, hs, h1, h2, h3, rfl⟩ := fin_word hx (by omega)
      by_cases hM : M = 0
      · subst hM
        have he : e = 0 := by omega
        subst he
        rcases (show s = 0 ∨ s = 1 by omega) with rfl | rfl
        · exact h0
        · exact hn0
      · rcases (show s = 0 ∨ s = 1 by omega) with rfl | rfl
        · rw [Nat.zero_mul, Nat.zero_add]; exact hp M e h1 h2 h3 (by omega)
        · rw [Nat.one_mul]; exact hm M e h1 h2 h3 (by omega)
theorem spec_FloatBits (x : Nat) (h : okF x) : spec_FloatBits.f x = some (x : Int) :=
 word_cases h (fun x => spec_FloatBits.f x = some (x : Int)) fb_nan fb_inf fb_ninf fb_zero fb_nzero (fun M e h1 h2 h3 hM => fb_plus h1 h2 h3 hM) (fun M e h1 h2 h3 hM => fb_minus h1 h2 h3 hM)
end Go.Proofs.YtlpbggnpiogioaaGreat
set_option linter.unusedVariables false
set_option linter.unusedSimpArgs false
set_option linter.unusedSectionVars false
namespace Go.Proofs.YtlpbggnpiogioaaGreat
open Go V Ieee
theorem wd_rng {M e : Nat} (h1 : M < 9007199254740992) (h3 : e ≤ 2045) (hM : 0 < M) : 0 < wd M e ∧ wd M e < 9218868437227405312 := by rw [wd_eq]; omega
theorem cmp_facts (x : Nat) (h : okF x) : (fcmp .f64 x x != some .eq) = decide (x = 9221120237041090560) ∧ (fcmp .f64 x 0 == some .eq) = decide (x = 0 ∨ x = 9223372036854775808) ∧
    (x ≠ 9221120237041090560 → (fcmp .f64 x 0 == some .gt) = decide (0 < x ∧ x < 9223372036854775808)) ∧ isN x = decide (x = 9221120237041090560) := by
  refine word_cases h (fun x => (fcmp .f64 x x != some .eq) = decide (x = 9221120237041090560) ∧ (fcmp .f64 x 0 == some .eq) = decide (x = 0 ∨ x = 9223372036854775808) ∧
    (x ≠ 9221120237041090560 → (fcmp .f64 x 0 == some .gt) = decide (0 < x ∧ x < 9223372036854775808)) ∧ isN x = decide (x = 9221120237041090560)) ?_ ?_ ?_ ?_ ?_ (fun M e h1 h2 h3 hM => ?_) (fun M e h1 h2 h3 hM => ?_)
  · exact ⟨by decide, by decide, fun h => absurd rfl h, by decide⟩
  · exact ⟨by decide, by decide, fun _ => by decide, by decide⟩
  · exact ⟨by decide, by decide, fun _ => by decide, by decide⟩
  · exact ⟨by decide, by decide, fun _ => by decide, by decide⟩
  · exact ⟨by decide, by decide, fun _ => by decide, by decide⟩
  · obtain ⟨q0, q1⟩ := wd_rng h1 h3 hM
    have c1 := cmp_self (wd_v h1 h2 h3)
    have c2 := wd_ne0 h1 h2 h3 hM
    have c3 := wd_gt h1 h2 h3 hM
    rw [c1, c2, c3]
    generalize wd M e = q at q0 q1
    refine ⟨?_, ?_, fun _ => ?_, ?_⟩
    · rw [decide_eq_false (by omega)]
    · rw [decide_eq_false (by omega)]
    · rw [decide_eq_true (by omega)]
    · unfold isN
      rw [decide_eq_false (by omega), decide_eq_false (by omega)]
  · obtain ⟨q0, q1⟩ := wd_rng h1 h3 hM
    have c1 := cmp_self (wd_neg h1 h2 h3)
    have c2 := neg_cmp h1 h2 h3 hM
    rw [c1, c2]
    generalize wd M e = q at q0 q1
    refine ⟨?_, ?_, fun _ => ?_, ?_⟩
    · rw [decide_eq_false (by omega)]
    · rw [decide_eq_false (by omega)]; rfl
    · rw [decide_eq_false (by omega)]; rfl
    · unfold isN
      rw [decide_eq_false (by omega), decide_eq_false (by omega)]
def FRK (x : Nat) : Nat := if x = 9221120237041090560 then 18446744073709551615 else if x = 0 ∨ x = 9223372036854775808 then 9223372036854775808 else if 9223372036854775808 ≤ x then 18446744073709551615 ^^^ x else x ||| 9223372036854775808
theorem max_u64 : IntKind.max .u64 = ((18446744073709551615 : Nat) : Int) := by decide
theorem ishr63 (n : Nat) : (ishr .u64 (n : Int) (63 : Int) == (1 : Int)) = decide (n / 9223372036854775808 = 1) := by
 have h2 : ishr .u64 (n : Int) (63 : Int) = ((n / 9223372036854775808 : Nat) : Int) := ishr_nat .u64 n 63 (by decide)
 rw [h2]
 generalize n / 9223372036854775808 = q
 by_cases hq : q = 1
 · rw [decide_eq_true hq, hq]; rfl
 · rw [decide_eq_false hq]; simp; omega
end Go.Proofs.YtlpbggnpiogioaaGreat
set_option linter.unusedVariables false
set_option linter.unusedSimpArgs false
set_option linter.unusedSectionVars false
namespace Go.Proofs.YtlpbggnpiogioaaGreat
open Go V Ieee
theorem within_rin (a b c : Int) : impl_within.f a b c = some (rin a b c) := rfl
def IOK (a : Item) : Bool := ((rin a.Kind 0 3 && ((a.N == (0 : Int)) || (a.Kind == (1 : Int)))) && (((a.F : Int) == 0) || (a.Kind == (2 : Int)))) && (((a.T.length : Int) == (0 : Int)) || ((a.Kind == (3 : Int)) && (decide ((a.T.length : Int) ≤ (40 : Int)))))
theorem impl_ItemOk (a : Item) : impl_ItemOk.f a = some (IOK a) := by
 unfold impl_ItemOk.f
 rw [within_rin, Option.bind_some]; rfl
theorem iok_iff (a : Item) : IOK a = true ↔ ((0 ≤ a.Kind ∧ a.Kind ≤ 3) ∧ (a.N = 0 ∨ a.Kind = 1)) ∧ (a.F = 0 ∨ a.Kind = 2) ∧ (a.T.length = 0 ∨ a.Kind = 3 ∧ a.T.length ≤ 40) := by
 simp only [IOK, rin, Bool.and_eq_true, Bool.or_eq_true, decide_eq_true_eq, beq_iff_eq]
 constructor
 · rintro ⟨⟨⟨h1, h2⟩, h3⟩, h4⟩; exact ⟨⟨h1, h2⟩, by omega, by omega⟩
 · rintro ⟨⟨h1, h2⟩, h3, h4⟩; exact ⟨⟨⟨h1, h2⟩, by omega⟩, by omega⟩
theorem spec_ItemOk (a : Item) (h : okF a.F) : spec_ItemOk.f a = some (IOK a) := by
  unfold spec_ItemOk.f
  rw [spec_FloatBits a.F h]
  obtain ⟨k, n, f, t⟩ := a
  have hi := iok_iff ⟨k, n, f, t⟩
  simp only at hi ⊢
  generalize t.length = l at hi ⊢
  by_cases c1 : (((decide (k < (0 : Int))) || (decide (k > (3 : Int)))) || (decide ((l : Int) > (40 : Int)))) = true
  · rw [if_pos c1]
    have : IOK ⟨k, n, f, t⟩ = false := by
      cases hh : IOK ⟨k, n, f, t⟩ with
      | false => rfl
      | true =>
        have := hi.1 hh
        simp only [Bool.or_eq_true, decide_eq_true_eq] at c1
        omega
    rw [this]
  · rw [if_neg c1]
    simp only [Bool.or_eq_true, decide_eq_true_eq, not_or] at c1
    by_cases c2 : ((k != (1 : Int)) && (n != (0 : Int))) = true
    · rw [if_pos c2]
      have : IOK ⟨k, n, f, t⟩ = false := by
        cases hh : IOK ⟨k, n, f, t⟩ with
        | false => rfl
        | true =>
          have := hi.1 hh
          simp only [Bool.and_eq_true, bne_iff_ne, ne_eq] at c2
          omega
      rw [this]
    · rw [if_neg c2]
      simp only [Bool.and_eq_true, bne_iff_ne, ne_eq, not_and, Decidable.not_not] at c2
      by_cases c3 : k = 2
      · rw [if_neg (by simp [c3])]
        simp only [Option.bind_some, Bool.false_eq_true, if_false]
        congr 1
        have e : ((k == (3 : Int)) || ((l : Int) == (0 : Int))) = decide (k = 3 ∨ l = 0) := by
          by_cases q : k = 3 <;> by_cases q2 : l = 0 <;> simp [q, q2]
        rw [e]
        cases hh : IOK ⟨k, n, f, t⟩ with
        | true => exact decide_eq_true (by have := hi.1 hh; omega)
        | false => exact decide_eq_false (fun hc => by
            have : IOK ⟨k, n, f, t⟩ = true := hi.2 (by omega)
            rw [hh] at this; cases this)
      · rw [if_pos (by simp [c3])]
        simp only [Option.bind_some]
        by_cases c4 : f = 0
        · rw [if_neg (by simp [c4])]
          congr 1
          have e : ((k == (3 : Int)) || ((l : Int) == (0 : Int))) = decide (k = 3 ∨ l = 0) := by
            by_cases q : k = 3 <;> by_cases q2 : l = 0 <;> simp [q, q2]
          rw [e]
          cases hh : IOK ⟨k, n, f, t⟩ with
          | true => exact decide_eq_true (by have := hi.1 hh; omega)
          | false => exact decide_eq_false (fun hc => by
              have : IOK ⟨k, n, f, t⟩ = true := hi.2 (by omega)
              rw [hh] at this; cases this)
        · rw [if_pos (by simp; exact c4)]
          have : IOK ⟨k, n, f, t⟩ = false := by
            cases hh : IOK ⟨k, n, f, t⟩ with
            | false => rfl
            | true =>
              have := hi.1 hh
              omega
          rw [this]
def KOK (a : Item) : Bool := (IOK a && (a.Kind != (0 : Int))) && decide (a.F ≠ 9223372036854775808)
theorem impl_KeyOk (a : Item) (h : okF a.F) : impl_KeyOk.f a = some (KOK a) := by
 unfold impl_KeyOk.f KOK
 rw [impl_ItemOk, Option.bind_some]
 obtain ⟨_, c2, _, _⟩ := cmp_facts a.F h
 have e : ((fcmp .f64 a.F 0 != some .eq) || ((a.F : Int) == 0)) = decide (a.F ≠ 9223372036854775808) := by
  have hb : (fcmp .f64 a.F 0 != some .eq) = !(fcmp .f64 a.F 0 == some .eq) := rfl
  rw [hb, c2]
  generalize a.F = q
  by_cases h0 : q = 0
  · subst h0; rfl
  · by_cases h1 : q = 9223372036854775808
    · subst h1; rfl
    · rw [decide_eq_false (by omega), decide_eq_true h1]; rfl
 rw [e]
theorem spec_KeyOk (a : Item) (h : okF a.F) : spec_KeyOk.f a = some (KOK a) := by
 unfold spec_KeyOk.f KOK
 rw [spec_ItemOk a h, Option.bind_some]
 obtain ⟨_, c2, _, _⟩ := cmp_facts a.F h
 cases hc : (IOK a && (a.Kind != (0 : Int))) with
 | false => rfl
 | true =>
  rw [if_pos rfl, c2, spec_FloatBits a.F h]
  generalize a.F = q
  by_cases h0 : q = 0
  · subst h0; rfl
  · by_cases h1 : q = 9223372036854775808
    · subst h1; rfl
    · rw [decide_eq_false (by omega), decide_eq_true h1]; rfl
theorem iok_T {a : Item} (h : IOK a = true) : a.T.length ≤ 40 := by have := (iok_iff a).1 h; omega
theorem kok_iok {a : Item} (h : KOK a = true) : IOK a = true := by
 simp only [KOK, Bool.and_eq_true] at h; exact h.1.1
end Go.Proofs.YtlpbggnpiogioaaGreat
set_option linter.unusedVariables false
set_option linter.unusedSimpArgs false
set_option linter.unusedSectionVars false
namespace Go.Proofs.YtlpbggnpiogioaaGreat
open Go V Ieee
theorem impl_FloatRank (x : Nat) (h : okF x) : impl_FloatRank.f x = some (FRK x : Int) := by
 obtain ⟨c1, c2, c3, c4⟩ := cmp_facts x h
 unfold impl_FloatRank.f FRK
 by_cases hx : x = 9221120237041090560
 · rw [ifT (by rw [c1]; exact decide_eq_true hx), if_pos hx]; rfl
 · rw [ifF (by rw [c1]; exact decide_eq_false hx), if_neg hx]
   by_cases h0 : x = 0 ∨ x = 9223372036854775808
   · rw [ifT (by rw [c2]; exact decide_eq_true h0), if_pos h0]; rfl
   · rw [ifF (by rw [c2]; exact decide_eq_false h0), if_neg h0]
     have hn : isN x = false := by rw [c4]; exact decide_eq_false hx
     have hl := h.2
     by_cases hs : 9223372036854775808 ≤ x
     · rw [ifF (by rw [c3 hx]; exact decide_eq_false (by omega)), if_pos hn, if_pos hs, max_u64, ixor_u64 _ _ (by omega) hl]
     · rw [ifT (by rw [c3 hx]; exact decide_eq_true (by omega)), if_pos hn, if_neg hs]
       exact congrArg some (ior_u64 x 9223372036854775808 hl (by omega))
theorem spec_FloatRank (x : Nat) (h : okF x) : spec_FloatRank.f x = some (FRK x : Int) := by
 obtain ⟨c1, c2, c3, c4⟩ := cmp_facts x h
 unfold spec_FloatRank.f FRK
 rw [spec_FloatBits x h, Option.bind_some]
 have hl := h.2
 by_cases hx : x = 9221120237041090560
 · rw [ifT (by rw [hx]; rfl), if_pos hx]; rfl
 · rw [ifF (by simp; omega), if_neg hx]
   by_cases h0 : x = 0 ∨ x = 9223372036854775808
   · rw [ifT (by rw [c2]; exact decide_eq_true h0), if_pos h0]; rfl
   · rw [ifF (by rw [c2]; exact decide_eq_false h0), if_neg h0]
     by_cases hs : 9223372036854775808 ≤ x
     · rw [ifT (by rw [ishr63]; exact decide_eq_true (by omega)), if_pos hs, max_u64, ixor_u64 _ _ (by omega) hl]
     · rw [ifF (by rw [ishr63]; exact decide_eq_false (by omega)), if_neg hs]
       exact congrArg some (ior_u64 x 9223372036854775808 hl (by omega))
end Go.Proofs.YtlpbggnpiogioaaGreat
set_option linter.unusedVariables false
set_option linter.unusedSimpArgs false
set_option linter.unusedSectionVars false
namespace Go.Proofs.YtlpbggnpiogioaaGreat
open Go V Ieee
def runL {α σ O : Type} (step : σ → α → σ ⊕ O) (fin : σ → O) : List α → σ → O
 | [], s => fin s
 | x :: xs, s => match step s x with
  | .inl s' => runL step fin xs s'
  | .inr o => o
theorem iter_runL {α σ O S : Type} {body : S → Option (S ⊕ O)} (xs : List α) (emb : σ → Nat → S) (step : σ → α → σ ⊕ O) (fin : σ → O) (Inv : σ → Nat → Prop)
    (h : ∀ s k (hk : k < xs.length), Inv s k → body (emb s k) = some (match step s xs[k] with
      | .inl s' => .inl (emb s' (k + 1))
      | .inr o => .inr o) ∧ ∀ s', step s xs[k] = .inl s' → Inv s' (k + 1))
    (hn : ∀ s, Inv s xs.length → body (emb s xs.length) = some (.inr (fin s))) (s0 : σ) (h0 : Inv s0 0) : iter body (emb s0 0) = some (runL step fin xs s0) := by
  have key : ∀ (m k : Nat) (s : σ), k + m = xs.length → Inv s k → iter body (emb s k) = some (runL step fin (xs.drop k) s) := by
    intro m
    induction m with
    | zero =>
      intro k s hk hI
      have : k = xs.length := by omega
      subst this
      rw [List.drop_length, iter_r (hn s hI)]; rfl
    | succ m ih =>
      intro k s hk hI
      have hlt : k < xs.length := by omega
      obtain ⟨hb, hs⟩ := h s k hlt hI
      rw [List.drop_eq_getElem_cons hlt]
      unfold runL
      cases hst : step s xs[k] with
      | inl s' => rw [hst] at hb; rw [iter_l hb]; exact ih (k + 1) s' (by omega) (hs s' hst)
      | inr o => rw [hst] at hb; rw [iter_r hb]
  have := key xs.length 0 s0 (by omega) h0
  rwa [List.drop_zero] at this
theorem iter_test {α O : Type} {body : Int → Option (Int ⊕ O)} (xs : List α) (g : α → Bool) (o1 o2 : O) (hb : ∀ (k : Nat) (hk : k < xs.length), body (k : Int) = if g xs[k] = true then some (.inr o1) else some (.inl ((k : Int) + 1))) (hn : body (xs.length : Int) = some (.inr o2)) : iter body 0 = some (if xs.any g = true then o1 else o2) := by
 have := iter_runL (body := body) xs (fun (_ : Unit) (k : Nat) => (k : Int)) (fun _ x => if g x = true then .inr o1 else .inl ()) (fun _ => o2) (fun _ _ => True) (fun _ k hk _ => ⟨by
  rw [hb k hk]
  cases g xs[k] <;> rfl, fun _ _ => trivial⟩) (fun _ _ => hn) () trivial
 refine this.trans ?_
 congr 1
 clear this hb hn
 induction xs with
 | nil => rfl
 | cons x xs ih =>
  unfold runL
  rw [List.any_cons]
  cases g x with
  | true => rfl
  | false => simpa using ih
def SGN (a b : Int) : Int := if a < b then -1 else if a > b then 1 else 0
theorem sgn_0 {a b : Int} : SGN a b = 0 ↔ a = b := by
 unfold SGN
 split
 · constructor <;> omega
 · split
   · constructor <;> omega
   · constructor <;> omega
def ICM (a b : Item) : Int := if a.Kind ≠ b.Kind then SGN a.Kind b.Kind else if a.N ≠ b.N then SGN a.N b.N else if FRK a.F ≠ FRK b.F then SGN (FRK a.F) (FRK b.F) else bcmp a.T b.T
theorem bcmp_at : ∀ (p : Nat) (xs ys : List Int) (h1 : p < xs.length) (h2 : p < ys.length), (∀ i, i < p → xs[i]? = ys[i]?) → xs[p] ≠ ys[p] → bcmp xs ys = if xs[p] < ys[p] then -1 else 1
 | 0, x :: xs, y :: ys, h1, h2, h, hne => by
  unfold bcmp
  have : (x == y) = false := by simpa using hne
  rw [this]
  simp only [cond_false, List.getElem_cons_zero]
  by_cases hlt : x < y
  · rw [if_pos hlt, decide_eq_true hlt]; rfl
  · rw [if_neg hlt, decide_eq_false hlt]; rfl
 | p + 1, x :: xs, y :: ys, h1, h2, h, hne => by
  unfold bcmp
  have h0 := h 0 (by omega)
  simp only [List.getElem?_cons_zero, Option.some.injEq] at h0
  have : (x == y) = true := by simpa using h0
  rw [this]
  simp only [cond_true, List.getElem_cons_succ]
  exact bcmp_at p xs ys (by simpa using h1) (by simpa using h2) (fun i hi => by simpa using h (i + 1) (by omega)) (by simpa using hne)
theorem bcmp_end : ∀ (xs ys : List Int), (∀ i, i < xs.length → i < ys.length → xs[i]? = ys[i]?) → bcmp xs ys = if xs.length < ys.length then -1 else if xs.length > ys.length then 1 else 0
 | [], [], _ => rfl
 | [], y :: ys, _ => by simp [bcmp]
 | x :: xs, [], _ => by simp [bcmp]
 | x :: xs, y :: ys, h => by
  unfold bcmp
  have h0 := h 0 (by simp) (by simp)
  simp only [List.getElem?_cons_zero, Option.some.injEq] at h0
  have : (x == y) = true := by simpa using h0
  rw [this]
  simp only [cond_true, List.length_cons]
  rw [bcmp_end xs ys fun i h1 h2 => by simpa using h (i + 1) (by simpa using h1) (by simpa using h2)]
  simp
theorem str_data (xs : List Int) : (str xs).data.toList = xs.map fun n => UInt8.ofNat n.toNat := by
 have key : ∀ (xs : List Int) (acc : ByteArray), (xs.foldl (fun r n => r.push (UInt8.ofNat n.toNat)) acc).data.toList = acc.data.toList ++ xs.map fun n => UInt8.ofNat n.toNat := by
  intro xs
  induction xs with
  | nil => intro acc; simp
  | cons x xs ih => intro acc; rw [List.foldl_cons, ih]; simp
 exact (key xs ByteArray.empty).trans (List.nil_append _)
theorem str_size (xs : List Int) : (str xs).size = xs.length := by
 have := congrArg List.length (str_data xs)
 rw [List.length_map, Array.length_toList] at this
 exact this
theorem str_get (xs : List Int) (i : Nat) (h : i < xs.length) : (str xs)[i]! = UInt8.ofNat (xs[i]).toNat := by
 have hs : i < (str xs).size := by rw [str_size]; exact h
 rw [getElem!_pos (str xs) i hs]
 have h1 : (str xs)[i] = (str xs).data[i] := rfl
 have h2 : (str xs).data.toList[i]? = (xs.map fun n => UInt8.ofNat n.toNat)[i]? := by rw [str_data]
 rw [List.getElem?_map, List.getElem?_eq_getElem h, Array.getElem?_toList, Array.getElem?_eq_getElem (show i < (str xs).data.size from hs)] at h2
 rw [h1]; exact Option.some.inj h2
theorem u8_lt {a b : Int} (ha : InK .u8 a) (hb : InK .u8 b) : (UInt8.ofNat a.toNat < UInt8.ofNat b.toNat) ↔ a < b := by
 have h1 := u8_of ha
 have h2 := u8_of hb
 rw [UInt8.lt_iff_toNat_lt, UInt8.toNat_ofNat', UInt8.toNat_ofNat', Nat.mod_eq_of_lt (by omega), Nat.mod_eq_of_lt (by omega)]
 omega
theorem u8_eq {a b : Int} (ha : InK .u8 a) (hb : InK .u8 b) : (UInt8.ofNat a.toNat = UInt8.ofNat b.toNat) ↔ a = b := by
 have h1 := u8_of ha
 have h2 := u8_of hb
 rw [← UInt8.toNat_inj, UInt8.toNat_ofNat', UInt8.toNat_ofNat', Nat.mod_eq_of_lt (by omega), Nat.mod_eq_of_lt (by omega)]
 omega
theorem bcmpS_eq (xs ys : List Int) (hx : ∀ x ∈ xs, InK .u8 x) (hy : ∀ x ∈ ys, InK .u8 x) : bcmpS xs ys = bcmp xs ys := by
 unfold bcmpS Extern.BytealgCompare.cmp
 rw [str_size, str_size]
 cases hf : (List.range (min xs.length ys.length)).find? (fun i => (str xs)[i]! != (str ys)[i]!) with
 | none =>
  rw [List.find?_eq_none] at hf
  rw [bcmp_end xs ys fun i h1 h2 => ?_]
  have := hf i (List.mem_range.2 (by omega))
  rw [str_get xs i h1, str_get ys i h2] at this
  have h3 : UInt8.ofNat (xs[i]).toNat = UInt8.ofNat (ys[i]).toNat := by simpa using this
  rw [List.getElem?_eq_getElem h1, List.getElem?_eq_getElem h2, (u8_eq (hx _ (List.getElem_mem h1)) (hy _ (List.getElem_mem h2))).1 h3]
 | some i =>
  have hm := List.mem_range.1 (List.mem_of_find?_eq_some hf)
  have h1 : i < xs.length := by omega
  have h2 : i < ys.length := by omega
  have hp := List.find?_some hf
  rw [List.find?_range_eq_some] at hf
  have hne : xs[i] ≠ ys[i] := fun e => by
   rw [str_get xs i h1, str_get ys i h2, e] at hp
   simp at hp
  rw [bcmp_at i xs ys h1 h2 (fun j hj => by
   have := hf.2.2 j hj
   rw [str_get xs j (by omega), str_get ys j (by omega)] at this
   have h3 : UInt8.ofNat (xs[j]).toNat = UInt8.ofNat (ys[j]).toNat := by simpa using this
   rw [List.getElem?_eq_getElem (by omega), List.getElem?_eq_getElem (by omega), (u8_eq (hx _ (List.getElem_mem (by omega))) (hy _ (List.getElem_mem (by omega)))).1 h3]) hne]
  simp only []
  rw [str_get xs i h1, str_get ys i h2]
  by_cases hlt : xs[i] < ys[i]
  · rw [if_pos hlt, if_pos ((u8_lt (hx _ (List.getElem_mem h1)) (hy _ (List.getElem_mem h2))).2 hlt)]
  · rw [if_neg hlt, if_neg fun h => hlt ((u8_lt (hx _ (List.getElem_mem h1)) (hy _ (List.getElem_mem h2))).1 h)]
theorem spec_l3texts (a b : List Int) (ha : a.length ≤ 1000000000) : spec_l3texts.f a b = some (bcmp a b) := by
 unfold spec_l3texts.f
 have key : ∀ (m k : Nat), k + m = a.length → k ≤ b.length → iter (spec_l3texts.b0 a b) (k : Int) = some (bcmp (a.drop k) (b.drop k)) := by
  intro m
  induction m with
  | zero =>
   intro k hk hb
   have : k = a.length := by omega
   subst this
   refine iter_r ?_
   unfold spec_l3texts.b0
   rw [if_neg (by simp), List.drop_length]
   by_cases hl : a.length < b.length
   · rw [if_pos (by simp; omega), List.drop_eq_getElem_cons hl]; rfl
   · rw [if_neg (by simp; omega), if_neg (by simp; omega), List.drop_eq_nil_of_le (by omega)]; rfl
  | succ m ih =>
   intro k hk hb
   have hk1 : k < a.length := by omega
   by_cases hk2 : k < b.length
   · rw [List.drop_eq_getElem_cons hk1, List.drop_eq_getElem_cons hk2]
     unfold bcmp
     by_cases h1 : a[k] < b[k]
     · have hne : (a[k] == b[k]) = false := by simp; omega
       rw [hne, decide_eq_true h1]
       refine iter_r ?_
       unfold spec_l3texts.b0
       rw [if_pos (by simp; omega), if_pos ⟨by omega, by omega⟩, if_pos ⟨by omega, by omega⟩, at_nat _ k hk1, at_nat _ k hk2, if_pos (by simpa using h1)]; rfl
     · by_cases h2 : a[k] > b[k]
       · have hne : (a[k] == b[k]) = false := by simp; omega
         rw [hne, decide_eq_false h1]
         refine iter_r ?_
         unfold spec_l3texts.b0
         rw [if_pos (by simp; omega), if_pos ⟨by omega, by omega⟩, if_pos ⟨by omega, by omega⟩, at_nat _ k hk1, at_nat _ k hk2, if_neg (by simpa using h1), if_pos ⟨by omega, by omega⟩, if_pos ⟨by omega, by omega⟩, if_pos (by simpa using h2)]; rfl
       · have hne : (a[k] == b[k]) = true := by simp; omega
         rw [hne, cond_true, ← ih (k + 1) (by omega) (by omega)]
         refine iter_l ?_
         unfold spec_l3texts.b0
         rw [if_pos (by simp; omega), if_pos ⟨by omega, by omega⟩, if_pos ⟨by omega, by omega⟩, at_nat _ k hk1, at_nat _ k hk2, if_neg (by simpa using h1), if_pos ⟨by omega, by omega⟩, if_pos ⟨by omega, by omega⟩, if_neg (by simpa using h2), w64 (by omega) (by omega)]; rfl
   · refine iter_r ?_
     unfold spec_l3texts.b0
     rw [if_neg (by simp; omega), if_neg (by simp; omega), if_pos (by simp; omega), List.drop_eq_getElem_cons hk1, List.drop_eq_nil_of_le (show b.length ≤ k by omega)]; rfl
 exact key a.length 0 (by omega) (by omega)
theorem cmpI (a b : Int) : cmp_Compare_int.f a b = some (SGN a b) := by
 unfold cmp_Compare_int.f cmp_isNaN_int.f SGN
 simp only [bne_self_eq_false, Option.bind_some, Bool.false_eq_true, if_false, decide_eq_true_eq]
 split
 · rfl
 · split <;> rfl
theorem cmpU (a b : Int) : cmp_Compare_uint64.f a b = some (SGN a b) := by
 unfold cmp_Compare_uint64.f cmp_isNaN_uint64.f SGN
 simp only [bne_self_eq_false, Option.bind_some, Bool.false_eq_true, if_false, decide_eq_true_eq]
 split
 · rfl
 · split <;> rfl
theorem cmpOr (l : List Int) (hl : l.length ≤ 1000) : cmp_Or_int.f l = some (runL (fun (_ : Unit) x => if x ≠ 0 then .inr x else .inl ()) (fun _ => 0) l ()) := by
 unfold cmp_Or_int.f
 refine iter_runL l (fun _ k => (k : Int)) _ _ (fun _ _ => True) (fun s k hk _ => ⟨?_, fun _ _ => trivial⟩) (fun s _ => ?_) () trivial
 · unfold cmp_Or_int.b0
   rw [if_pos (by simp; omega), if_pos ⟨by omega, by omega⟩, at_nat _ k hk, w64 (by omega) (by omega)]
   by_cases h : l[k] = 0
   · rw [if_neg (by simpa using h), if_neg (by simpa using h)]; rfl
   · rw [if_pos (by simpa using h), if_pos (by simpa using h)]
 · unfold cmp_Or_int.b0
   rw [if_neg (by simp)]; rfl
theorem impl_compareItems (a b : Item) (ha : ok_Item a) (hb : ok_Item b) : impl_compareItems.f a b = some (ICM a b) := by
 unfold impl_compareItems.f impl_FloatCompare.f bytes_Compare.f
 rw [cmpI, Option.bind_some, cmpI, Option.bind_some, impl_FloatRank _ ha.2.2.1, Option.bind_some, impl_FloatRank _ hb.2.2.1, Option.bind_some, cmpU, Option.bind_some, Option.bind_some, Option.bind_some, bcmpS_eq _ _ ha.2.2.2.2 hb.2.2.2.2, cmpOr _ (by simp), Option.bind_some]
 congr 1
 unfold ICM runL
 by_cases h1 : a.Kind = b.Kind
 · rw [if_neg (by simpa using sgn_0.2 h1), if_neg (by simpa using h1)]
   simp only []
   unfold runL
   by_cases h2 : a.N = b.N
   · rw [if_neg (by simpa using sgn_0.2 h2), if_neg (by simpa using h2)]
     simp only []
     unfold runL
     by_cases h3 : FRK a.F = FRK b.F
     · rw [if_neg (by simp [sgn_0, h3]), if_neg (by simpa using h3)]
       simp only []
       unfold runL
       by_cases h4 : bcmp a.T b.T = 0
       · rw [if_neg (by simpa using h4)]; simp only []; unfold runL; exact h4.symm
       · rw [if_pos (by simpa using h4)]
     · rw [if_pos (fun h => h3 (by have := sgn_0.1 h; omega)), if_pos h3]
   · rw [if_pos (fun h => h2 (sgn_0.1 h)), if_pos h2]
 · rw [if_pos (fun h => h1 (sgn_0.1 h)), if_pos h1]
theorem spec_FloatCompare (x y : Nat) (hx : okF x) (hy : okF y) : spec_FloatCompare.f x y = some (SGN (FRK x) (FRK y)) := by
 unfold spec_FloatCompare.f SGN
 rw [spec_FloatRank _ hx, Option.bind_some, spec_FloatRank _ hy, Option.bind_some]
 simp only [decide_eq_true_eq]
 split
 · rfl
 · split <;> rfl
theorem spec_ItemCompare (a b : Item) (ha : ok_Item a) (hb : ok_Item b) (va : IOK a = true) (vb : IOK b = true) : spec_ItemCompare.f a b = some (ICM a b) := by
 unfold spec_ItemCompare.f ICM
 rw [spec_ItemOk a ha.2.2.1, Option.bind_some, va, if_neg (by decide), spec_ItemOk b hb.2.2.1, Option.bind_some, vb]
 simp only [Option.bind_some, Bool.not_true, Bool.false_eq_true, if_false]
 by_cases h1 : a.Kind = b.Kind
 · rw [if_neg (show ¬ ((a.Kind != b.Kind) = true) by simpa using h1), if_neg (show ¬ (a.Kind ≠ b.Kind) by simpa using h1)]
   by_cases h2 : a.N = b.N
   · rw [if_neg (show ¬ ((a.N != b.N) = true) by simpa using h2), if_neg (show ¬ (a.N ≠ b.N) by simpa using h2), spec_FloatCompare _ _ ha.2.2.1 hb.2.2.1, Option.bind_some]
     by_cases h3 : FRK a.F = FRK b.F
     · rw [if_neg (by simp [sgn_0, h3]), if_neg (by simpa using h3), spec_l3texts _ _ (by have := iok_T va; omega)]; rfl
     · rw [if_pos (by simp [sgn_0]; omega), if_pos h3]
   · rw [if_pos (show (a.N != b.N) = true by simpa using h2), if_pos (show a.N ≠ b.N from h2)]
     unfold SGN
     simp only [decide_eq_true_eq]
     split
     · rfl
     · rw [if_pos (by omega)]
 · rw [if_pos (show (a.Kind != b.Kind) = true by simpa using h1), if_pos (show a.Kind ≠ b.Kind from h1)]
   unfold SGN
   simp only [decide_eq_true_eq]
   split
   · rfl
   · rw [if_pos (by omega)]
end Go.Proofs.YtlpbggnpiogioaaGreat
set_option linter.unusedVariables false
set_option linter.unusedSimpArgs false
set_option linter.unusedSectionVars false
namespace Go.Proofs.YtlpbggnpiogioaaGreat
open Go V Ieee
theorem sgn_swap (a b : Int) : SGN b a = - SGN a b := by unfold SGN; split <;> split <;> (try split) <;> omega
theorem sgn_le {a b : Int} : SGN a b ≤ 0 ↔ a ≤ b := by unfold SGN; split <;> (try split) <;> omega
theorem bcmp_swap : ∀ (xs ys : List Int), bcmp ys xs = - bcmp xs ys
 | [], [] => rfl
 | [], y :: ys => rfl
 | x :: xs, [] => rfl
 | x :: xs, y :: ys => by
  have ih := bcmp_swap xs ys
  rw [bcmp, bcmp]
  by_cases h : x = y
  · subst h; simp [ih]
  · have h1 : (x == y) = false := by simpa using h
    have h2 : (y == x) = false := by simpa using fun e => h e.symm
    rw [h1, h2, cond_false, cond_false]
    by_cases hl : x < y
    · rw [decide_eq_true hl, decide_eq_false (by omega)]; rfl
    · rw [decide_eq_false hl, decide_eq_true (by omega)]; rfl
theorem bcmp_trans : ∀ (xs ys zs : List Int), bcmp xs ys ≤ 0 → bcmp ys zs ≤ 0 → bcmp xs zs ≤ 0
 | [], ys, [], _, _ => by simp [bcmp]
 | [], ys, z :: zs, _, _ => by simp [bcmp]
 | x :: xs, [], zs, h, _ => by simp [bcmp] at h
 | x :: xs, y :: ys, [], _, h => by simp [bcmp] at h
 | x :: xs, y :: ys, z :: zs, h1, h2 => by
  have ih := bcmp_trans xs ys zs
  rw [bcmp] at h1 h2 ⊢
  by_cases hxy : x = y
  · subst hxy
    simp only [beq_self_eq_true, cond_true] at h1
    by_cases hyz : x = z
    · subst hyz
      simp only [beq_self_eq_true, cond_true] at h2 ⊢
      exact ih h1 h2
    · have e : (x == z) = false := by simpa using hyz
      rw [e, cond_false] at h2 ⊢
      exact h2
  · have e : (x == y) = false := by simpa using hxy
    rw [e, cond_false] at h1
    have hlt : x < y := by
     by_cases hl : x < y
     · exact hl
     · rw [decide_eq_false hl] at h1; simp at h1
    by_cases hyz : y = z
    · subst hyz
      rw [e, cond_false, decide_eq_true hlt]; decide
    · have e2 : (y == z) = false := by simpa using hyz
      rw [e2, cond_false] at h2
      have hlt2 : y < z := by
       by_cases hl : y < z
       · exact hl
       · rw [decide_eq_false hl] at h2; simp at h2
      have e3 : (x == z) = false := by simpa using (show x ≠ z by omega)
      rw [e3, cond_false, decide_eq_true (show x < z by omega)]; decide
theorem icm_swap (a b : Item) : ICM b a = - ICM a b := by
 unfold ICM
 by_cases h1 : a.Kind = b.Kind
 · rw [if_neg (show ¬ (b.Kind ≠ a.Kind) from fun e => e h1.symm), if_neg (show ¬ (a.Kind ≠ b.Kind) from fun e => e h1)]
   by_cases h2 : a.N = b.N
   · rw [if_neg (show ¬ (b.N ≠ a.N) from fun e => e h2.symm), if_neg (show ¬ (a.N ≠ b.N) from fun e => e h2)]
     by_cases h3 : FRK a.F = FRK b.F
     · rw [if_neg (show ¬ (FRK b.F ≠ FRK a.F) from fun e => e h3.symm), if_neg (show ¬ (FRK a.F ≠ FRK b.F) from fun e => e h3)]; exact bcmp_swap _ _
     · rw [if_pos (show FRK b.F ≠ FRK a.F from fun e => h3 e.symm), if_pos (show FRK a.F ≠ FRK b.F from h3)]; exact sgn_swap _ _
   · rw [if_pos (show b.N ≠ a.N from fun e => h2 e.symm), if_pos (show a.N ≠ b.N from h2)]; exact sgn_swap _ _
 · rw [if_pos (show b.Kind ≠ a.Kind from fun e => h1 e.symm), if_pos (show a.Kind ≠ b.Kind from h1)]; exact sgn_swap _ _
theorem icm_trans (a b c : Item) (h1 : ICM a b ≤ 0) (h2 : ICM b c ≤ 0) : ICM a c ≤ 0 := by
 have neq : ∀ {x y : Int}, x ≠ y → SGN x y ≤ 0 → x < y := fun hne h => by have := sgn_le.1 h; omega
 unfold ICM at h1 h2 ⊢
 by_cases k1 : a.Kind = b.Kind
 · rw [if_neg (by simpa using k1)] at h1
   by_cases k2 : b.Kind = c.Kind
   · rw [if_neg (by simpa using k2)] at h2
     rw [if_neg (by simpa using k1.trans k2)]
     by_cases n1 : a.N = b.N
     · rw [if_neg (by simpa using n1)] at h1
       by_cases n2 : b.N = c.N
       · rw [if_neg (by simpa using n2)] at h2
         rw [if_neg (by simpa using n1.trans n2)]
         by_cases f1 : FRK a.F = FRK b.F
         · rw [if_neg (by simpa using f1)] at h1
           by_cases f2 : FRK b.F = FRK c.F
           · rw [if_neg (by simpa using f2)] at h2
             rw [if_neg (by simpa using f1.trans f2)]
             exact bcmp_trans _ _ _ h1 h2
           · rw [if_pos f2] at h2
             rw [if_pos (fun e => f2 (f1.symm.trans e)), f1]; exact h2
         · rw [if_pos f1] at h1
           by_cases f2 : FRK b.F = FRK c.F
           · rw [if_pos (fun e => f1 (e.trans f2.symm)), ← f2]; exact h1
           · rw [if_pos f2] at h2
             have q1 := neq (fun e => f1 (by omega)) h1
             have q2 := neq (fun e => f2 (by omega)) h2
             rw [if_pos (fun e => by omega)]
             exact sgn_le.2 (by omega)
       · rw [if_pos n2] at h2
         rw [if_pos (fun e => n2 (n1.symm.trans e)), n1]; exact h2
     · rw [if_pos n1] at h1
       by_cases n2 : b.N = c.N
       · rw [if_pos (fun e => n1 (e.trans n2.symm)), ← n2]; exact h1
       · rw [if_pos n2] at h2
         have q1 := neq n1 h1
         have q2 := neq n2 h2
         rw [if_pos (fun e => by omega)]
         exact sgn_le.2 (by omega)
   · rw [if_pos k2] at h2
     rw [if_pos (fun e => k2 (k1.symm.trans e)), k1]; exact h2
 · rw [if_pos k1] at h1
   by_cases k2 : b.Kind = c.Kind
   · rw [if_pos (fun e => k1 (e.trans k2.symm)), ← k2]; exact h1
   · rw [if_pos k2] at h2
     have q1 := neq k1 h1
     have q2 := neq k2 h2
     rw [if_pos (fun e => by omega)]
     exact sgn_le.2 (by omega)
end Go.Proofs.YtlpbggnpiogioaaGreat
set_option linter.unusedVariables false
set_option linter.unusedSimpArgs false
set_option linter.unusedSectionVars false
namespace Go.Proofs.YtlpbggnpiogioaaGreat
open Go V Ieee
theorem in_rin (a b c : Int) : spec_l5in.f a b c = some (rin a b c) := rfl
end Go.Proofs.YtlpbggnpiogioaaGreat
set_option linter.unusedVariables false
set_option linter.unusedSimpArgs false
set_option linter.unusedSectionVars false
namespace Go.Proofs.YtlpbggnpiogioaaGreat
open Go V Ieee
def ELT (a b : Entry) : Bool := decide (ICM a.Key b.Key < 0) || (ICM a.Key b.Key == 0 && decide (a.Id < b.Id))
def EOK (e : Entry) : Bool := KOK e.Key && rin e.Id 0 255
theorem elt_iff {a b : Entry} : ELT a b = true ↔ ICM a.Key b.Key < 0 ∨ (ICM a.Key b.Key = 0 ∧ a.Id < b.Id) := by simp [ELT]
theorem elt_trans {a b c : Entry} (h1 : ELT a b = true) (h2 : ELT b c = true) : ELT a c = true := by
 rw [elt_iff] at h1 h2 ⊢
 have t1 := icm_trans a.Key b.Key c.Key
 have t2 := icm_trans c.Key a.Key b.Key
 have t3 := icm_trans b.Key c.Key a.Key
 have s1 := icm_swap a.Key b.Key
 have s2 := icm_swap b.Key c.Key
 have s3 := icm_swap a.Key c.Key
 omega
theorem elt_neg {a b c : Entry} (h1 : ELT a b = false) (h2 : ELT b c = false) : ELT a c = false := by
 cases h : ELT a c with
 | false => rfl
 | true =>
  exfalso
  have n1 : ¬ ELT a b = true := by rw [h1]; simp
  have n2 : ¬ ELT b c = true := by rw [h2]; simp
  rw [elt_iff] at h n1 n2
  have t1 := icm_trans a.Key b.Key c.Key
  have t2 := icm_trans c.Key a.Key b.Key
  have t3 := icm_trans b.Key c.Key a.Key
  have t4 := icm_trans c.Key b.Key a.Key
  have t5 := icm_trans b.Key a.Key c.Key
  have t6 := icm_trans a.Key c.Key b.Key
  have s1 := icm_swap a.Key b.Key
  have s2 := icm_swap b.Key c.Key
  have s3 := icm_swap a.Key c.Key
  omega
theorem elt_le_lt {a b c : Entry} (h1 : ELT b a = false) (h2 : ELT b c = true) : ELT a c = true := by
 cases h : ELT a c with
 | true => rfl
 | false => have := elt_neg h1 h; rw [this] at h2; cases h2
def ECM (a b : Entry) : Int := if ICM a.Key b.Key ≠ 0 then ICM a.Key b.Key else SGN a.Id b.Id
theorem ecm_lt (a b : Entry) : decide (ECM a b < 0) = ELT a b := by
 rw [Bool.eq_iff_iff, elt_iff]
 unfold ECM
 have h2 : SGN a.Id b.Id < 0 ↔ a.Id < b.Id := by unfold SGN; split <;> (try split) <;> omega
 split <;> simp only [decide_eq_true_eq] <;> omega
theorem ecm_swap (a b : Entry) : ECM b a = - ECM a b := by
 unfold ECM
 have h1 := icm_swap a.Key b.Key
 have h2 := sgn_swap a.Id b.Id
 by_cases h : ICM a.Key b.Key = 0
 · rw [if_neg (by simp; omega), if_neg (by simp [h])]; exact h2
 · rw [if_pos (by omega), if_pos h]; exact h1
theorem ecm_ge (a b : Entry) : decide (ECM a b ≥ 0) = !ELT a b := by
 rw [← ecm_lt]
 by_cases h : ECM a b < 0
 · rw [decide_eq_true h, decide_eq_false (by omega)]; rfl
 · rw [decide_eq_false h, decide_eq_true (by omega)]; rfl
theorem ecm_le (a b : Entry) : decide (ECM a b ≤ 0) = !ELT b a := by
 rw [← ecm_lt, ecm_swap a b]
 by_cases h : ECM a b ≤ 0
 · rw [decide_eq_true h, decide_eq_false (by omega)]; rfl
 · rw [decide_eq_false h, decide_eq_true (by omega)]; rfl
theorem ecm_eq (a b : Entry) : (ECM a b == 0) = (!ELT a b && !ELT b a) := by
 rw [← ecm_ge, ← ecm_le]
 by_cases h : ECM a b = 0
 · rw [h]; rfl
 · rw [show (ECM a b == 0) = false by simpa using h]
   by_cases h2 : ECM a b ≥ 0
   · rw [decide_eq_true h2, decide_eq_false (show ¬ ECM a b ≤ 0 by omega)]; rfl
   · rw [decide_eq_false h2]; rfl
theorem impl_compareEntries (a b : Entry) (ha : ok_Item a.Key) (hb : ok_Item b.Key) : impl_compareEntries.f a b = some (ECM a b) := by
 unfold impl_compareEntries.f
 rw [impl_compareItems _ _ ha hb, Option.bind_some, cmpI, Option.bind_some, cmpOr _ (by simp), Option.bind_some]
 unfold ECM
 by_cases h : ICM a.Key b.Key = 0
 · rw [if_neg (by simp [h])]
   by_cases h2 : SGN a.Id b.Id = 0 <;> simp [runL, h, h2]
 · rw [if_pos h]; simp [runL, h]
theorem spec_l11less (a b : Entry) (ha : ok_Item a.Key) (hb : ok_Item b.Key) (va : IOK a.Key = true) (vb : IOK b.Key = true) : spec_l11less.f a b = some (ELT a b) := by
 unfold spec_l11less.f
 rw [spec_ItemCompare _ _ ha hb va vb, Option.bind_some]; rfl
theorem impl_isEntry (e : Entry) (h : ok_Item e.Key) : impl_isEntry.f e = some (EOK e) := by
 unfold impl_isEntry.f EOK
 rw [impl_KeyOk _ h.2.2.1, Option.bind_some]
 cases KOK e.Key <;> rfl
theorem spec_l11entry (e : Entry) (h : ok_Item e.Key) : spec_l11entry.f e = some (EOK e) := by
 unfold spec_l11entry.f EOK
 rw [spec_KeyOk _ h.2.2.1, Option.bind_some]
 cases KOK e.Key with
 | false => rfl
 | true => simp only [if_true, in_rin, Option.bind_some, Bool.true_and]
theorem eok_iok {e : Entry} (h : EOK e = true) : IOK e.Key = true := by
 unfold EOK at h
 rw [Bool.and_eq_true] at h
 exact kok_iok h.1
end Go.Proofs.YtlpbggnpiogioaaGreat
set_option linter.unusedVariables false
set_option linter.unusedSimpArgs false
set_option linter.unusedSectionVars false
namespace Go.Proofs.YtlpbggnpiogioaaGreat
open Go V Ieee
def IXF {α : Type} (g : α → Bool) : List α → Int → Int
 | [], _ => -1
 | x :: xs, i => if g x = true then i else IXF g xs (i + 1)
theorem ixf_out {α : Type} (g : α → Bool) : ∀ (xs : List α) (i : Int), (IXF g xs i = -1 ∧ xs.any g = false) ∨ ∃ (k : Nat) (hk : k < xs.length), IXF g xs i = i + k ∧ g xs[k] = true ∧ xs.any g = true ∧ ∀ j (hj : j < k), g (xs[j]'(by omega)) = false
 | [], i => .inl ⟨rfl, rfl⟩
 | x :: xs, i => by
  unfold IXF
  cases hx : g x with
  | true => exact .inr ⟨0, by simp, by simp, by simpa using hx, by simp [hx], fun j hj => by omega⟩
  | false =>
   rw [if_neg (by decide)]
   rcases ixf_out g xs (i + 1) with ⟨h1, h2⟩ | ⟨k, hk, h1, h2, h3, h4⟩
   · exact .inl ⟨h1, by simp [hx, h2]⟩
   · refine .inr ⟨k + 1, by simpa using hk, by omega, by simpa using h2, by simp [h3], fun j hj => ?_⟩
     cases j with
     | zero => simpa using hx
     | succ j => simpa using h4 j (by omega)
theorem ixf_any {α : Type} (g : α → Bool) (xs : List α) : decide (IXF g xs 0 ≥ 0) = xs.any g := by
 rcases ixf_out g xs 0 with ⟨h1, h2⟩ | ⟨k, hk, h1, _, h2, _⟩
 · rw [h1, h2]; rfl
 · rw [h2]; exact decide_eq_true (by omega)
theorem iter_ixf {α : Type} {body : Int → Option (Int ⊕ Int)} (xs : List α) (g : α → Bool) (hb : ∀ (k : Nat) (hk : k < xs.length), body (k : Int) = if g xs[k] = true then some (.inr (k : Int)) else some (.inl ((k : Int) + 1))) (hn : body (xs.length : Int) = some (.inr (-1))) : iter body 0 = some (IXF g xs 0) := by
 have key : ∀ (m k : Nat), k + m = xs.length → iter body (k : Int) = some (IXF g (xs.drop k) (k : Int)) := by
  intro m
  induction m with
  | zero =>
   intro k hk
   have : k = xs.length := by omega
   subst this
   rw [List.drop_length, iter_r hn]; rfl
  | succ m ih =>
   intro k hk
   have hlt : k < xs.length := by omega
   have h := hb k hlt
   rw [List.drop_eq_getElem_cons hlt]
   unfold IXF
   cases hg : g xs[k] with
   | true => rw [hg, if_pos rfl] at h; rw [iter_r h, if_pos rfl]
   | false =>
    rw [hg, if_neg (by decide)] at h
    rw [iter_l h, if_neg (by decide)]
    have := ih (k + 1) (by omega)
    rw [show ((k + 1 : Nat) : Int) = (k : Int) + 1 by omega] at this
    exact this
 have := key xs.length 0 (by omega)
 rwa [List.drop_zero] at this
theorem mset_any {m : MD} (h : ∀ p ∈ m, p.2 = true) (k : Int) : mget m k = decide (k ∈ m.map (·.1)) := by
 rw [mget_all h]
 induction m with
 | nil => rfl
 | cons p m ih =>
  rw [List.any_cons, ih fun q hq => h q (by simp [hq])]
  by_cases hk : k = p.1 <;> simp [hk]
end Go.Proofs.YtlpbggnpiogioaaGreat
set_option linter.unusedVariables false
set_option linter.unusedSimpArgs false
set_option linter.unusedSectionVars false
namespace Go.Proofs.YtlpbggnpiogioaaGreat
open Go V Ieee
theorem iter_chk {O : Type} {body : Int → Option (Int ⊕ O)} (n : Nat) (t : Nat → Bool) (o1 : O) (fin : Option O)
    (h : ∀ k, k < n → (∀ j, j < k → t j = true) → body k = if t k = true then some (.inl ((k : Int) + 1)) else some (.inr o1))
    (hn : (∀ j, j < n → t j = true) → body n = fin.bind fun o => some (.inr o)) :
    iter body 0 = if (List.range n).all t = true then fin else some o1 := by
  have key : ∀ m, m ≤ n → (∀ j, j < n - m → t j = true) → iter body ((n - m : Nat) : Int) = if (List.range' (n - m) m).all t = true then fin else some o1 := by
    intro m
    induction m with
    | zero => intro _ hj; rw [iter_eq, Nat.sub_zero, hn (by simpa using hj)]; cases fin <;> rfl
    | succ m ih =>
      intro hm hj
      rw [iter_eq, h (n - (m + 1)) (by omega) hj, List.range'_succ, List.all_cons]
      cases ht : t (n - (m + 1)) with
      | false => simp
      | true =>
        simp only [if_true, Option.bind_some, Bool.true_and]
        rw [show ((n - (m + 1) : Nat) : Int) + 1 = ((n - m : Nat) : Int) by omega, ih (by omega) fun j hj2 => by
          by_cases e : j = n - (m + 1)
          · rw [e]; exact ht
          · exact hj j (by omega), show n - (m + 1) + 1 = n - m by omega]
  have := key n (Nat.le_refl _) (fun j hj => by omega)
  rw [Nat.sub_self] at this
  rw [List.range_eq_range']
  exact this
def lk (es : List Entry) (k : Nat) : Entry := es.getD k default
theorem lk_get (es : List Entry) (k : Nat) (h : k < es.length) : lk es k = es[k] := by simp [lk, h]
theorem lk_at (es : List Entry) (k : Nat) : at_ es (k : Int) = lk es k := rfl
def ASC (es : List Entry) : Bool := (List.range es.length).all fun k => decide (k = 0) || ELT (lk es (k - 1)) (lk es k)
def NOK (d : Node) : Bool := (d.Entries.all EOK && decide (d.Entries.length ≤ 4) && ASC d.Entries) && (if d.Leaf = true then decide (d.Kids.length = 0) else decide (0 < d.Entries.length) && decide (d.Kids.length = d.Entries.length + 1))
def inB (lo hi : Option Entry) (e : Entry) : Bool := (lo.all fun l => !ELT e l) && hi.all fun h => ELT e h
def BND (es : List Entry) (lo hi : Option Entry) : Bool := es.all (inB lo hi)
theorem all_range {α : Type} [Inhabited α] (xs : List α) (g : α → Bool) : xs.all g = (List.range xs.length).all fun k => g (xs.getD k default) := by
 rw [Bool.eq_iff_iff, List.all_eq_true, List.all_eq_true]
 refine ⟨fun h k hk => ?_, fun h x hx => ?_⟩
 · have hk := List.mem_range.1 hk
   rw [List.getD_eq_getElem?_getD, List.getElem?_eq_getElem hk]; exact h _ (List.getElem_mem hk)
 · obtain ⟨k, hk, rfl⟩ := List.getElem_of_mem hx
   have := h k (List.mem_range.2 hk)
   rwa [List.getD_eq_getElem?_getD, List.getElem?_eq_getElem hk] at this
def CHK (es : List Entry) (lo hi : Option Entry) (k : Nat) : Bool := EOK (lk es k) && (decide (k = 0) || ELT (lk es (k - 1)) (lk es k)) && inB lo hi (lk es k)
theorem chk_all (es : List Entry) (lo hi : Option Entry) : (List.range es.length).all (CHK es lo hi) = (es.all EOK && ASC es && BND es lo hi) := by
 unfold BND ASC
 rw [all_range es EOK, all_range es (inB lo hi), Bool.eq_iff_iff]
 simp only [List.all_eq_true, Bool.and_eq_true, CHK, lk]
 exact ⟨fun h => ⟨⟨fun x hx => (h x hx).1.1, fun x hx => (h x hx).1.2⟩, fun x hx => (h x hx).2⟩, fun h x hx => ⟨⟨h.1.1 x hx, h.1.2 x hx⟩, h.2 x hx⟩⟩
def cntF : List Bool → Nat
 | [] => 0
 | b :: l => (bif b then 0 else 1) + cntF l
theorem cntF_set : ∀ (l : List Bool) (i : Nat) (h : i < l.length), l[i] = false → cntF (l.set i true) + 1 = cntF l
 | b :: l, 0, _, e => by simp at e; subst e; simp [cntF]; omega
 | b :: l, i + 1, h, e => by
  have := cntF_set l i (by simpa using h) (by simpa using e)
  simp only [List.set_cons_succ, cntF]; omega
theorem cntF_rep (n : Nat) : cntF (List.replicate n false) = n := by
 induction n with
 | zero => rfl
 | succ n ih => rw [List.replicate_succ, cntF, ih]; simp; omega
abbrev SD := List Bool × Int
def LOi (es : List Entry) (lo : Option Entry) (i : Nat) : Option Entry := if 0 < i then some (lk es (i - 1)) else lo
def HIi (es : List Entry) (hi : Option Entry) (i : Nat) : Option Entry := if i < es.length then some (lk es i) else hi
def WK (W : SD → Int → Option Entry → Option Entry → Option (SD × List Entry)) (es : List Entry) (lo hi : Option Entry) : List Int → Nat → SD → List Entry → Option (SD × List Entry)
 | [], _, s, acc => some (s, acc)
 | k :: ks, i, s, acc => (W s k (LOi es lo i) (HIi es hi i)).bind fun r => WK W es lo hi ks (i + 1) r.1 (acc ++ r.2)
def DP (d dep : Int) : Int := if d = 0 then dep else d
def WW (ns : List Node) : Nat → SD → Int → Int → Option Entry → Option Entry → Option (SD × List Entry)
 | 0, _, _, _, _, _ => none
 | n + 1, s, a, dep, lo, hi =>
  if 0 ≤ a ∧ a < (ns.length : Int) ∧ at_ s.1 a = false then
   if (NOK (at_ ns a) && BND (at_ ns a).Entries lo hi) = true then
    if (at_ ns a).Leaf = true then
     if DP s.2 dep = dep then some ((s.1.set a.toNat true, DP s.2 dep), (at_ ns a).Entries) else none
    else WK (fun s k l h => WW ns n s k (dep + 1) l h) (at_ ns a).Entries lo hi (at_ ns a).Kids 0 (s.1.set a.toNat true, s.2) []
   else none
  else none
theorem nok_len {d : Node} (h : NOK d = true) : d.Entries.length ≤ 4 := by
 unfold NOK at h
 simp only [Bool.and_eq_true, decide_eq_true_eq] at h
 exact h.1.1.2
theorem ww_len (ns : List Node) : ∀ (n : Nat) (s : SD) (a dep : Int) (lo hi : Option Entry) (r : SD × List Entry), s.1.length = ns.length → WW ns n s a dep lo hi = some r → r.1.1.length = ns.length ∧ r.2.length + 4 * cntF r.1.1 ≤ 4 * cntF s.1 ∧ cntF r.1.1 < cntF s.1
  | 0, s, a, dep, lo, hi, r, hl, h => by cases h
  | n + 1, s, a, dep, lo, hi, r, hl, h => by
    unfold WW at h
    split at h
    case isFalse => cases h
    rename_i hc
    obtain ⟨c1, c2, c3⟩ := hc
    split at h
    case isFalse => cases h
    rename_i hN
    simp only [Bool.and_eq_true] at hN
    have hib : a.toNat < s.1.length := by omega
    have hs : s.1[a.toNat] = false := by
      have : at_ s.1 a = s.1[a.toNat] := by unfold at_; rw [List.getD_eq_getElem?_getD, List.getElem?_eq_getElem hib]; rfl
      rw [← this]; exact c3
    have hcf := cntF_set s.1 a.toNat hib hs
    split at h
    · split at h
      case isFalse => cases h
      obtain rfl := Option.some.inj h
      have := nok_len hN.1
      refine ⟨by simpa using hl, ?_, ?_⟩ <;> simp only <;> omega
    · have key : ∀ (ks : List Int) (i : Nat) (s1 : SD) (acc : List Entry), s1.1.length = ns.length → WK (fun s k l h => WW ns n s k (dep + 1) l h) (at_ ns a).Entries lo hi ks i s1 acc = some r → r.1.1.length = ns.length ∧ r.2.length + 4 * cntF r.1.1 ≤ acc.length + 4 * cntF s1.1 ∧ cntF r.1.1 ≤ cntF s1.1 := by
        intro ks
        induction ks with
        | nil => intro i s1 acc hl1 he; obtain rfl := Option.some.inj he; exact ⟨hl1, Nat.le_refl _, Nat.le_refl _⟩
        | cons k ks ih =>
          intro i s1 acc hl1 he
          unfold WK at he
          obtain ⟨q, hq, he⟩ := Option.bind_eq_some_iff.1 he
          obtain ⟨q1, q2, q3⟩ := ww_len ns n s1 k (dep + 1) _ _ q hl1 hq
          obtain ⟨u1, u2, u3⟩ := ih (i + 1) q.1 (acc ++ q.2) q1 he
          rw [List.length_append] at u2
          exact ⟨u1, by omega, by omega⟩
      obtain ⟨u1, u2, u3⟩ := key _ 0 _ [] (by simpa using hl) h
      simp only [List.length_nil] at u2 u3
      exact ⟨u1, by omega, by omega⟩
end Go.Proofs.YtlpbggnpiogioaaGreat
set_option linter.unusedVariables false
set_option linter.unusedSimpArgs false
set_option linter.unusedSectionVars false
namespace Go.Proofs.YtlpbggnpiogioaaGreat
open Go V Ieee
def okB (lo : Option Entry) : Prop := ∀ l, lo = some l → ok_Item l.Key ∧ IOK l.Key = true
def okNs (ns : List Node) : Prop := ∀ d ∈ ns, ∀ e ∈ d.Entries, ok_Item e.Key
theorem lk_mem {es : List Entry} {k : Nat} (h : k < es.length) : lk es k ∈ es := by rw [lk_get _ _ h]; exact List.getElem_mem h
theorem spec_b0 (t : Tree) (w : l11walk) (a dep : Int) (lo hi : Option Entry) (R : Tree → l11walk → Int → Int → List Entry → List Entry → Option l11walk) (k : Nat) (hk : k < (at_ t.Nodes a).Entries.length) (hl4 : (at_ t.Nodes a).Entries.length ≤ 4)
    (hok : ∀ e ∈ (at_ t.Nodes a).Entries, ok_Item e.Key) (hlo : okB lo) (hhi : okB hi) (hpv : 0 < k → IOK (lk (at_ t.Nodes a).Entries (k - 1)).Key = true) :
    spec_l11go.b0 t w a dep lo.toList hi.toList R (k : Int) = if CHK (at_ t.Nodes a).Entries lo hi k = true then some (.inl ((k : Int) + 1)) else some (.inr (l11walk.mk (w.seen.set a.toNat true) w.deep true w.all)) := by
  unfold spec_l11go.b0 CHK
  generalize (at_ t.Nodes a).Entries = es at *
  have hokk := hok _ (lk_mem hk)
  rw [if_pos (by simp; omega), if_pos ⟨by omega, by omega⟩]
  simp only [lk_at]
  rw [spec_l11entry (Entry.mk (lk es k).Key (lk es k).Id) hokk, Option.bind_some]
  have e0 : EOK (Entry.mk (lk es k).Key (lk es k).Id) = EOK (lk es k) := rfl
  rw [e0, w64 (n := (k : Int) + 1) (by omega) (by omega)]
  cases hE : EOK (lk es k) with
  | false => rfl
  | true =>
    have hi1 := eok_iok hE
    have hlow : ∀ l, lo = some l → spec_l11less.f (Entry.mk (lk es k).Key (lk es k).Id) (Entry.mk l.Key l.Id) = some (ELT (lk es k) l) := fun l hl => spec_l11less _ _ hokk (hlo l hl).1 hi1 (hlo l hl).2
    have hhig : ∀ l, hi = some l → spec_l11less.f (Entry.mk (lk es k).Key (lk es k).Id) (Entry.mk l.Key l.Id) = some (ELT (lk es k) l) := fun l hl => spec_l11less _ _ hokk (hhi l hl).1 hi1 (hhi l hl).2
    by_cases hk0 : k = 0
    · subst hk0
      have z0 : decide (((0 : Nat) : Int) > 0) = false := rfl
      rw [z0]
      rcases lo with _ | l <;> rcases hi with _ | h
      · rfl
      · simp only [Option.toList_some, Option.toList_none, at_, List.length_cons, List.length_nil, Int.toNat_zero, List.getD_cons_zero]
        rw [hhig h rfl]
        cases hq : ELT (lk es 0) h <;> simp [inB, hq]
      · simp only [Option.toList_some, Option.toList_none, at_, List.length_cons, List.length_nil, Int.toNat_zero, List.getD_cons_zero]
        rw [hlow l rfl]
        cases hq : ELT (lk es 0) l <;> simp [inB, hq]
      · simp only [Option.toList_some, Option.toList_none, at_, List.length_cons, List.length_nil, Int.toNat_zero, List.getD_cons_zero]
        rw [hlow l rfl, hhig h rfl]
        cases hq : ELT (lk es 0) l <;> cases hq2 : ELT (lk es 0) h <;> simp [inB, hq, hq2]
    · have hpos : decide ((k : Int) > 0) = true := by simp; omega
      have hw1 : IntKind.wrap .i64 ((k : Int) - 1) = ((k - 1 : Nat) : Int) := by rw [w64 (by omega) (by omega)]; omega
      have hp1 := hok _ (lk_mem (es := es) (k := k - 1) (by omega))
      have hless := spec_l11less (Entry.mk (lk es (k - 1)).Key (lk es (k - 1)).Id) (Entry.mk (lk es k).Key (lk es k).Id) hp1 hokk (hpv (by omega)) hi1
      have e1 : ELT (Entry.mk (lk es (k - 1)).Key (lk es (k - 1)).Id) (Entry.mk (lk es k).Key (lk es k).Id) = ELT (lk es (k - 1)) (lk es k) := rfl
      rw [e1] at hless
      rw [hpos, hw1, if_neg (by decide), if_pos rfl, if_pos ⟨by omega, by omega⟩, lk_at, hless, Option.bind_some]
      have hd0 : decide (k = 0) = false := by simpa using hk0
      rw [hd0]
      cases hA : ELT (lk es (k - 1)) (lk es k) with
      | false => rfl
      | true =>
        rcases lo with _ | l <;> rcases hi with _ | h
        · rfl
        · simp only [Option.toList_some, Option.toList_none, at_, List.length_cons, List.length_nil, Int.toNat_zero, List.getD_cons_zero]
          rw [hhig h rfl]
          cases hq : ELT (lk es k) h <;> simp [inB, hq]
        · simp only [Option.toList_some, Option.toList_none, at_, List.length_cons, List.length_nil, Int.toNat_zero, List.getD_cons_zero]
          rw [hlow l rfl]
          cases hq : ELT (lk es k) l <;> simp [inB, hq]
        · simp only [Option.toList_some, Option.toList_none, at_, List.length_cons, List.length_nil, Int.toNat_zero, List.getD_cons_zero]
          rw [hlow l rfl, hhig h rfl]
          cases hq : ELT (lk es k) l <;> cases hq2 : ELT (lk es k) h <;> simp [inB, hq, hq2]
def SRw (N : Nat) (pre : List Entry) (r : Option (SD × List Entry)) (w : l11walk) : Prop := w.seen.length = N ∧ match r with
 | none => w.wrong = true
 | some q => w = l11walk.mk q.1.1 q.1.2 false (pre ++ q.2)
theorem at_eq {α : Type} [Inhabited α] (xs : List α) (a : Int) (h0 : 0 ≤ a) (h1 : a < xs.length) : at_ xs a = xs[a.toNat]'(by omega) := by
 have h2 : a.toNat < xs.length := by omega
 unfold at_; rw [List.getD_eq_getElem?_getD, List.getElem?_eq_getElem h2]; rfl
theorem okB_some {es : List Entry} {k : Nat} (hk : k < es.length) (hok : ∀ e ∈ es, ok_Item e.Key) (hE : ∀ e ∈ es, EOK e = true) : okB (some (lk es k)) := by
 intro l hl
 obtain rfl := Option.some.inj hl
 exact ⟨hok _ (lk_mem hk), eok_iok (hE _ (lk_mem hk))⟩
theorem spec_go (t : Tree) (hN : t.Nodes.length ≤ 300) (hok : okNs t.Nodes) (hkl : ∀ d ∈ t.Nodes, d.Kids.length ≤ 2000000) : ∀ (n : Nat) (w : l11walk) (a dep : Int) (lo hi : Option Entry), w.seen.length = t.Nodes.length → okB lo → okB hi → 0 ≤ dep → dep + n ≤ 100000 →
    (w.wrong = false → w.all.length + 4 * cntF w.seen ≤ 1200) → 1 ≤ n → (w.wrong = false → cntF w.seen < n) →
    ∃ w', spec_l11go.g n t w a dep lo.toList hi.toList = some w' ∧ SRw t.Nodes.length w.all (bif w.wrong then none else WW t.Nodes n (w.seen, w.deep) a dep lo hi) w'
  | 0, w, a, dep, lo, hi, hl, hlo, hhi, hd, hd2, hal, h1, hc => by omega
  | n + 1, w, a, dep, lo, hi, hl, hlo, hhi, hd, hd2, hal, h1, hc => by
    show ∃ w', spec_l11go.h (spec_l11go.g n) t w a dep lo.toList hi.toList = some w' ∧ _
    unfold spec_l11go.h
    cases hw : w.wrong with
    | true =>
      refine ⟨l11walk.mk w.seen w.deep true w.all, ?_, hl, ?_⟩
      · simp
      · rfl
    | false =>
      have hal := hal hw
      have hc := hc hw
      simp only [cond_false]
      by_cases hr : 0 ≤ a ∧ a < (t.Nodes.length : Int)
      case neg =>
        refine ⟨l11walk.mk w.seen w.deep true w.all, ?_, hl, ?_⟩
        · have : ((false || decide (a < 0)) || decide (a ≥ (t.Nodes.length : Int))) = true := by simp; omega
          rw [this]; rfl
        · rw [WW, if_neg (fun h => hr ⟨h.1, h.2.1⟩)]
      case pos =>
        have e1 : ((false || decide (a < 0)) || decide (a ≥ (t.Nodes.length : Int))) = false := by simp; omega
        rw [e1, if_neg (by decide), if_pos (show 0 ≤ a ∧ a < (w.seen.length : Int) by omega), Option.bind_some]
        cases hs : at_ w.seen a with
        | true =>
          refine ⟨l11walk.mk w.seen w.deep true w.all, rfl, hl, ?_⟩
          rw [WW, if_neg (fun h => by have := h.2.2; rw [show at_ (w.seen, w.deep).1 a = at_ w.seen a from rfl, hs] at this; cases this)]
        | false =>
          rw [if_neg (by decide), if_pos (show 0 ≤ a ∧ a < (w.seen.length : Int) by omega), if_pos hr]
          have hmem : at_ t.Nodes a ∈ t.Nodes := by rw [at_eq _ _ hr.1 hr.2]; exact List.getElem_mem _
          have hoke := hok _ hmem
          have hib : a.toNat < w.seen.length := by omega
          have hcf := cntF_set w.seen a.toNat hib (by rw [← at_eq w.seen a hr.1 (by omega)]; exact hs)
          generalize hRR : WW t.Nodes (n + 1) (w.seen, w.deep) a dep lo hi = RR
          rw [WW, if_pos ⟨hr.1, hr.2, hs⟩] at hRR
          by_cases h4 : (at_ t.Nodes a).Entries.length ≤ 4
          case neg =>
            rw [if_pos (by simp; omega)]
            refine ⟨_, rfl, by simpa using hl, ?_⟩
            have : NOK (at_ t.Nodes a) = false := by unfold NOK; rw [decide_eq_false h4]; simp
            rw [this] at hRR
            obtain rfl : RR = none := hRR.symm
            rfl
          case pos =>
            rw [if_neg (by simp; omega)]
            -- the entries' loop
            have hloop := fun fin hfin => iter_chk (body := spec_l11go.b0 t w a dep lo.toList hi.toList (spec_l11go.g n)) (at_ t.Nodes a).Entries.length (CHK (at_ t.Nodes a).Entries lo hi) (l11walk.mk (w.seen.set a.toNat true) w.deep true w.all) fin
              (fun k hk hp => spec_b0 t w a dep lo hi _ k hk h4 hoke hlo hhi fun hk0 => by
                have := hp (k - 1) (by omega)
                unfold CHK at this
                simp only [Bool.and_eq_true] at this
                exact eok_iok this.1.1) hfin
            have hend : spec_l11go.b0 t w a dep lo.toList hi.toList (spec_l11go.g n) ((at_ t.Nodes a).Entries.length : Int) = (if (at_ t.Nodes a).Leaf = true then ((if (w.deep == (0 : Int)) = true then (some dep) else (some w.deep)).bind fun y553 => ((if ((y553 != dep) || (decide ((((at_ t.Nodes a).Kids).length : Int) > (0 : Int)))) = true then (some true) else (some w.wrong)).bind fun y567 => (if w.all.length + ((at_ t.Nodes a).Entries).length ≤ Lim then (some (l11walk.mk (w.seen.set (a).toNat true) y553 y567 (w.all ++ (at_ t.Nodes a).Entries))) else none))) else (if ((decide ((((at_ t.Nodes a).Entries).length : Int) < (1 : Int))) || ((((at_ t.Nodes a).Kids).length : Int) != (IntKind.wrap .i64 ((((at_ t.Nodes a).Entries).length : Int) + (1 : Int))))) = true then (some (l11walk.mk (w.seen.set (a).toNat true) w.deep true w.all)) else (iter (spec_l11go.b1 t a dep lo.toList hi.toList (spec_l11go.g n)) ((0 : Int), (w.seen.set (a).toNat true), w.deep, w.wrong, w.all)))).bind fun o => some (Sum.inr o) := by
              unfold spec_l11go.b0
              rw [if_neg (by simp)]
            rw [hloop _ (fun _ => hend), chk_all]
            have hNB : NOK (at_ t.Nodes a) = ((((at_ t.Nodes a).Entries.all EOK) && ASC (at_ t.Nodes a).Entries) && (if (at_ t.Nodes a).Leaf = true then decide ((at_ t.Nodes a).Kids.length = 0) else decide (0 < (at_ t.Nodes a).Entries.length) && decide ((at_ t.Nodes a).Kids.length = (at_ t.Nodes a).Entries.length + 1))) := by
              unfold NOK; rw [decide_eq_true h4, Bool.and_true]
            rw [hNB] at hRR
            cases hA : (at_ t.Nodes a).Entries.all EOK with
            | false => rw [hA] at hRR; obtain rfl : RR = none := hRR.symm; exact ⟨_, rfl, by simpa using hl, rfl⟩
            | true =>
            rw [hA] at hRR
            cases hB : ASC (at_ t.Nodes a).Entries with
            | false => rw [hB] at hRR; obtain rfl : RR = none := hRR.symm; exact ⟨_, rfl, by simpa using hl, rfl⟩
            | true =>
            rw [hB] at hRR
            have hE := List.all_eq_true.1 hA
            cases hC : BND (at_ t.Nodes a).Entries lo hi with
            | false => rw [hC, Bool.and_false] at hRR; obtain rfl : RR = none := hRR.symm; exact ⟨_, rfl, by simpa using hl, rfl⟩
            | true =>
            rw [hC] at hRR
            simp only [Bool.and_true, Bool.true_and, if_true] at hRR ⊢
            have hk6 := hkl _ hmem
            cases hL : (at_ t.Nodes a).Leaf with
            | true =>
              rw [hL] at hRR
              simp only [if_true] at hRR ⊢
              have eD : (if (w.deep == (0 : Int)) = true then some dep else some w.deep) = some (DP w.deep dep) := by unfold DP; by_cases h : w.deep = 0 <;> simp [h]
              rw [eD, Option.bind_some, hw]
              have hL6 : w.all.length + (at_ t.Nodes a).Entries.length ≤ Lim := by simp only [Lim]; omega
              by_cases hk0 : (at_ t.Nodes a).Kids.length = 0
              · rw [decide_eq_true hk0, if_pos rfl] at hRR
                rw [decide_eq_false (show ¬ (((at_ t.Nodes a).Kids.length : Int) > 0) by omega), Bool.or_false]
                by_cases hd3 : DP w.deep dep = dep
                · rw [if_pos hd3] at hRR
                  rw [if_neg (by simp [hd3]), Option.bind_some, if_pos hL6]
                  obtain rfl := hRR
                  exact ⟨_, rfl, by simpa using hl, rfl⟩
                · rw [if_neg hd3] at hRR
                  rw [if_pos (by simp [hd3]), Option.bind_some, if_pos hL6]
                  obtain rfl := hRR
                  exact ⟨_, rfl, by simpa using hl, rfl⟩
              · rw [decide_eq_false hk0, if_neg (by decide)] at hRR
                rw [decide_eq_true (show ((at_ t.Nodes a).Kids.length : Int) > 0 by omega), Bool.or_true, if_pos rfl, Option.bind_some, if_pos hL6]
                obtain rfl := hRR
                exact ⟨_, rfl, by simpa using hl, rfl⟩
            | false =>
              rw [hL] at hRR
              simp only [Bool.false_eq_true, if_false] at hRR ⊢
              rw [w64 (by omega) (by omega)]
              by_cases hq : 0 < (at_ t.Nodes a).Entries.length ∧ (at_ t.Nodes a).Kids.length = (at_ t.Nodes a).Entries.length + 1
              case neg =>
                rw [if_neg (by simpa using hq)] at hRR
                obtain rfl := hRR
                rw [if_pos (by simp; omega)]
                exact ⟨_, rfl, by simpa using hl, rfl⟩
              case pos =>
                rw [if_pos (by simpa using hq)] at hRR
                obtain rfl := hRR
                rw [if_neg (by simp; omega), hw]
                -- the kids' loop
                have key : ∀ (ks : List Int) (i : Nat) (s1 : SD) (wr : Bool) (al acc : List Entry), (at_ t.Nodes a).Kids.drop i = ks → i ≤ (at_ t.Nodes a).Kids.length → s1.1.length = t.Nodes.length → (wr = false → al = w.all ++ acc ∧ al.length + 4 * cntF s1.1 ≤ 1200 ∧ cntF s1.1 < n) →
                    ∃ w', iter (spec_l11go.b1 t a dep lo.toList hi.toList (spec_l11go.g n)) ((i : Int), s1.1, s1.2, wr, al) = some w' ∧ SRw t.Nodes.length w.all (bif wr then none else WK (fun s k l h => WW t.Nodes n s k (dep + 1) l h) (at_ t.Nodes a).Entries lo hi ks i s1 acc) w' := by
                  intro ks
                  induction ks with
                  | nil =>
                    intro i s1 wr al acc hks hi2 hl1 hwr
                    have hie : i = (at_ t.Nodes a).Kids.length := by
                      have := congrArg List.length hks
                      rw [List.length_drop] at this; simp at this; omega
                    subst hie
                    refine ⟨l11walk.mk s1.1 s1.2 wr al, iter_r ?_, hl1, ?_⟩
                    · unfold spec_l11go.b1; rw [if_neg (by simp)]; rfl
                    · cases wr with
                      | true => rfl
                      | false => rw [(hwr rfl).1]; rfl
                  | cons k ks ih =>
                    intro i s1 wr al acc hks hi2 hl1 hwr
                    have hik : i < (at_ t.Nodes a).Kids.length := by
                      have := congrArg List.length hks
                      rw [List.length_drop] at this; simp at this; omega
                    have hk : at_ (at_ t.Nodes a).Kids (i : Int) = k := by
                      rw [at_nat _ i hik]
                      have := List.drop_eq_getElem_cons hik
                      rw [hks] at this
                      exact (List.cons.inj this).1.symm
                    have hks2 : (at_ t.Nodes a).Kids.drop (i + 1) = ks := by
                      have := List.drop_eq_getElem_cons hik
                      rw [hks] at this
                      exact (List.cons.inj this).2.symm
                    have eLO : (if decide ((i : Int) > 0) = true then (if 0 ≤ IntKind.wrap .i64 ((i : Int) - 1) ∧ IntKind.wrap .i64 ((i : Int) - 1) < ((at_ t.Nodes a).Entries.length : Int) then some [Entry.mk (at_ (at_ t.Nodes a).Entries (IntKind.wrap .i64 ((i : Int) - 1))).Key (at_ (at_ t.Nodes a).Entries (IntKind.wrap .i64 ((i : Int) - 1))).Id] else none) else some lo.toList) = some (LOi (at_ t.Nodes a).Entries lo i).toList := by
                      unfold LOi
                      by_cases h0 : 0 < i
                      · rw [if_pos (by simpa using h0), if_pos h0, show IntKind.wrap .i64 ((i : Int) - 1) = ((i - 1 : Nat) : Int) by rw [w64 (by omega) (by omega)]; omega, if_pos ⟨by omega, by omega⟩]; rfl
                      · rw [if_neg (by simpa using h0), if_neg h0]
                    have eHI : (if decide ((i : Int) < ((at_ t.Nodes a).Entries.length : Int)) = true then (if 0 ≤ (i : Int) ∧ (i : Int) < ((at_ t.Nodes a).Entries.length : Int) then some [Entry.mk (at_ (at_ t.Nodes a).Entries (i : Int)).Key (at_ (at_ t.Nodes a).Entries (i : Int)).Id] else none) else some hi.toList) = some (HIi (at_ t.Nodes a).Entries hi i).toList := by
                      unfold HIi
                      by_cases h0 : i < (at_ t.Nodes a).Entries.length
                      · rw [if_pos (by simpa using h0), if_pos h0, if_pos ⟨by omega, by omega⟩]; rfl
                      · rw [if_neg (by simpa using h0), if_neg h0]
                    have hbl : okB (LOi (at_ t.Nodes a).Entries lo i) := by
                      unfold LOi; split
                      · exact okB_some (by omega) hoke hE
                      · exact hlo
                    have hbh : okB (HIi (at_ t.Nodes a).Entries hi i) := by
                      unfold HIi; split
                      · exact okB_some (by omega) hoke hE
                      · exact hhi
                    have hstep : ∀ w1, spec_l11go.g n t (l11walk.mk s1.1 s1.2 wr al) k (dep + 1) (LOi (at_ t.Nodes a).Entries lo i).toList (HIi (at_ t.Nodes a).Entries hi i).toList = some w1 → spec_l11go.b1 t a dep lo.toList hi.toList (spec_l11go.g n) ((i : Int), s1.1, s1.2, wr, al) = some (.inl (((i + 1 : Nat) : Int), w1.seen, w1.deep, w1.wrong, w1.all)) := by
                      intro w1 h
                      unfold spec_l11go.b1
                      simp only []
                      rw [if_pos (by simp; omega), eLO, Option.bind_some, eHI, Option.bind_some, if_pos ⟨by omega, by omega⟩, hk, w64 (n := dep + 1) (by omega) (by omega), h, Option.bind_some, w64 (by omega) (by omega)]
                      rfl
                    obtain ⟨w1, hg, hl2, hsr⟩ := spec_go t hN hok hkl n (l11walk.mk s1.1 s1.2 wr al) k (dep + 1) _ _ hl1 hbl hbh (by omega) (by omega) (fun h => (hwr h).2.1) (by omega) (fun h => (hwr h).2.2)
                    rw [iter_l (hstep w1 hg)]
                    cases wr with
                    | true =>
                      have hsr : w1.wrong = true := hsr
                      obtain ⟨w', h1, h2⟩ := ih (i + 1) (w1.seen, w1.deep) w1.wrong w1.all [] hks2 (by omega) hl2 (fun h => by rw [hsr] at h; cases h)
                      refine ⟨w', h1, ?_⟩
                      rw [hsr] at h2; exact h2
                    | false =>
                      obtain ⟨q1, q2, q3⟩ := hwr rfl
                      simp only [cond_false] at hsr ⊢
                      cases hWW : WW t.Nodes n s1 k (dep + 1) (LOi (at_ t.Nodes a).Entries lo i) (HIi (at_ t.Nodes a).Entries hi i) with
                      | none =>
                        rw [show ((s1.1, s1.2) : SD) = s1 from rfl, hWW] at hsr
                        have hsr : w1.wrong = true := hsr
                        obtain ⟨w', h1, h2⟩ := ih (i + 1) (w1.seen, w1.deep) w1.wrong w1.all [] hks2 (by omega) hl2 (fun h => by rw [hsr] at h; cases h)
                        refine ⟨w', h1, ?_⟩
                        rw [hsr] at h2
                        rw [WK, hWW]; exact h2
                      | some r =>
                        rw [show ((s1.1, s1.2) : SD) = s1 from rfl, hWW] at hsr
                        have hsr : w1 = l11walk.mk r.1.1 r.1.2 false (al ++ r.2) := hsr
                        obtain ⟨u1, u2, u3⟩ := ww_len t.Nodes n s1 k (dep + 1) _ _ r hl1 hWW
                        subst hsr
                        obtain ⟨w', h1, h2⟩ := ih (i + 1) r.1 false (al ++ r.2) (acc ++ r.2) hks2 (by omega) u1 (fun _ => ⟨by rw [q1]; simp, by rw [List.length_append]; omega, by omega⟩)
                        refine ⟨w', h1, ?_⟩
                        rw [WK, hWW]; exact h2
                obtain ⟨w', h1, h2⟩ := key _ 0 (w.seen.set a.toNat true, w.deep) false w.all [] rfl (by omega) (by simpa using hl) (fun _ => ⟨by simp, by simp only; omega, by simp only; omega⟩)
                exact ⟨w', h1, h2⟩
end Go.Proofs.YtlpbggnpiogioaaGreat
set_option linter.unusedVariables false
set_option linter.unusedSimpArgs false
set_option linter.unusedSectionVars false
namespace Go.Proofs.YtlpbggnpiogioaaGreat
open Go V Ieee
theorem iter_chks {O : Type} {body : Int → Option (Int ⊕ O)} (s n : Nat) (t : Nat → Bool) (o1 : O) (fin : Option O) (hsn : s ≤ n)
    (h : ∀ k, s ≤ k → k < n → body k = if t k = true then some (.inl ((k : Int) + 1)) else some (.inr o1))
    (hn : body n = fin.bind fun o => some (.inr o)) :
    iter body (s : Int) = if (List.range' s (n - s)).all t = true then fin else some o1 := by
  have key : ∀ m, s + m ≤ n → iter body ((n - m : Nat) : Int) = if (List.range' (n - m) m).all t = true then fin else some o1 := by
    intro m
    induction m with
    | zero => intro _; rw [iter_eq, Nat.sub_zero, hn]; cases fin <;> rfl
    | succ m ih =>
      intro hm
      rw [iter_eq, h (n - (m + 1)) (by omega) (by omega), List.range'_succ, List.all_cons]
      cases ht : t (n - (m + 1)) with
      | false => simp
      | true =>
        simp only [if_true, Option.bind_some, Bool.true_and]
        rw [show ((n - (m + 1) : Nat) : Int) + 1 = ((n - m : Nat) : Int) by omega, ih (by omega), show n - (m + 1) + 1 = n - m by omega]
  have := key (n - s) (by omega)
  rw [show n - (n - s) = s by omega] at this
  exact this
theorem idxEntry (l : List Entry) (hl : l.length ≤ 1000000000) (f : Entry → Option Bool) (g : Entry → Bool) (h : ∀ x ∈ l, f x = some (g x)) : slices_IndexFunc_impl_Entry_impl_Entry.f l f = some (IXF g l 0) := by
 unfold slices_IndexFunc_impl_Entry_impl_Entry.f
 refine iter_ixf l g (fun k hk => ?_) ?_
 · unfold slices_IndexFunc_impl_Entry_impl_Entry.b0
   rw [if_pos (by simp; omega), if_pos ⟨by omega, by omega⟩, at_nat _ k hk]
   rw [show (Entry.mk (l[k]).Key (l[k]).Id) = l[k] from rfl, h _ (List.getElem_mem hk), Option.bind_some, w64 (by omega) (by omega)]
 · unfold slices_IndexFunc_impl_Entry_impl_Entry.b0
   rw [if_neg (by simp)]; rfl
theorem allEntry (l : List Entry) (hl : l.length ≤ 1000000000) (f : Entry → Option Bool) (g : Entry → Bool) (h : ∀ x ∈ l, f x = some (g x)) : impl_areAll_impl_Entry.f l f = some (l.all g) := by
 unfold impl_areAll_impl_Entry.f slices_ContainsFunc_impl_Entry_impl_Entry.f
 rw [idxEntry l hl _ (fun x => !g x) (fun x hx => by unfold impl_areAll_impl_Entry_1.f; rw [h x hx]; rfl), Option.bind_some, ixf_any, Option.bind_some]
 simp [List.any_eq_not_all_not]
theorem asc_range (es : List Entry) : ASC es = (List.range' 1 (es.length - 1)).all fun k => ELT (lk es (k - 1)) (lk es k) := by
 unfold ASC
 rw [Bool.eq_iff_iff, List.all_eq_true, List.all_eq_true]
 simp only [List.mem_range, List.mem_range'_1, Bool.or_eq_true, decide_eq_true_eq]
 exact ⟨fun h k hk => (h k (by omega)).resolve_left (by omega), fun h k hk => by
  by_cases k0 : k = 0
  · exact .inl k0
  · exact .inr (h k (by omega))⟩
theorem impl_isNode (d : Node) (hl : d.Entries.length ≤ maxLen) (hk : d.Kids.length ≤ 2000000) (hok : ∀ e ∈ d.Entries, ok_Item e.Key) (hl9 : d.Entries.length ≤ 1000000000) : impl_isNode.f d = some (NOK d) := by
 unfold impl_isNode.f NOK
 rw [allEntry _ hl9 _ EOK (fun e he => impl_isEntry e (hok e he)), Option.bind_some]
 cases hA : d.Entries.all EOK with
 | false => rfl
 | true =>
  by_cases h4 : d.Entries.length ≤ 4
  case neg => rw [if_pos (by simp; omega), decide_eq_false h4]; rfl
  case pos =>
   rw [if_neg (by simp; omega), decide_eq_true h4]
   simp only [Bool.and_true, Bool.true_and]
   have hfin : impl_isNode.b0 d ((max 1 d.Entries.length : Nat) : Int) = (some (if d.Leaf = true then decide (d.Kids.length = 0) else decide (0 < d.Entries.length) && decide (d.Kids.length = d.Entries.length + 1))).bind fun o => some (Sum.inr o) := by
    unfold impl_isNode.b0
    rw [if_neg (by simp; omega)]
    cases d.Leaf with
    | true =>
     simp only [if_true]
     congr 2
     rw [Bool.eq_iff_iff]; simp
    | false =>
     simp only [Bool.false_eq_true, if_false]
     rw [w64 (by omega) (by omega)]
     congr 2
     rw [Bool.eq_iff_iff]; simp; omega
   have := iter_chks (body := impl_isNode.b0 d) 1 (max 1 d.Entries.length) (fun k => ELT (lk d.Entries (k - 1)) (lk d.Entries k)) false _ (by omega) (fun k hk1 hk2 => by
    have hk3 : k < d.Entries.length := by omega
    unfold impl_isNode.b0
    have hw1 : IntKind.wrap .i64 ((k : Int) - 1) = ((k - 1 : Nat) : Int) := by rw [w64 (by omega) (by omega)]; omega
    rw [if_pos (by simp; omega), hw1, if_pos ⟨by omega, by omega⟩, if_pos ⟨by omega, by omega⟩, lk_at, lk_at]
    rw [show (Entry.mk (lk d.Entries (k - 1)).Key (lk d.Entries (k - 1)).Id) = lk d.Entries (k - 1) from rfl, show (Entry.mk (lk d.Entries k).Key (lk d.Entries k).Id) = lk d.Entries k from rfl, impl_compareEntries _ _ (hok _ (lk_mem (by omega))) (hok _ (lk_mem hk3)), Option.bind_some, ecm_ge, w64 (by omega) (by omega)]
    cases ELT (lk d.Entries (k - 1)) (lk d.Entries k) <;> rfl) hfin
   rw [show ((1 : Nat) : Int) = 1 from rfl] at this
   rw [this, asc_range, show max 1 d.Entries.length - 1 = d.Entries.length - 1 by omega]
   split
   · rename_i h; rw [h]; rfl
   · rename_i h
     have h := eq_false_of_ne_true h
     rw [h]; rfl
def MS (m : MD) (seen : List Bool) : Prop := (∀ p ∈ m, p.2 = true) ∧ (∀ k : Int, k ∈ m.map (·.1) ↔ 0 ≤ k ∧ k < (seen.length : Int) ∧ at_ seen k = true) ∧ m.length + cntF seen = seen.length
theorem ms_get {m : MD} {seen : List Bool} (h : MS m seen) {a : Int} (h0 : 0 ≤ a) (h1 : a < (seen.length : Int)) : mget m a = at_ seen a := by
 rw [mset_any h.1, Bool.eq_iff_iff, decide_eq_true_eq, h.2.1 a]
 exact ⟨fun x => x.2.2, fun x => ⟨h0, h1, x⟩⟩
theorem ms_set {m : MD} {seen : List Bool} (h : MS m seen) {a : Int} (h0 : 0 ≤ a) (h1 : a < (seen.length : Int)) (hs : at_ seen a = false) : MS (mset m a true) (seen.set a.toNat true) := by
 have hg := ms_get h h0 h1
 have hn : mset m a true = m ++ [(a, true)] := mset_new (by rw [← mget_all h.1, hg]; exact hs) _
 have hib : a.toNat < seen.length := by omega
 have hcf := cntF_set seen a.toNat hib (by rw [← at_eq seen a h0 h1]; exact hs)
 rw [hn]
 refine ⟨fun p hp => ?_, fun k => ?_, ?_⟩
 · rcases List.mem_append.1 hp with hp | hp
   · exact h.1 p hp
   · simp at hp; rw [hp]
 · rw [List.map_append, List.mem_append, h.2.1 k, List.length_set]
   simp only [List.map_cons, List.map_nil, List.mem_singleton]
   by_cases hka : k = a
   · subst hka
     refine ⟨fun _ => ⟨h0, h1, ?_⟩, fun _ => .inr rfl⟩
     rw [at_eq _ _ h0 (by simpa using h1), List.getElem_set_self]
   · refine ⟨fun x => ?_, fun x => .inl ?_⟩
     · rcases x with x | x
       · refine ⟨x.1, x.2.1, ?_⟩
         have := x.2.2
         rw [at_eq _ _ x.1 x.2.1] at this
         rw [at_eq _ _ x.1 (by simpa using x.2.1), List.getElem_set_ne (by omega)]; exact this
       · exact absurd x hka
     · refine ⟨x.1, x.2.1, ?_⟩
       have := x.2.2
       rw [at_eq _ _ x.1 (by simpa using x.2.1), List.getElem_set_ne (by omega)] at this
       rw [at_eq _ _ x.1 x.2.1]; exact this
 · rw [List.length_append, List.length_set]; simp; have := h.2.2; omega
theorem impl_b0 (c : treeCheck) (a dep : Int) (lo hi : Option Entry) (R : treeCheck → Int → Int → Option Entry → Option Entry → Option (Bool × treeCheck)) (k : Nat) (hk : k < (at_ c.t.Nodes a).Entries.length) (hl4 : (at_ c.t.Nodes a).Entries.length ≤ 4)
    (hok : ∀ e ∈ (at_ c.t.Nodes a).Entries, ok_Item e.Key) (hlo : okB lo) (hhi : okB hi) :
    impl_treeCheck_check.b0 c a dep lo hi R (k : Int) = if inB lo hi (lk (at_ c.t.Nodes a).Entries k) = true then some (.inl ((k : Int) + 1)) else some (.inr (false, treeCheck.mk c.t (mset c.seen a true) c.deep)) := by
  unfold impl_treeCheck_check.b0 inB
  generalize (at_ c.t.Nodes a).Entries = es at *
  have hokk := hok _ (lk_mem hk)
  rw [if_pos (by simp; omega), if_pos ⟨by omega, by omega⟩]
  simp only [lk_at]
  rw [w64 (n := (k : Int) + 1) (by omega) (by omega)]
  have hlow : ∀ l, lo = some l → impl_compareEntries.f (Entry.mk (lk es k).Key (lk es k).Id) (Entry.mk l.Key l.Id) = some (ECM (lk es k) l) := fun l hl => impl_compareEntries _ _ hokk (hlo l hl).1
  have hhig : ∀ l, hi = some l → impl_compareEntries.f (Entry.mk (lk es k).Key (lk es k).Id) (Entry.mk l.Key l.Id) = some (ECM (lk es k) l) := fun l hl => impl_compareEntries _ _ hokk (hhi l hl).1
  rcases lo with _ | l <;> rcases hi with _ | h
  · rfl
  · simp only [Option.isSome_none, Option.isSome_some, Option.getD_some]
    rw [hhig h rfl]
    simp only [Option.bind_some, ecm_ge]
    cases hq : ELT (lk es k) h <;> simp [hq]
  · simp only [Option.isSome_none, Option.isSome_some, Option.getD_some]
    rw [hlow l rfl]
    simp only [Option.bind_some, ecm_lt]
    cases hq : ELT (lk es k) l <;> simp [hq]
  · simp only [Option.isSome_none, Option.isSome_some, Option.getD_some]
    rw [hlow l rfl, hhig h rfl]
    simp only [Option.bind_some, ecm_lt, ecm_ge]
    cases hq : ELT (lk es k) l <;> cases hq2 : ELT (lk es k) h <;> simp [hq, hq2]
def SRc (t : Tree) (r : Option (SD × List Entry)) (x : Bool × treeCheck) : Prop := match r with
 | none => x.1 = false
 | some q => x.1 = true ∧ x.2.t = t ∧ x.2.deep = q.1.2 ∧ MS x.2.seen q.1.1
theorem impl_check (t : Tree) (hN : t.Nodes.length ≤ 300) (hok : okNs t.Nodes) (hle : ∀ d ∈ t.Nodes, d.Entries.length ≤ 2000000) (hkl : ∀ d ∈ t.Nodes, d.Kids.length ≤ 2000000) : ∀ (n : Nat) (m : MD) (s : SD) (a dep : Int) (lo hi : Option Entry), s.1.length = t.Nodes.length → MS m s.1 → okB lo → okB hi → 0 ≤ dep → dep + n ≤ 100000 → cntF s.1 < n →
    ∃ x, impl_treeCheck_check.g n (treeCheck.mk t m s.2) a dep lo hi = some x ∧ SRc t (WW t.Nodes n s a dep lo hi) x
  | 0, m, s, a, dep, lo, hi, hl, hms, hlo, hhi, hd, hd2, hc => by omega
  | n + 1, m, s, a, dep, lo, hi, hl, hms, hlo, hhi, hd, hd2, hc => by
    show ∃ x, impl_treeCheck_check.h (impl_treeCheck_check.g n) (treeCheck.mk t m s.2) a dep lo hi = some x ∧ _
    unfold impl_treeCheck_check.h
    simp only []
    rw [w64 (n := (t.Nodes.length : Int) - 1) (by omega) (by omega), within_rin, Option.bind_some]
    generalize hRR : WW t.Nodes (n + 1) s a dep lo hi = RR
    rw [WW] at hRR
    by_cases hr : 0 ≤ a ∧ a < (t.Nodes.length : Int)
    case neg =>
      have e1 : (!rin a 0 ((t.Nodes.length : Int) - 1) || mget m a) = true := by
        have : rin a 0 ((t.Nodes.length : Int) - 1) = false := by cases h : rin a 0 ((t.Nodes.length : Int) - 1) with
          | false => rfl
          | true => have := rin_iff.1 h; omega
        rw [this]; rfl
      rw [e1]
      rw [if_neg (fun h => hr ⟨h.1, h.2.1⟩)] at hRR
      obtain rfl := hRR
      exact ⟨_, rfl, rfl⟩
    case pos =>
      rw [rin_iff.2 ⟨hr.1, by omega⟩, ms_get hms hr.1 (by omega)]
      cases hs : at_ s.1 a with
      | true =>
        rw [if_neg (fun h => by have := h.2.2; rw [hs] at this; cases this)] at hRR
        obtain rfl := hRR
        exact ⟨_, rfl, rfl⟩
      | false =>
        rw [if_pos ⟨hr.1, hr.2, hs⟩] at hRR
        rw [if_neg (by decide), if_pos hr]
        have hmem : at_ t.Nodes a ∈ t.Nodes := by rw [at_eq _ _ hr.1 hr.2]; exact List.getElem_mem _
        have hoke := hok _ hmem
        have hk6 := hkl _ hmem
        have hl6 := hle _ hmem
        have hib : a.toNat < s.1.length := by omega
        have hcf := cntF_set s.1 a.toNat hib (by rw [← at_eq s.1 a hr.1 (by omega)]; exact hs)
        have hms2 := ms_set hms hr.1 (by omega) hs
        rw [impl_isNode _ (by simp only [maxLen]; omega) hk6 hoke (by omega), Option.bind_some, Option.bind_some]
        cases hA : NOK (at_ t.Nodes a) with
        | false =>
          rw [hA] at hRR
          obtain rfl : RR = none := hRR.symm
          exact ⟨_, rfl, rfl⟩
        | true =>
          rw [hA, Bool.true_and] at hRR
          rw [if_neg (by decide), if_pos hr]
          have h4 := nok_len hA
          have hNB := hA
          unfold NOK at hNB
          simp only [Bool.and_eq_true] at hNB
          have hE := List.all_eq_true.1 hNB.1.1.1
          have hloop := fun fin hfin => iter_chk (body := impl_treeCheck_check.b0 (treeCheck.mk t m s.2) a dep lo hi (impl_treeCheck_check.g n)) (at_ t.Nodes a).Entries.length (fun k => inB lo hi (lk (at_ t.Nodes a).Entries k)) (false, treeCheck.mk t (mset m a true) s.2) fin
            (fun k hk _ => impl_b0 (treeCheck.mk t m s.2) a dep lo hi _ k hk h4 hoke hlo hhi) hfin
          have hend : impl_treeCheck_check.b0 (treeCheck.mk t m s.2) a dep lo hi (impl_treeCheck_check.g n) ((at_ t.Nodes a).Entries.length : Int) = (if (at_ t.Nodes a).Leaf = true then ((if (s.2 == (0 : Int)) = true then (some dep) else (some s.2)).bind fun y216 => (some ((y216 == dep), (treeCheck.mk t (mset m a true) y216)))) else (iter (impl_treeCheck_check.b1 (treeCheck.mk t m s.2) a dep lo hi (impl_treeCheck_check.g n)) ((0 : Int), t.Root, s.2, (mset m a true)))).bind fun o => some (Sum.inr o) := by
            unfold impl_treeCheck_check.b0
            rw [if_neg (by simp)]
          rw [hloop _ (fun _ => hend), show ((List.range (at_ t.Nodes a).Entries.length).all fun k => inB lo hi (lk (at_ t.Nodes a).Entries k)) = BND (at_ t.Nodes a).Entries lo hi from (all_range _ _).symm]
          cases hC : BND (at_ t.Nodes a).Entries lo hi with
          | false => rw [hC] at hRR; obtain rfl : RR = none := hRR.symm; exact ⟨_, rfl, rfl⟩
          | true =>
          rw [hC] at hRR
          simp only [if_true] at hRR ⊢
          cases hL : (at_ t.Nodes a).Leaf with
          | true =>
            rw [hL] at hRR
            simp only [if_true] at hRR ⊢
            have eD : (if (s.2 == (0 : Int)) = true then some dep else some s.2) = some (DP s.2 dep) := by unfold DP; by_cases h : s.2 = 0 <;> simp [h]
            rw [eD, Option.bind_some]
            by_cases hd3 : DP s.2 dep = dep
            · rw [if_pos hd3] at hRR
              obtain rfl := hRR
              exact ⟨_, rfl, by simp [hd3], rfl, rfl, hms2⟩
            · rw [if_neg hd3] at hRR
              obtain rfl := hRR
              exact ⟨_, rfl, show (DP s.2 dep == dep) = false by simpa using hd3⟩
          | false =>
            rw [hL] at hRR
            simp only [Bool.false_eq_true, if_false] at hRR ⊢
            obtain rfl := hRR
            have hq : 0 < (at_ t.Nodes a).Entries.length ∧ (at_ t.Nodes a).Kids.length = (at_ t.Nodes a).Entries.length + 1 := by
              have := hNB.2
              rw [hL] at this
              simpa using this
            have key : ∀ (ks : List Int) (i : Nat) (s1 : SD) (m1 : MD) (acc : List Entry), (at_ t.Nodes a).Kids.drop i = ks → i ≤ (at_ t.Nodes a).Kids.length → s1.1.length = t.Nodes.length → MS m1 s1.1 → cntF s1.1 < n →
                ∃ x, iter (impl_treeCheck_check.b1 (treeCheck.mk t m s.2) a dep lo hi (impl_treeCheck_check.g n)) ((i : Int), t.Root, s1.2, m1) = some x ∧ SRc t (WK (fun s k l h => WW t.Nodes n s k (dep + 1) l h) (at_ t.Nodes a).Entries lo hi ks i s1 acc) x := by
              intro ks
              induction ks with
              | nil =>
                intro i s1 m1 acc hks hi2 hl1 hm1 hcn
                have hie : i = (at_ t.Nodes a).Kids.length := by
                  have := congrArg List.length hks
                  rw [List.length_drop] at this; simp at this; omega
                subst hie
                refine ⟨(true, treeCheck.mk t m1 s1.2), iter_r ?_, rfl, rfl, rfl, hm1⟩
                unfold impl_treeCheck_check.b1; rw [if_neg (by simp)]; rfl
              | cons k ks ih =>
                intro i s1 m1 acc hks hi2 hl1 hm1 hcn
                have hik : i < (at_ t.Nodes a).Kids.length := by
                  have := congrArg List.length hks
                  rw [List.length_drop] at this; simp at this; omega
                have hk : at_ (at_ t.Nodes a).Kids (i : Int) = k := by
                  rw [at_nat _ i hik]
                  have := List.drop_eq_getElem_cons hik
                  rw [hks] at this
                  exact (List.cons.inj this).1.symm
                have hks2 : (at_ t.Nodes a).Kids.drop (i + 1) = ks := by
                  have := List.drop_eq_getElem_cons hik
                  rw [hks] at this
                  exact (List.cons.inj this).2.symm
                have eLO : (if decide ((i : Int) > 0) = true then (if 0 ≤ IntKind.wrap .i64 ((i : Int) - 1) ∧ IntKind.wrap .i64 ((i : Int) - 1) < ((at_ t.Nodes a).Entries.length : Int) then some (some (at_ (at_ t.Nodes a).Entries (IntKind.wrap .i64 ((i : Int) - 1)))) else none) else some lo) = some (LOi (at_ t.Nodes a).Entries lo i) := by
                  unfold LOi
                  by_cases h0 : 0 < i
                  · rw [if_pos (by simpa using h0), if_pos h0, show IntKind.wrap .i64 ((i : Int) - 1) = ((i - 1 : Nat) : Int) by rw [w64 (by omega) (by omega)]; omega, if_pos ⟨by omega, by omega⟩]; rfl
                  · rw [if_neg (by simpa using h0), if_neg h0]
                have eHI : (if decide ((i : Int) < ((at_ t.Nodes a).Entries.length : Int)) = true then (if 0 ≤ (i : Int) ∧ (i : Int) < ((at_ t.Nodes a).Entries.length : Int) then some (some (at_ (at_ t.Nodes a).Entries (i : Int))) else none) else some hi) = some (HIi (at_ t.Nodes a).Entries hi i) := by
                  unfold HIi
                  by_cases h0 : i < (at_ t.Nodes a).Entries.length
                  · rw [if_pos (by simpa using h0), if_pos h0, if_pos ⟨by omega, by omega⟩]; rfl
                  · rw [if_neg (by simpa using h0), if_neg h0]
                have hbl : okB (LOi (at_ t.Nodes a).Entries lo i) := by
                  unfold LOi; split
                  · exact okB_some (by omega) hoke hE
                  · exact hlo
                have hbh : okB (HIi (at_ t.Nodes a).Entries hi i) := by
                  unfold HIi; split
                  · exact okB_some (by omega) hoke hE
                  · exact hhi
                obtain ⟨x1, hg, hsr⟩ := impl_check t hN hok hle hkl n m1 s1 k (dep + 1) _ _ hl1 hm1 hbl hbh (by omega) (by omega) hcn
                have hstep : impl_treeCheck_check.b1 (treeCheck.mk t m s.2) a dep lo hi (impl_treeCheck_check.g n) ((i : Int), t.Root, s1.2, m1) = if x1.1 = true then some (.inl (((i + 1 : Nat) : Int), x1.2.t.Root, x1.2.deep, x1.2.seen)) else some (.inr (false, treeCheck.mk (Tree.mk t.Nodes x1.2.t.Root) x1.2.seen x1.2.deep)) := by
                  unfold impl_treeCheck_check.b1
                  simp only []
                  rw [if_pos (by simp; omega), if_pos ⟨by omega, by omega⟩, eLO, Option.bind_some, eHI, Option.bind_some, hk, w64 (n := dep + 1) (by omega) (by omega)]
                  rw [show treeCheck.mk (Tree.mk t.Nodes t.Root) m1 s1.2 = treeCheck.mk t m1 s1.2 from rfl, hg, Option.bind_some, w64 (by omega) (by omega)]
                  cases x1.1 <;> rfl
                unfold WK
                cases hWW : WW t.Nodes n s1 k (dep + 1) (LOi (at_ t.Nodes a).Entries lo i) (HIi (at_ t.Nodes a).Entries hi i) with
                | none =>
                  rw [hWW] at hsr
                  have hsr : x1.1 = false := hsr
                  rw [hsr] at hstep
                  exact ⟨_, iter_r hstep, rfl⟩
                | some r =>
                  rw [hWW] at hsr
                  obtain ⟨z1, z2, z3, z4⟩ := hsr
                  obtain ⟨u1, u2, u3⟩ := ww_len t.Nodes n s1 k (dep + 1) _ _ r hl1 hWW
                  rw [z1, if_pos rfl, z2, z3] at hstep
                  rw [iter_l hstep]
                  exact ih (i + 1) r.1 _ (acc ++ r.2) hks2 (by omega) u1 z4 (by omega)
            exact key _ 0 (s.1.set a.toNat true, s.2) _ [] rfl (by omega) (by simpa using hl) hms2 (by simp only; omega)
end Go.Proofs.YtlpbggnpiogioaaGreat
set_option linter.unusedVariables false
set_option linter.unusedSimpArgs false
set_option linter.unusedSectionVars false
namespace Go.Proofs.YtlpbggnpiogioaaGreat
open Go V
end Go.Proofs.YtlpbggnpiogioaaGreat
set_option linter.unusedVariables false
set_option linter.unusedSimpArgs false
namespace Go.Proofs.YtlpbggnpiogioaaGreat
open Go V
theorem cloneB (a : List Int) (h : a.length ≤ 1000000000) : slices_Clone_byte_byte.f a = some a := by
 unfold slices_Clone_byte_byte.f
 rw [if_pos (by simp [Lim]; omega)]; rfl
end Go.Proofs.YtlpbggnpiogioaaGreat
set_option linter.unusedVariables false
set_option linter.unusedSimpArgs false
set_option linter.unusedSectionVars false
namespace Go.Proofs.YtlpbggnpiogioaaGreat
open Go V Ieee
def TKW (t : Tree) : Option (List Entry) :=
 if 1 ≤ t.Nodes.length ∧ t.Nodes.length ≤ 300 then
  (WW t.Nodes 1000 (List.replicate t.Nodes.length false, 0) t.Root 1 none none).bind fun q => if q.1.1.all id = true then some q.2 else none
 else none
def okT (t : Tree) : Prop := okNs t.Nodes ∧ (∀ d ∈ t.Nodes, d.Entries.length ≤ 2000000) ∧ ∀ d ∈ t.Nodes, d.Kids.length ≤ 2000000
theorem okB_none : okB none := fun _ h => by cases h
theorem cntF_0 : ∀ (l : List Bool), cntF l = 0 ↔ l.all id = true
 | [] => by simp [cntF]
 | b :: l => by cases b <;> simp [cntF, cntF_0 l]
theorem all_range_id (l : List Bool) : ((List.range l.length).all fun k => l.getD k default) = l.all id := (all_range l id).symm
theorem ms_nil (n : Nat) : MS [] (List.replicate n false) := by
 refine ⟨fun p hp => (by cases hp), fun k => ⟨fun h => (by cases h), fun h => ?_⟩, by simp [cntF_rep]⟩
 obtain ⟨h0, h1, h2⟩ := h
 rw [at_eq _ _ h0 h1] at h2
 simp at h2
theorem spec_look (t : Tree) (h : okT t) : ∃ w, spec_l11look.f t = some (w, (TKW t).isSome) ∧ ∀ l, TKW t = some l → w.all = l := by
 unfold spec_l11look.f TKW
 by_cases hn : 1 ≤ t.Nodes.length ∧ t.Nodes.length ≤ 300
 case neg =>
  rw [if_neg hn, if_pos (by simp; omega)]
  exact ⟨_, rfl, fun l hl => by cases hl⟩
 case pos =>
  rw [if_pos hn, if_neg (by simp; omega), if_pos ⟨by omega, by simp only [Lim]; omega⟩]
  have hrep : (List.replicate ((t.Nodes.length : Int)).toNat false) = List.replicate t.Nodes.length false := by rw [Int.toNat_natCast]
  obtain ⟨w, hg, hl, hs⟩ := spec_go t hn.2 h.1 h.2.2 1000 (l11walk.mk (List.replicate t.Nodes.length false) 0 false []) t.Root 1 none none (by simp) okB_none okB_none (by omega) (by omega) (fun _ => by simp only [cntF_rep, List.length_nil]; omega) (by omega) (fun _ => by simp only [cntF_rep]; omega)
  have hf : spec_l11go.f t (l11walk.mk (List.replicate ((t.Nodes.length : Int)).toNat false) 0 false []) t.Root 1 [] [] = some w := by rw [hrep]; exact hg
  rw [hf, Option.bind_some]
  have hloop := iter_chk (body := spec_l11look.b0 w) w.seen.length (fun k => w.seen.getD k default) (w, false) (some (w, !w.wrong)) (fun k hk _ => by
   unfold spec_l11look.b0
   rw [if_pos (by simp; omega), if_pos ⟨by omega, by omega⟩, w64 (by omega) (by omega)]
   have e : at_ w.seen (k : Int) = w.seen.getD k default := rfl
   rw [e]
   cases w.seen.getD k default <;> rfl) (fun _ => by
   unfold spec_l11look.b0
   rw [if_neg (by simp)])
  rw [hloop, all_range_id]
  cases hW : WW t.Nodes 1000 (List.replicate t.Nodes.length false, 0) t.Root 1 none none with
  | none =>
   rw [show (bif (l11walk.mk (List.replicate t.Nodes.length false) 0 false []).wrong then none else WW t.Nodes 1000 ((l11walk.mk (List.replicate t.Nodes.length false) 0 false []).seen, (l11walk.mk (List.replicate t.Nodes.length false) 0 false []).deep) t.Root 1 none none) = none from hW] at hs
   have hs : w.wrong = true := hs
   refine ⟨w, ?_, fun l hl => by cases hl⟩
   rw [hs]; split <;> rfl
  | some q =>
   rw [show (bif (l11walk.mk (List.replicate t.Nodes.length false) 0 false []).wrong then none else WW t.Nodes 1000 ((l11walk.mk (List.replicate t.Nodes.length false) 0 false []).seen, (l11walk.mk (List.replicate t.Nodes.length false) 0 false []).deep) t.Root 1 none none) = some q from hW] at hs
   have hs : w = l11walk.mk q.1.1 q.1.2 false ([] ++ q.2) := hs
   subst hs
   refine ⟨l11walk.mk q.1.1 q.1.2 false ([] ++ q.2), ?_, ?_⟩
   · simp only [Option.bind_some, Bool.not_false]
     split <;> rfl
   · intro l hl
     simp only [Option.bind_some] at hl
     split at hl
     · exact Option.some.inj hl
     · cases hl
theorem spec_TreeOk (t : Tree) (h : okT t) : spec_TreeOk.f t = some (TKW t).isSome := by
 obtain ⟨w, hw, _⟩ := spec_look t h
 unfold spec_TreeOk.f
 rw [hw]; rfl
theorem impl_TreeOk (t : Tree) (h : okT t) : impl_TreeOk.f t = some (TKW t).isSome := by
 unfold impl_TreeOk.f TKW
 rw [within_rin, Option.bind_some]
 by_cases hn : 1 ≤ t.Nodes.length ∧ t.Nodes.length ≤ 300
 case neg =>
  have : rin (t.Nodes.length : Int) 1 300 = false := by cases h : rin (t.Nodes.length : Int) 1 300 with
   | false => rfl
   | true => have := rin_iff.1 h; omega
  rw [if_neg hn, this]; rfl
 case pos =>
  rw [if_pos hn, rin_iff.2 ⟨by omega, by omega⟩, if_neg (by decide)]
  obtain ⟨x, hg, hs⟩ := impl_check t hn.2 h.1 (fun d hd => by have := h.2.1 d hd; omega) h.2.2 1000 [] (List.replicate t.Nodes.length false, 0) t.Root 1 none none (by simp) (ms_nil _) okB_none okB_none (by omega) (by omega) (by simp only [cntF_rep]; omega)
  have hf : impl_treeCheck_check.f (treeCheck.mk t [] 0) t.Root 1 none none = some x := hg
  rw [hf, Option.bind_some]
  cases hW : WW t.Nodes 1000 (List.replicate t.Nodes.length false, 0) t.Root 1 none none with
  | none =>
   rw [hW] at hs
   have hs : x.1 = false := hs
   rw [hs]; rfl
  | some q =>
   rw [hW] at hs
   obtain ⟨z1, z2, z3, z4⟩ := hs
   obtain ⟨u1, _, _⟩ := ww_len t.Nodes 1000 _ _ _ _ _ q (by simp) hW
   rw [z1, if_pos rfl, Option.bind_some, Option.bind_some]
   have hc := cntF_0 q.1.1
   have h3 := z4.2.2
   cases ha : q.1.1.all id with
   | true =>
    have : cntF q.1.1 = 0 := hc.2 ha
    have e : x.2.seen.length = t.Nodes.length := by omega
    rw [e]; simp
   | false =>
    have : cntF q.1.1 ≠ 0 := fun e => by rw [hc.1 e] at ha; cases ha
    have e : x.2.seen.length ≠ t.Nodes.length := by omega
    simp only [Bool.false_eq_true, if_false, Option.isSome_none]
    congr 1
    simp; omega
theorem iter_pushE {β : Type} {body : List β × Int → Option ((List β × Int) ⊕ List β)} (xs : List β) (hb : ∀ (k : Nat) (hk : k < xs.length), body (xs.take k, (k : Int)) = some (.inl (xs.take (k + 1), (k : Int) + 1))) (hn : body (xs, (xs.length : Int)) = some (.inr xs)) : iter body ([], 0) = some xs := by
 have := iter_for (body := body) xs.length (fun k => (xs.take k, (k : Int))) xs (fun k hk => by rw [hb k hk]; simp) (by simp only [List.take_length]; exact hn)
 simpa using this
theorem take_push {β : Type} (xs : List β) (k : Nat) (h : k < xs.length) : xs.take k ++ [xs[k]] = xs.take (k + 1) := by rw [List.take_add_one, List.getElem?_eq_getElem h]; rfl
theorem spec_l3copy (a : Item) (h : a.T.length ≤ 1000000000) : spec_l3copy.f a = some a := by
 unfold spec_l3copy.f
 rw [if_pos (by simp only [List.length_nil, Lim]; omega)]; rfl
theorem impl_own (a : Item) (h : a.T.length ≤ 1000000000) : impl_Item_own.f a = some a := by
 unfold impl_Item_own.f
 rw [cloneB _ h]; rfl
theorem spec_l11entries (l : List Entry) (hl : l.length ≤ 2000000) (he : ∀ e ∈ l, e.Key.T.length ≤ 1000000000) : spec_l11entries.f l = some l := by
 unfold spec_l11entries.f
 refine iter_pushE l (fun k hk => ?_) ?_
 · unfold spec_l11entries.b0
   simp only []
   rw [if_pos (by simp; omega), if_pos ⟨by omega, by omega⟩, if_pos ⟨by omega, by omega⟩, at_nat _ k hk, spec_l3copy _ (he _ (List.getElem_mem hk)), Option.bind_some, if_pos (by rw [List.length_take]; simp only [List.length_cons, List.length_nil, Lim]; omega), w64 (by omega) (by omega)]
   rw [show Entry.mk (l[k]).Key (l[k]).Id = l[k] from rfl, take_push l k hk]
 · unfold spec_l11entries.b0
   rw [if_neg (by simp)]; rfl
theorem impl_ownEntries (l : List Entry) (hl : l.length ≤ 2000000) (he : ∀ e ∈ l, e.Key.T.length ≤ 1000000000) : impl_ownEntries.f l = some l := by
 unfold impl_ownEntries.f
 refine iter_pushE l (fun k hk => ?_) ?_
 · unfold impl_ownEntries.b0
   simp only []
   rw [if_pos (by simp; omega), if_pos ⟨by omega, by omega⟩, at_nat _ k hk, impl_own _ (he _ (List.getElem_mem hk)), Option.bind_some, if_pos (by rw [List.length_take]; simp only [List.length_cons, List.length_nil, Lim]; omega), w64 (by omega) (by omega)]
   rw [show Entry.mk (l[k]).Key (l[k]).Id = l[k] from rfl, take_push l k hk]
 · unfold impl_ownEntries.b0
   rw [if_neg (by simp)]; rfl
def smN (ns : List Node) : Prop := ∀ d ∈ ns, d.Entries.length ≤ 2000000 ∧ (∀ e ∈ d.Entries, e.Key.T.length ≤ 1000000000) ∧ d.Kids.length ≤ 2000000
theorem spec_l11copy (t : Tree) (hl : t.Nodes.length ≤ 2000000) (hs : smN t.Nodes) : spec_l11copy.f t = some t := by
 unfold spec_l11copy.f
 have := iter_for (body := spec_l11copy.b0 t) t.Nodes.length (fun k => ((k : Int), t.Nodes.take k)) t (fun k hk => by
  have hd := hs _ (List.getElem_mem hk)
  unfold spec_l11copy.b0
  simp only []
  rw [if_pos (by simp; omega), if_pos ⟨by omega, by omega⟩, at_nat _ k hk, spec_l11entries _ hd.1 hd.2.1, Option.bind_some, if_pos (by have := hd.2.2; simp only [List.length_nil, Lim]; omega), Option.bind_some, if_pos (by rw [List.length_take]; simp only [List.length_cons, List.length_nil, Lim]; omega), w64 (by omega) (by omega)]
  rw [show Node.mk (t.Nodes[k]).Leaf (t.Nodes[k]).Entries ([] ++ (t.Nodes[k]).Kids) = t.Nodes[k] from rfl, take_push _ k hk]; simp) (by
  unfold spec_l11copy.b0
  rw [if_neg (by simp), List.take_length]; rfl)
 simpa using this
theorem cloneI (a : List Int) (h : a.length ≤ 2000000) : slices_Clone_int_int.f a = some a := by
 unfold slices_Clone_int_int.f
 rw [if_pos (by simp only [List.length_nil, Lim]; omega)]; rfl
theorem impl_TreeOwn (t : Tree) (hl : t.Nodes.length ≤ 2000000) (hs : smN t.Nodes) : impl_Tree_own.f t = some t := by
 unfold impl_Tree_own.f
 have := iter_for (body := impl_Tree_own.b0 t) t.Nodes.length (fun k => ((k : Int), t.Nodes.take k)) t (fun k hk => by
  have hd := hs _ (List.getElem_mem hk)
  unfold impl_Tree_own.b0
  simp only []
  rw [if_pos (by simp; omega), if_pos ⟨by omega, by omega⟩, at_nat _ k hk, impl_ownEntries _ hd.1 hd.2.1, Option.bind_some, cloneI _ hd.2.2, Option.bind_some, if_pos (by rw [List.length_take]; simp only [List.length_cons, List.length_nil, Lim]; omega), w64 (by omega) (by omega)]
  rw [show Node.mk (t.Nodes[k]).Leaf (t.Nodes[k]).Entries (t.Nodes[k]).Kids = t.Nodes[k] from rfl, take_push _ k hk]; simp) (by
  unfold impl_Tree_own.b0
  rw [if_neg (by simp), List.take_length]; rfl)
 simpa using this
end Go.Proofs.YtlpbggnpiogioaaGreat
set_option linter.unusedVariables false
set_option linter.unusedSimpArgs false
set_option linter.unusedSectionVars false
namespace Go.Proofs.YtlpbggnpiogioaaGreat
open Go V Ieee
theorem wk_inv {W : SD → Int → Option Entry → Option Entry → Option (SD × List Entry)} {es : List Entry} {lo hi : Option Entry} {kids : List Int} (Φ : Nat → SD → List Entry → Prop)
    (hs : ∀ i (hi2 : i < kids.length) s acc q, Φ i s acc → W s kids[i] (LOi es lo i) (HIi es hi i) = some q → Φ (i + 1) q.1 (acc ++ q.2)) :
    ∀ (ks : List Int) (i : Nat) (s : SD) (acc : List Entry) (r : SD × List Entry), kids.drop i = ks → i ≤ kids.length → Φ i s acc → WK W es lo hi ks i s acc = some r → Φ kids.length r.1 r.2 := by
  intro ks
  induction ks with
  | nil =>
    intro i s acc r hks hi2 hΦ h
    have hie : i = kids.length := by
      have := congrArg List.length hks
      rw [List.length_drop] at this; simp at this; omega
    obtain rfl := Option.some.inj h
    subst hie
    exact hΦ
  | cons k ks ih =>
    intro i s acc r hks hi2 hΦ h
    have hik : i < kids.length := by
      have := congrArg List.length hks
      rw [List.length_drop] at this; simp at this; omega
    have hd := List.drop_eq_getElem_cons hik
    rw [hks] at hd
    obtain ⟨hk, hks2⟩ := List.cons.inj hd
    unfold WK at h
    obtain ⟨q, hq, h⟩ := Option.bind_eq_some_iff.1 h
    rw [hk] at hq
    exact ih (i + 1) q.1 _ r hks2.symm (by omega) (hs i hik s acc q hΦ hq) h
def sn (l : List Bool) (j : Nat) : Bool := l.getD j false
def nd (ns : List Node) (j : Nat) : Node := ns.getD j default
theorem nd_at (ns : List Node) (a : Int) : at_ ns a = nd ns a.toNat := rfl
theorem sn_set (l : List Bool) (i j : Nat) (h : i < l.length) : sn (l.set i true) j = if j = i then true else sn l j := by
 unfold sn
 rw [List.getD_eq_getElem?_getD, List.getElem?_set]
 by_cases e : i = j
 · subst e; simp [h]
 · rw [if_neg e, if_neg (fun h => e h.symm)]; simp
theorem asc_pw {es : List Entry} (h : ASC es = true) : ∀ i j, i < j → j < es.length → ELT (lk es i) (lk es j) = true := by
 intro i j hij hj
 induction j with
 | zero => omega
 | succ j ih =>
  have h1 : ELT (lk es j) (lk es (j + 1)) = true := by
   unfold ASC at h
   have := List.all_eq_true.1 h (j + 1) (List.mem_range.2 hj)
   simpa using this
  by_cases e : i = j
  · subst e; exact h1
  · exact elt_trans (ih (by omega) (by omega)) h1
def UPS (es : List Entry) (e : Entry) : Nat := (es.takeWhile fun x => !ELT e x).length
theorem ups_le (es : List Entry) (e : Entry) : UPS es e ≤ es.length := by unfold UPS; exact (List.takeWhile_sublist _).length_le
theorem ups_lt : ∀ (es : List Entry) (e : Entry) (k : Nat), k < UPS es e → ELT e (lk es k) = false
 | [], e, k, h => by simp [UPS] at h
 | x :: es, e, k, h => by
  unfold UPS at h
  rw [List.takeWhile_cons] at h
  cases hx : ELT e x with
  | true => rw [hx] at h; simp at h
  | false =>
   rw [hx] at h
   cases k with
   | zero => exact hx
   | succ k => exact ups_lt es e k (by unfold UPS; simpa using h)
theorem ups_at : ∀ (es : List Entry) (e : Entry), UPS es e < es.length → ELT e (lk es (UPS es e)) = true
 | [], e, h => by simp at h
 | x :: es, e, h => by
  unfold UPS at h ⊢
  rw [List.takeWhile_cons] at h ⊢
  cases hx : ELT e x with
  | true => simp only [Bool.not_true, Bool.false_eq_true, if_false, List.length_nil]; exact hx
  | false =>
   rw [hx] at h
   simp only [Bool.not_false, if_true, List.length_cons] at h ⊢
   exact ups_at es e (by unfold UPS; omega)
theorem ups_ge {es : List Entry} {e : Entry} (ha : ASC es = true) {k : Nat} (h : UPS es e ≤ k) (hk : k < es.length) : ELT e (lk es k) = true := by
 by_cases h2 : UPS es e = k
 · rw [← h2]; exact ups_at es e (by omega)
 · exact elt_trans (ups_at es e (by omega)) (asc_pw ha _ k (by omega) hk)
def SAME (x e : Entry) : Bool := !ELT x e && !ELT e x
theorem same_in {lo hi : Option Entry} {x e : Entry} (hs : SAME x e = true) (h : inB lo hi x = true) : inB lo hi e = true := by
 unfold SAME at hs
 simp only [Bool.and_eq_true, Bool.not_eq_true'] at hs
 unfold inB at h ⊢
 rw [Bool.and_eq_true] at h ⊢
 refine ⟨?_, ?_⟩
 · cases lo with
   | none => rfl
   | some l =>
    have := h.1
    simp only [Option.all_some, Bool.not_eq_true'] at this ⊢
    exact elt_neg hs.2 this
 · cases hi with
   | none => rfl
   | some u =>
    have := h.2
    simp only [Option.all_some] at this ⊢
    exact elt_le_lt hs.1 this
theorem inB_kid {es : List Entry} {lo hi : Option Entry} (hb : BND es lo hi = true) {i : Nat} (hi2 : i ≤ es.length) {x : Entry} (h : inB (LOi es lo i) (HIi es hi i) x = true) : inB lo hi x = true := by
 have hB := List.all_eq_true.1 hb
 unfold inB at h ⊢
 rw [Bool.and_eq_true] at h ⊢
 refine ⟨?_, ?_⟩
 · cases lo with
   | none => rfl
   | some l =>
    have h1 := h.1
    unfold LOi at h1
    split at h1
    · rename_i h0
      have h2 := hB _ (lk_mem (es := es) (k := i - 1) (by omega))
      unfold inB at h2
      simp only [Option.all_some, Bool.and_eq_true, Bool.not_eq_true'] at h1 h2 ⊢
      exact elt_neg h1 h2.1
    · exact h1
 · cases hi with
   | none => rfl
   | some u =>
    have h1 := h.2
    unfold HIi at h1
    split at h1
    · rename_i h0
      have h2 := hB _ (lk_mem h0)
      unfold inB at h2
      simp only [Option.all_some, Bool.and_eq_true] at h1 h2 ⊢
      exact elt_trans h1 h2.2
    · exact h1
theorem inB_ups {es : List Entry} {lo hi : Option Entry} {e : Entry} (h : inB lo hi e = true) : inB (LOi es lo (UPS es e)) (HIi es hi (UPS es e)) e = true := by
 unfold inB at h ⊢
 rw [Bool.and_eq_true] at h ⊢
 refine ⟨?_, ?_⟩
 · unfold LOi; split
   · rename_i h0
     simp only [Option.all_some, Bool.not_eq_true']
     exact ups_lt es e _ (by omega)
   · exact h.1
 · unfold HIi; split
   · rename_i h0; exact ups_at es e h0
   · exact h.2
theorem inB_other {es : List Entry} {lo hi : Option Entry} {e : Entry} (ha : ASC es = true) {i : Nat} (hi2 : i ≤ es.length) (hne : i ≠ UPS es e) : inB (LOi es lo i) (HIi es hi i) e = false := by
 cases hb : inB (LOi es lo i) (HIi es hi i) e with
 | false => rfl
 | true =>
  exfalso
  unfold inB at hb
  rw [Bool.and_eq_true] at hb
  by_cases hlt : i < UPS es e
  · have hl := ups_le es e
    have h1 := hb.2
    unfold HIi at h1
    rw [if_pos (by omega)] at h1
    have h2 := ups_lt es e i hlt
    simp only [Option.all_some] at h1
    rw [h2] at h1; cases h1
  · have h1 := hb.1
    unfold LOi at h1
    rw [if_pos (by omega)] at h1
    have h2 := ups_ge (e := e) ha (k := i - 1) (by omega) (by omega)
    simp only [Option.all_some, h2] at h1
    cases h1
structure SUB (ns : List Node) (lo hi : Option Entry) (s : List Bool) (r : List Bool) (all : List Entry) : Prop where
 mono : ∀ j, sn s j = true → sn r j = true
 new : ∀ j, sn r j = true → sn s j = false → j < ns.length ∧ NOK (nd ns j) = true ∧ ((nd ns j).Leaf = true → ∀ x ∈ (nd ns j).Entries, inB lo hi x = true)
 mem : ∀ x, x ∈ all ↔ ∃ j, sn r j = true ∧ sn s j = false ∧ (nd ns j).Leaf = true ∧ x ∈ (nd ns j).Entries
theorem nok_asc {d : Node} (h : NOK d = true) : ASC d.Entries = true := by
 unfold NOK at h
 simp only [Bool.and_eq_true] at h
 exact h.1.2
theorem nok_kids {d : Node} (h : NOK d = true) (hL : d.Leaf = false) : 0 < d.Entries.length ∧ d.Kids.length = d.Entries.length + 1 := by
 unfold NOK at h
 simp only [Bool.and_eq_true] at h
 have := h.2
 rw [hL] at this
 simpa using this
theorem ww_step {ns : List Node} {n : Nat} {s : SD} {a dep : Int} {lo hi : Option Entry} {r : SD × List Entry} (h : WW ns (n + 1) s a dep lo hi = some r) :
    0 ≤ a ∧ a < (ns.length : Int) ∧ sn s.1 a.toNat = false ∧ NOK (nd ns a.toNat) = true ∧ BND (nd ns a.toNat).Entries lo hi = true ∧
    (((nd ns a.toNat).Leaf = true ∧ r = ((s.1.set a.toNat true, DP s.2 dep), (nd ns a.toNat).Entries) ∧ DP s.2 dep = dep) ∨
     ((nd ns a.toNat).Leaf = false ∧ WK (fun s k l h => WW ns n s k (dep + 1) l h) (nd ns a.toNat).Entries lo hi (nd ns a.toNat).Kids 0 (s.1.set a.toNat true, s.2) [] = some r)) := by
  unfold WW at h
  split at h
  case isFalse => cases h
  rename_i hc
  obtain ⟨c1, c2, c3⟩ := hc
  split at h
  case isFalse => cases h
  rename_i hN
  simp only [Bool.and_eq_true] at hN
  refine ⟨c1, c2, c3, hN.1, hN.2, ?_⟩
  rw [nd_at] at h
  cases hL : (nd ns a.toNat).Leaf with
  | true =>
    rw [hL] at h
    simp only [if_true] at h
    split at h
    case isFalse => cases h
    rename_i hd
    exact .inl ⟨rfl, (Option.some.inj h).symm, hd⟩
  | false =>
    rw [hL] at h
    exact .inr ⟨rfl, by simpa using h⟩
theorem ww_sub (ns : List Node) : ∀ (n : Nat) (s : SD) (a dep : Int) (lo hi : Option Entry) (r : SD × List Entry), s.1.length = ns.length → WW ns n s a dep lo hi = some r → SUB ns lo hi s.1 r.1.1 r.2
 | 0, s, a, dep, lo, hi, r, hl, h => by cases h
 | n + 1, s, a, dep, lo, hi, r, hl, h => by
  obtain ⟨h0, h1, hs, hN, hB, hc⟩ := ww_step h
  have hib : a.toNat < s.1.length := by omega
  have hset : ∀ j, sn (s.1.set a.toNat true) j = if j = a.toNat then true else sn s.1 j := fun j => sn_set _ _ _ hib
  rcases hc with ⟨hL, rfl, _⟩ | ⟨hL, hK⟩
  · refine ⟨fun j hj => ?_, fun j hj hj2 => ?_, fun x => ?_⟩
    · simp only [hset]; split
      · rfl
      · exact hj
    · simp only [hset] at hj
      split at hj
      · rename_i e; subst e
        exact ⟨by omega, hN, fun _ => List.all_eq_true.1 hB⟩
      · rw [hj] at hj2; cases hj2
    · simp only [hset]
      refine ⟨fun hx => ⟨a.toNat, by simp, hs, hL, hx⟩, fun ⟨j, hj, hj2, _, hx⟩ => ?_⟩
      split at hj
      · rename_i e; subst e; exact hx
      · rw [hj] at hj2; cases hj2
  · have hkl := nok_kids hN hL
    have := wk_inv (W := fun s k l h => WW ns n s k (dep + 1) l h) (es := (nd ns a.toNat).Entries) (lo := lo) (hi := hi) (kids := (nd ns a.toNat).Kids) (fun i (s1 : SD) acc => s1.1.length = ns.length ∧ SUB ns lo hi (s.1.set a.toNat true) s1.1 acc)
     (fun i hi2 s1 acc q hΦ hq => by
      obtain ⟨hl1, hsub⟩ := hΦ
      obtain ⟨u1, _, _⟩ := ww_len ns n s1 _ (dep + 1) _ _ q hl1 hq
      have hs2 := ww_sub ns n s1 _ (dep + 1) _ _ q hl1 hq
      refine ⟨u1, fun j hj => hs2.mono j (hsub.mono j hj), fun j hj hj2 => ?_, fun x => ?_⟩
      · cases hj3 : sn s1.1 j with
        | true => exact hsub.new j hj3 hj2
        | false =>
         obtain ⟨v1, v2, v3⟩ := hs2.new j hj hj3
         exact ⟨v1, v2, fun hLf x hx => inB_kid hB (i := i) (by omega) (v3 hLf x hx)⟩
      · rw [List.mem_append, hsub.mem x, hs2.mem x]
        constructor
        · rintro (⟨j, a1, a2, a3, a4⟩ | ⟨j, a1, a2, a3, a4⟩)
          · exact ⟨j, hs2.mono j a1, a2, a3, a4⟩
          · refine ⟨j, a1, ?_, a3, a4⟩
            cases hz : sn (s.1.set a.toNat true) j with
            | false => rfl
            | true => rw [hsub.mono j hz] at a2; cases a2
        · rintro ⟨j, a1, a2, a3, a4⟩
          cases hj3 : sn s1.1 j with
          | true => exact .inl ⟨j, hj3, a2, a3, a4⟩
          | false => exact .inr ⟨j, a1, hj3, a3, a4⟩)
     _ 0 _ [] r rfl (by omega) ⟨by simpa using hl, fun j hj => hj, (fun j hj hj2 => by rw [hj] at hj2; cases hj2), (fun x => by
      simp only [List.not_mem_nil, false_iff]
      rintro ⟨j, a1, a2, _⟩
      rw [a1] at a2; cases a2)⟩ hK
    obtain ⟨_, hsub⟩ := this
    refine ⟨fun j hj => hsub.mono j (by rw [hset]; split <;> simp_all), fun j hj hj2 => ?_, fun x => ?_⟩
    · by_cases e : j = a.toNat
      · subst e; exact ⟨by omega, hN, fun hLf => by rw [hL] at hLf; cases hLf⟩
      · exact hsub.new j hj (by rw [hset, if_neg e]; exact hj2)
    · rw [hsub.mem x]
      constructor
      · rintro ⟨j, a1, a2, a3, a4⟩
        refine ⟨j, a1, ?_, a3, a4⟩
        rw [hset] at a2
        split at a2
        · cases a2
        · exact a2
      · rintro ⟨j, a1, a2, a3, a4⟩
        refine ⟨j, a1, ?_, a3, a4⟩
        rw [hset, if_neg (fun e => by subst e; rw [hL] at a3; cases a3)]; exact a2
end Go.Proofs.YtlpbggnpiogioaaGreat
set_option linter.unusedVariables false
set_option linter.unusedSimpArgs false
set_option linter.unusedSectionVars false
namespace Go.Proofs.YtlpbggnpiogioaaGreat
open Go V Ieee
def WYp (ns : List Node) (e : Entry) : Nat → Int → Option (List (Int × Nat))
 | 0, _ => none
 | n + 1, a => if (nd ns a.toNat).Leaf = true then some [(a, UPS (nd ns a.toNat).Entries e)] else (WYp ns e n ((nd ns a.toNat).Kids.getD (UPS (nd ns a.toNat).Entries e) 0)).map fun q => (a, UPS (nd ns a.toNat).Entries e) :: q
theorem at_last {α : Type} [Inhabited α] (pre : List α) (a : α) (h : pre.length ≤ 2000000) : at_ (pre ++ [a]) (IntKind.wrap .i64 (((pre ++ [a]).length : Int) - 1)) = a := by
 rw [List.length_append, w64 (by simp only [List.length_cons, List.length_nil]; omega) (by simp only [List.length_cons, List.length_nil]; omega)]
 have : ((pre.length + [a].length : Nat) : Int) - 1 = ((pre.length : Nat) : Int) := by simp
 rw [this, at_nat _ _ (by simp)]; simp
theorem way_step (t : Tree) (e : Entry) (pre ats : List Int) (a : Int) (hok : okNs t.Nodes) (hoe : ok_Item e.Key) (h0 : 0 ≤ a) (h1 : a < (t.Nodes.length : Int)) (hp : pre.length ≤ 100000) (hq : ats.length ≤ 100000) (hl4 : (nd t.Nodes a.toNat).Entries.length ≤ 4)
    (hkk : (nd t.Nodes a.toNat).Leaf = false → (nd t.Nodes a.toNat).Kids.length = (nd t.Nodes a.toNat).Entries.length + 1) :
    impl_Tree_way.b0 t e (pre ++ [a], ats) = some (if (nd t.Nodes a.toNat).Leaf = true then .inr (pre ++ [a], ats ++ [(UPS (nd t.Nodes a.toNat).Entries e : Int)]) else .inl (pre ++ [a] ++ [(nd t.Nodes a.toNat).Kids.getD (UPS (nd t.Nodes a.toNat).Entries e) 0], ats ++ [(UPS (nd t.Nodes a.toNat).Entries e : Int)])) := by
  unfold impl_Tree_way.b0
  have hw : IntKind.wrap .i64 (((pre ++ [a]).length : Int) - 1) = (pre.length : Int) := by rw [List.length_append, w64 (by simp only [List.length_cons, List.length_nil]; omega) (by simp only [List.length_cons, List.length_nil]; omega)]; simp
  have hal := at_last pre a (by omega)
  simp only []
  rw [if_pos ⟨by rw [hw]; omega, by rw [hw, List.length_append]; simp only [List.length_cons, List.length_nil]; omega⟩, hal, if_pos ⟨h0, h1⟩]
  have hmem : nd t.Nodes a.toNat ∈ t.Nodes := by rw [← nd_at, at_eq _ _ h0 h1]; exact List.getElem_mem _
  have hoke := hok _ hmem
  have hul := ups_le (nd t.Nodes a.toNat).Entries e
  have := iter_for (body := impl_Tree_way.b1 t e (pre ++ [a], ats)) (UPS (nd t.Nodes a.toNat).Entries e) (fun k => (k : Int))
    (if (nd t.Nodes a.toNat).Leaf = true then .inr (pre ++ [a], ats ++ [(UPS (nd t.Nodes a.toNat).Entries e : Int)]) else .inl (pre ++ [a] ++ [(nd t.Nodes a.toNat).Kids.getD (UPS (nd t.Nodes a.toNat).Entries e) 0], ats ++ [(UPS (nd t.Nodes a.toNat).Entries e : Int)]))
    (fun k hk => by
      have hkl : k < (nd t.Nodes a.toNat).Entries.length := by omega
      unfold impl_Tree_way.b1
      simp only [hal, nd_at]
      rw [if_pos (by simp; omega), if_pos ⟨by omega, by omega⟩, lk_at, show (Entry.mk (lk (nd t.Nodes a.toNat).Entries k).Key (lk (nd t.Nodes a.toNat).Entries k).Id) = lk (nd t.Nodes a.toNat).Entries k from rfl, impl_compareEntries _ _ (hoke _ (lk_mem hkl)) hoe, Option.bind_some, Option.bind_some, ecm_le, ups_lt _ _ k hk, if_pos (by decide), w64 (by omega) (by omega)]; simp)
    (by
      unfold impl_Tree_way.b1
      simp only [hal, nd_at]
      have e78 : (if decide (((UPS (nd t.Nodes a.toNat).Entries e : Nat) : Int) < ((nd t.Nodes a.toNat).Entries.length : Int)) = true then (if 0 ≤ ((UPS (nd t.Nodes a.toNat).Entries e : Nat) : Int) ∧ ((UPS (nd t.Nodes a.toNat).Entries e : Nat) : Int) < ((nd t.Nodes a.toNat).Entries.length : Int) then (impl_compareEntries.f (Entry.mk (at_ (nd t.Nodes a.toNat).Entries ((UPS (nd t.Nodes a.toNat).Entries e : Nat) : Int)).Key (at_ (nd t.Nodes a.toNat).Entries ((UPS (nd t.Nodes a.toNat).Entries e : Nat) : Int)).Id) e).bind fun r96 => some (decide (r96 ≤ 0)) else none) else some false) = some false := by
        by_cases hlt : UPS (nd t.Nodes a.toNat).Entries e < (nd t.Nodes a.toNat).Entries.length
        · rw [if_pos (by simpa using hlt), if_pos ⟨by omega, by omega⟩, lk_at, show (Entry.mk (lk (nd t.Nodes a.toNat).Entries (UPS (nd t.Nodes a.toNat).Entries e)).Key (lk (nd t.Nodes a.toNat).Entries (UPS (nd t.Nodes a.toNat).Entries e)).Id) = lk (nd t.Nodes a.toNat).Entries (UPS (nd t.Nodes a.toNat).Entries e) from rfl, impl_compareEntries _ _ (hoke _ (lk_mem hlt)) hoe, Option.bind_some, ecm_le, ups_at _ _ hlt]; rfl
        · rw [if_neg (by simpa using hlt)]
      rw [e78, Option.bind_some, if_neg (by decide), if_pos (by simp only [List.length_cons, List.length_nil, Lim]; omega)]
      cases hL : (nd t.Nodes a.toNat).Leaf with
      | true => rfl
      | false =>
        have := hkk hL
        have hu : UPS (nd t.Nodes a.toNat).Entries e < (nd t.Nodes a.toNat).Kids.length := by omega
        rw [if_neg (by decide), if_pos ⟨by omega, by omega⟩, if_pos (by simp only [List.length_append, List.length_cons, List.length_nil, Lim]; omega)]
        simp only [Option.bind_some, Bool.false_eq_true, if_false]
        rw [at_nat _ _ hu, List.getD_eq_getElem?_getD, List.getElem?_eq_getElem hu]; rfl)
  exact this
structure WAYP (t : Tree) (e : Entry) (s r : List Bool) (a : Int) (q : List (Int × Nat)) : Prop where
 it : ∀ pre ats : List Int, pre.length + q.length ≤ 100000 → ats.length + q.length ≤ 100000 → iter (impl_Tree_way.b0 t e) (pre ++ [a], ats) = some (pre ++ q.map (·.1), ats ++ q.map fun x => (x.2 : Int))
 last : ∃ p L, q = p ++ [(L, UPS (nd t.Nodes L.toNat).Entries e)] ∧ 0 ≤ L ∧ L < (t.Nodes.length : Int) ∧ sn r L.toNat = true ∧ sn s L.toNat = false ∧ (nd t.Nodes L.toNat).Leaf = true ∧ NOK (nd t.Nodes L.toNat) = true ∧
  ∀ j, sn r j = true → sn s j = false → (nd t.Nodes j).Leaf = true → j ≠ L.toNat → ∀ x ∈ (nd t.Nodes j).Entries, SAME x e = false
 len : q.length ≤ t.Nodes.length + 1000
theorem ww_way (t : Tree) (e : Entry) (hok : okNs t.Nodes) (hoe : ok_Item e.Key) : ∀ (n : Nat) (s : SD) (a dep : Int) (lo hi : Option Entry) (r : SD × List Entry), s.1.length = t.Nodes.length → WW t.Nodes n s a dep lo hi = some r → inB lo hi e = true →
    ∃ q, WYp t.Nodes e n a = some q ∧ q.length ≤ n ∧ (∀ pre ats : List Int, pre.length + n ≤ 100000 → ats.length + n ≤ 100000 → iter (impl_Tree_way.b0 t e) (pre ++ [a], ats) = some (pre ++ q.map (·.1), ats ++ q.map fun x => (x.2 : Int))) ∧
      ∃ p L, q = p ++ [(L, UPS (nd t.Nodes L.toNat).Entries e)] ∧ 0 ≤ L ∧ L < (t.Nodes.length : Int) ∧ sn r.1.1 L.toNat = true ∧ sn s.1 L.toNat = false ∧ (nd t.Nodes L.toNat).Leaf = true ∧ NOK (nd t.Nodes L.toNat) = true ∧
        ∀ j, sn r.1.1 j = true → sn s.1 j = false → (nd t.Nodes j).Leaf = true → j ≠ L.toNat → ∀ x ∈ (nd t.Nodes j).Entries, SAME x e = false
  | 0, s, a, dep, lo, hi, r, hl, h, hb => by cases h
  | n + 1, s, a, dep, lo, hi, r, hl, h, hb => by
    obtain ⟨h0, h1, hs, hN, hB, hc⟩ := ww_step h
    have hib : a.toNat < s.1.length := by omega
    have hset : ∀ j, sn (s.1.set a.toNat true) j = if j = a.toNat then true else sn s.1 j := fun j => sn_set _ _ _ hib
    rcases hc with ⟨hL, rfl, _⟩ | ⟨hL, hK⟩
    · refine ⟨[(a, UPS (nd t.Nodes a.toNat).Entries e)], by unfold WYp; rw [if_pos hL], by simp, fun pre ats hp hq => ?_, [], a, rfl, h0, h1, by simp [hset], hs, hL, hN, fun j hj hj2 _ hne => ?_⟩
      · rw [iter_r (o := (pre ++ [a], ats ++ [(UPS (nd t.Nodes a.toNat).Entries e : Int)])) ?_]
        · simp
        · rw [way_step t e pre ats a hok hoe h0 h1 (by omega) (by omega) (nok_len hN) (fun hx => by rw [hL] at hx; cases hx), if_pos hL]
      · simp only [hset] at hj
        rw [if_neg hne] at hj
        rw [hj] at hj2; cases hj2
    · have hkl := nok_kids hN hL
      have hul := ups_le (nd t.Nodes a.toNat).Entries e
      have huk : UPS (nd t.Nodes a.toNat).Entries e < (nd t.Nodes a.toNat).Kids.length := by omega
      have := wk_inv (W := fun s k l h => WW t.Nodes n s k (dep + 1) l h) (es := (nd t.Nodes a.toNat).Entries) (lo := lo) (hi := hi) (kids := (nd t.Nodes a.toNat).Kids) (fun i (s1 : SD) acc => s1.1.length = t.Nodes.length ∧ (∀ j, sn (s.1.set a.toNat true) j = true → sn s1.1 j = true) ∧
          (i ≤ UPS (nd t.Nodes a.toNat).Entries e → ∀ j, sn s1.1 j = true → sn (s.1.set a.toNat true) j = false → (nd t.Nodes j).Leaf = true → ∀ x ∈ (nd t.Nodes j).Entries, SAME x e = false) ∧
          (UPS (nd t.Nodes a.toNat).Entries e < i → ∃ q, WYp t.Nodes e n ((nd t.Nodes a.toNat).Kids.getD (UPS (nd t.Nodes a.toNat).Entries e) 0) = some q ∧ q.length ≤ n ∧ (∀ pre ats : List Int, pre.length + n ≤ 100000 → ats.length + n ≤ 100000 → iter (impl_Tree_way.b0 t e) (pre ++ [(nd t.Nodes a.toNat).Kids.getD (UPS (nd t.Nodes a.toNat).Entries e) 0], ats) = some (pre ++ q.map (·.1), ats ++ q.map fun x => (x.2 : Int))) ∧
            ∃ p L, q = p ++ [(L, UPS (nd t.Nodes L.toNat).Entries e)] ∧ 0 ≤ L ∧ L < (t.Nodes.length : Int) ∧ sn s1.1 L.toNat = true ∧ sn (s.1.set a.toNat true) L.toNat = false ∧ (nd t.Nodes L.toNat).Leaf = true ∧ NOK (nd t.Nodes L.toNat) = true ∧
              ∀ j, sn s1.1 j = true → sn (s.1.set a.toNat true) j = false → (nd t.Nodes j).Leaf = true → j ≠ L.toNat → ∀ x ∈ (nd t.Nodes j).Entries, SAME x e = false))
        (fun i hi2 s1 acc q hΦ hq => by
          obtain ⟨hl1, hmo, hA, hC⟩ := hΦ
          obtain ⟨u1, _, _⟩ := ww_len t.Nodes n s1 _ (dep + 1) _ _ q hl1 hq
          have hs2 := ww_sub t.Nodes n s1 _ (dep + 1) _ _ q hl1 hq
          have hno : i ≠ UPS (nd t.Nodes a.toNat).Entries e → ∀ j, sn q.1.1 j = true → sn s1.1 j = false → (nd t.Nodes j).Leaf = true → ∀ x ∈ (nd t.Nodes j).Entries, SAME x e = false := fun hne j hj hj2 hLf x hx => by
            cases hS : SAME x e with
            | false => rfl
            | true =>
              have := same_in hS ((hs2.new j hj hj2).2.2 hLf x hx)
              rw [inB_other (nok_asc hN) (i := i) (by omega) hne] at this; cases this
          refine ⟨u1, fun j hj => hs2.mono j (hmo j hj), fun hi3 j hj hj2 hLf x hx => ?_, fun hi3 => ?_⟩
          · cases hj3 : sn s1.1 j with
            | true => exact hA (by omega) j hj3 hj2 hLf x hx
            | false => exact hno (by omega) j hj hj3 hLf x hx
          · by_cases heq : i = UPS (nd t.Nodes a.toNat).Entries e
            · have hbi := inB_ups (es := (nd t.Nodes a.toNat).Entries) hb
              rw [← heq] at hbi
              obtain ⟨q2, hq2, hlen, hit, p, L, e1, e2, e3, e4, e5, e6, e7, e8⟩ := ww_way t e hok hoe n s1 _ (dep + 1) _ _ q hl1 hq hbi
              have hkid : (nd t.Nodes a.toNat).Kids[i] = (nd t.Nodes a.toNat).Kids.getD (UPS (nd t.Nodes a.toNat).Entries e) 0 := by rw [← heq, List.getD_eq_getElem?_getD, List.getElem?_eq_getElem hi2]; rfl
              rw [hkid] at hq2 hit
              have e5' : sn (s.1.set a.toNat true) L.toNat = false := by
                cases hz : sn (s.1.set a.toNat true) L.toNat with
                | false => rfl
                | true => rw [hmo _ hz] at e5; cases e5
              refine ⟨q2, hq2, hlen, hit, p, L, e1, e2, e3, e4, e5', e6, e7, fun j hj hj2 hLf hne x hx => ?_⟩
              cases hj3 : sn s1.1 j with
              | true => exact hA (by omega) j hj3 hj2 hLf x hx
              | false => exact e8 j hj hj3 hLf hne x hx
            · obtain ⟨q2, hq2, hlen, hit, p, L, e1, e2, e3, e4, e5, e6, e7, e8⟩ := hC (by omega)
              refine ⟨q2, hq2, hlen, hit, p, L, e1, e2, e3, hs2.mono _ e4, e5, e6, e7, fun j hj hj2 hLf hne x hx => ?_⟩
              cases hj3 : sn s1.1 j with
              | true => exact e8 j hj3 hj2 hLf hne x hx
              | false => exact hno heq j hj hj3 hLf x hx)
        _ 0 _ [] r rfl (by omega) ⟨by simpa using hl, fun j hj => hj, (fun _ j hj hj2 => by rw [hj] at hj2; cases hj2), (fun h => by omega)⟩ hK
      obtain ⟨_, hmo, _, hC⟩ := this
      obtain ⟨q, hq, hlen, hit, p, L, e1, e2, e3, e4, e5, e6, e7, e8⟩ := hC huk
      have e5' : sn s.1 L.toNat = false := by
        rw [hset] at e5
        split at e5
        · cases e5
        · exact e5
      refine ⟨(a, UPS (nd t.Nodes a.toNat).Entries e) :: q, by unfold WYp; rw [if_neg (by rw [hL]; decide), hq]; rfl, by simp; omega, fun pre ats hp hq2 => ?_, (a, UPS (nd t.Nodes a.toNat).Entries e) :: p, L, by rw [e1]; rfl, e2, e3, e4, e5', e6, e7, fun j hj hj2 hLf hne x hx => ?_⟩
      · rw [iter_l (s' := (pre ++ [a] ++ [(nd t.Nodes a.toNat).Kids.getD (UPS (nd t.Nodes a.toNat).Entries e) 0], ats ++ [(UPS (nd t.Nodes a.toNat).Entries e : Int)])) ?_]
        · rw [hit (pre ++ [a]) _ (by simp; omega) (by simp; omega)]; simp
        · rw [way_step t e pre ats a hok hoe h0 h1 (by omega) (by omega) (nok_len hN) (fun _ => hkl.2), if_neg (by rw [hL]; decide)]
      · refine e8 j hj ?_ hLf hne x hx
        rw [hset, if_neg (fun e => by subst e; rw [hL] at hLf; cases hLf)]; exact hj2
end Go.Proofs.YtlpbggnpiogioaaGreat
set_option linter.unusedVariables false
set_option linter.unusedSimpArgs false
set_option linter.unusedSectionVars false
namespace Go.Proofs.YtlpbggnpiogioaaGreat
open Go V Ieee
theorem same_at {es : List Entry} {e : Entry} (ha : ASC es = true) {k : Nat} (hk : k < es.length) (hs : SAME (lk es k) e = true) : k + 1 = UPS es e := by
 unfold SAME at hs
 simp only [Bool.and_eq_true, Bool.not_eq_true'] at hs
 have h1 : k < UPS es e := by
  by_cases h : k < UPS es e
  · exact h
  · have := ups_ge (e := e) ha (k := k) (by omega) hk
    rw [hs.2] at this; cases this
 have hl := ups_le es e
 by_cases h2 : k + 1 < UPS es e
 · have h3 := ups_lt es e (k + 1) h2
   have h4 := elt_neg hs.1 h3
   rw [asc_pw ha k (k + 1) (by omega) (by omega)] at h4; cases h4
 · omega
theorem any_same {es : List Entry} {e : Entry} (ha : ASC es = true) : es.any (SAME · e) = (decide (1 ≤ UPS es e) && SAME (lk es (UPS es e - 1)) e) := by
 rw [Bool.eq_iff_iff, List.any_eq_true, Bool.and_eq_true, decide_eq_true_eq]
 have hl := ups_le es e
 constructor
 · rintro ⟨x, hx, hs⟩
   obtain ⟨k, hk, rfl⟩ := List.getElem_of_mem hx
   rw [← lk_get es k hk] at hs
   have := same_at ha hk hs
   refine ⟨by omega, ?_⟩
   rw [← this]; exact hs
 · rintro ⟨h1, h2⟩
   exact ⟨_, lk_mem (es := es) (k := UPS es e - 1) (by omega), h2⟩
structure TKF (t : Tree) (e : Entry) (all : List Entry) (q p : List (Int × Nat)) (L : Int) : Prop where
 way : impl_Tree_way.f t e = some (q.map (·.1), q.map fun x => (x.2 : Int))
 wyp : WYp t.Nodes e 1000 t.Root = some q
 eq : q = p ++ [(L, UPS (nd t.Nodes L.toNat).Entries e)]
 qlen : q.length ≤ 1000
 L0 : 0 ≤ L
 L1 : L < (t.Nodes.length : Int)
 leaf : (nd t.Nodes L.toNat).Leaf = true
 other : ∀ j, j < t.Nodes.length → (nd t.Nodes j).Leaf = true → j ≠ L.toNat → ∀ x ∈ (nd t.Nodes j).Entries, SAME x e = false
 nok : ∀ j, j < t.Nodes.length → NOK (nd t.Nodes j) = true
 mem : ∀ x, x ∈ all ↔ ∃ j, j < t.Nodes.length ∧ (nd t.Nodes j).Leaf = true ∧ x ∈ (nd t.Nodes j).Entries
 n1 : 1 ≤ t.Nodes.length
 n300 : t.Nodes.length ≤ 300
theorem sn_rep (n j : Nat) : sn (List.replicate n false) j = false := by
 unfold sn
 rw [List.getD_eq_getElem?_getD, List.getElem?_replicate]
 split <;> rfl
theorem sn_all {l : List Bool} (h : l.all id = true) (j : Nat) (hj : j < l.length) : sn l j = true := by
 unfold sn
 rw [List.getD_eq_getElem?_getD, List.getElem?_eq_getElem hj]
 exact List.all_eq_true.1 h _ (List.getElem_mem hj)
theorem tk_facts {t : Tree} {e : Entry} {all : List Entry} (h : okT t) (hoe : ok_Item e.Key) (hk : TKW t = some all) : ∃ q p L, TKF t e all q p L := by
 unfold TKW at hk
 split at hk
 case isFalse => cases hk
 rename_i hn
 obtain ⟨r, hr, hk⟩ := Option.bind_eq_some_iff.1 hk
 split at hk
 case isFalse => cases hk
 rename_i hall
 obtain rfl := Option.some.inj hk
 obtain ⟨u1, _, _⟩ := ww_len t.Nodes 1000 _ _ _ _ _ r (by simp) hr
 have hsub := ww_sub t.Nodes 1000 _ _ _ _ _ r (by simp) hr
 obtain ⟨q, hq, hlen, hit, p, L, e1, e2, e3, e4, e5, e6, e7, e8⟩ := ww_way t e h.1 hoe 1000 _ _ _ _ _ r (by simp) hr rfl
 have hsn : ∀ j, j < t.Nodes.length → sn r.1.1 j = true := fun j hj => sn_all hall j (by omega)
 refine ⟨q, p, L, ?_, hq, e1, hlen, e2, e3, e6, fun j hj hLf hne => e8 j (hsn j hj) (sn_rep _ _) hLf hne, fun j hj => (hsub.new j (hsn j hj) (sn_rep _ _)).2.1, fun x => ?_, hn.1, hn.2⟩
 · have := hit [] [] (by simp) (by simp)
   unfold impl_Tree_way.f
   simpa using this
 · rw [hsub.mem x]
   exact ⟨fun ⟨j, a1, a2, a3, a4⟩ => ⟨j, (hsub.new j a1 a2).1, a3, a4⟩, fun ⟨j, a1, a3, a4⟩ => ⟨j, hsn j a1, sn_rep _ _, a3, a4⟩⟩
theorem nd_mem {ns : List Node} {j : Nat} (h : j < ns.length) : nd ns j ∈ ns := by unfold nd; rw [List.getD_eq_getElem?_getD, List.getElem?_eq_getElem h]; exact List.getElem_mem h
def THR (es : List Entry) (e : Entry) : Bool := decide (1 ≤ UPS es e) && SAME (lk es (UPS es e - 1)) e
theorem tk_there {t : Tree} {e : Entry} {all : List Entry} {q p : List (Int × Nat)} {L : Int} (f : TKF t e all q p L) : all.any (SAME · e) = THR (nd t.Nodes L.toNat).Entries e := by
 unfold THR
 have hl : L.toNat < t.Nodes.length := by have := f.L0; have := f.L1; omega
 rw [← any_same (nok_asc (f.nok _ hl)), Bool.eq_iff_iff, List.any_eq_true, List.any_eq_true]
 constructor
 · rintro ⟨x, hx, hs⟩
   obtain ⟨j, a1, a2, a3⟩ := (f.mem x).1 hx
   by_cases hj : j = L.toNat
   · subst hj; exact ⟨x, a3, hs⟩
   · rw [f.other j a1 a2 hj x a3] at hs; cases hs
 · rintro ⟨x, hx, hs⟩
   exact ⟨x, (f.mem x).2 ⟨_, hl, f.leaf, hx⟩, hs⟩
theorem impl_has {t : Tree} {e : Entry} {all : List Entry} {q p : List (Int × Nat)} {L : Int} (h : okT t) (hoe : ok_Item e.Key) (f : TKF t e all q p L) : impl_Tree_has.f t e = some (L, (UPS (nd t.Nodes L.toNat).Entries e : Int) - 1, THR (nd t.Nodes L.toNat).Entries e) := by
 unfold impl_Tree_has.f
 have hl : L.toNat < t.Nodes.length := by have := f.L0; have := f.L1; omega
 have hpl : p.length ≤ 1000 := by have := f.qlen; rw [f.eq, List.length_append] at this; omega
 rw [f.way, Option.bind_some, f.eq]
 simp only [List.map_append, List.map_cons, List.map_nil]
 have k1 := at_last (p.map (·.1)) L (by rw [List.length_map]; omega)
 have k2 := at_last (p.map fun x : Int × Nat => (x.2 : Int)) (UPS (nd t.Nodes L.toNat).Entries e : Int) (by rw [List.length_map]; omega)
 have hu := ups_le (nd t.Nodes L.toNat).Entries e
 have h4 := nok_len (f.nok _ hl)
 rw [if_pos ⟨by rw [List.length_append, w64 (by simp only [List.length_cons, List.length_nil]; omega) (by simp only [List.length_map, List.length_cons, List.length_nil]; omega)]; simp only [List.length_cons, List.length_nil]; omega, by rw [List.length_append, w64 (by simp only [List.length_cons, List.length_nil]; omega) (by simp only [List.length_map, List.length_cons, List.length_nil]; omega)]; omega⟩]
 rw [if_pos ⟨by rw [List.length_append, w64 (by simp only [List.length_cons, List.length_nil]; omega) (by simp only [List.length_map, List.length_cons, List.length_nil]; omega)]; simp only [List.length_cons, List.length_nil]; omega, by rw [List.length_append, w64 (by simp only [List.length_cons, List.length_nil]; omega) (by simp only [List.length_map, List.length_cons, List.length_nil]; omega)]; omega⟩]
 rw [k1, k2, w64 (by omega) (by omega)]
 unfold THR
 by_cases h1 : 1 ≤ UPS (nd t.Nodes L.toNat).Entries e
 · have hi : ((UPS (nd t.Nodes L.toNat).Entries e : Nat) : Int) - 1 = ((UPS (nd t.Nodes L.toNat).Entries e - 1 : Nat) : Int) := by omega
   rw [if_pos (by simp; omega), if_pos ⟨f.L0, f.L1⟩]
   rw [hi, nd_at, if_pos ⟨by omega, by omega⟩, lk_at]
   have hm := h.1 _ (nd_mem hl) _ (lk_mem (es := (nd t.Nodes L.toNat).Entries) (k := UPS (nd t.Nodes L.toNat).Entries e - 1) (by omega))
   rw [show (Entry.mk (lk (nd t.Nodes L.toNat).Entries (UPS (nd t.Nodes L.toNat).Entries e - 1)).Key (lk (nd t.Nodes L.toNat).Entries (UPS (nd t.Nodes L.toNat).Entries e - 1)).Id) = lk (nd t.Nodes L.toNat).Entries (UPS (nd t.Nodes L.toNat).Entries e - 1) from rfl, impl_compareEntries _ _ hm hoe, Option.bind_some, Option.bind_some, ecm_eq, decide_eq_true h1]; rfl
 · rw [if_neg (by simp; omega), decide_eq_false h1]; rfl
theorem spec_l11there (all : List Entry) (e : Entry) (hl : all.length ≤ 2000000) (hok : ∀ x ∈ all, ok_Item x.Key ∧ IOK x.Key = true) (hoe : ok_Item e.Key) (hie : IOK e.Key = true) : spec_l11there.f all e = some (all.any (SAME · e)) := by
 unfold spec_l11there.f
 rw [iter_test (body := spec_l11there.b0 all e) all (SAME · e) true false (fun k hk => by
  obtain ⟨o1, o2⟩ := hok _ (List.getElem_mem hk)
  unfold spec_l11there.b0
  have hr : 0 ≤ (k : Int) ∧ (k : Int) < (all.length : Int) := by omega
  simp only [if_pos hr]
  rw [if_pos (by simp; omega), at_nat _ k hk, show (Entry.mk (all[k]).Key (all[k]).Id) = all[k] from rfl, spec_l11less _ _ o1 hoe o2 hie, Option.bind_some, spec_l11less _ _ hoe o1 hie o2, w64 (by omega) (by omega)]
  unfold SAME
  cases ELT all[k] e <;> cases ELT e all[k] <;> rfl) (by
  unfold spec_l11there.b0
  rw [if_neg (by simp)]; rfl)]
 cases all.any (SAME · e) <;> rfl
theorem tk_len {t : Tree} {all : List Entry} (hk : TKW t = some all) : all.length ≤ 1200 := by
 unfold TKW at hk
 split at hk
 case isFalse => cases hk
 rename_i hn
 obtain ⟨r, hr, hk⟩ := Option.bind_eq_some_iff.1 hk
 split at hk
 case isFalse => cases hk
 obtain rfl := Option.some.inj hk
 obtain ⟨_, u2, _⟩ := ww_len t.Nodes 1000 _ _ _ _ _ r (by simp) hr
 simp only [cntF_rep] at u2
 omega
theorem tk_ok {t : Tree} {e : Entry} {all : List Entry} {q p : List (Int × Nat)} {L : Int} (h : okT t) (f : TKF t e all q p L) : ∀ x ∈ all, ok_Item x.Key ∧ IOK x.Key = true := fun x hx => by
 obtain ⟨j, a1, a2, a3⟩ := (f.mem x).1 hx
 have hN := f.nok j a1
 unfold NOK at hN
 simp only [Bool.and_eq_true] at hN
 exact ⟨h.1 _ (nd_mem a1) x a3, eok_iok (List.all_eq_true.1 hN.1.1.1 x a3)⟩
theorem spec_TreeAll (t : Tree) (h : okT t) (hs : smN t.Nodes) {all : List Entry} (hk : TKW t = some all) (hT : ∀ x ∈ all, x.Key.T.length ≤ 1000000000) : spec_TreeAll.f t = some all := by
 obtain ⟨w, hw, hal⟩ := spec_look t h
 have hl := tk_len hk
 unfold spec_TreeAll.f
 rw [hw, Option.bind_some, hk]
 rw [if_neg (by simp), hal all hk, spec_l11entries all (by omega) hT]; rfl
end Go.Proofs.YtlpbggnpiogioaaGreat
set_option linter.unusedVariables false
set_option linter.unusedSimpArgs false
set_option linter.unusedSectionVars false
namespace Go.Proofs.YtlpbggnpiogioaaGreat
open Go V Ieee
def PTH (ns : List Node) (e : Entry) : Int → List (Int × Nat) → Prop
 | _, [] => False
 | c, (a, i) :: q => c = a ∧ 0 ≤ a ∧ a < (ns.length : Int) ∧ NOK (nd ns a.toNat) = true ∧ i = UPS (nd ns a.toNat).Entries e ∧ (∀ x ∈ q, x.1.toNat ≠ a.toNat) ∧
  ((q = [] ∧ (nd ns a.toNat).Leaf = true) ∨ ((nd ns a.toNat).Leaf = false ∧ PTH ns e ((nd ns a.toNat).Kids.getD i 0) q))
theorem ww_pth (ns : List Node) (e : Entry) : ∀ (n : Nat) (s : SD) (a dep : Int) (lo hi : Option Entry) (r : SD × List Entry), s.1.length = ns.length → WW ns n s a dep lo hi = some r →
    ∃ q, WYp ns e n a = some q ∧ PTH ns e a q ∧ q.length ≤ n ∧ ∀ x ∈ q, sn s.1 x.1.toNat = false
  | 0, s, a, dep, lo, hi, r, hl, h => by cases h
  | n + 1, s, a, dep, lo, hi, r, hl, h => by
    obtain ⟨h0, h1, hs, hN, hB, hc⟩ := ww_step h
    have hib : a.toNat < s.1.length := by omega
    have hset : ∀ j, sn (s.1.set a.toNat true) j = if j = a.toNat then true else sn s.1 j := fun j => sn_set _ _ _ hib
    rcases hc with ⟨hL, rfl, _⟩ | ⟨hL, hK⟩
    · refine ⟨[(a, UPS (nd ns a.toNat).Entries e)], by unfold WYp; rw [if_pos hL], ⟨rfl, h0, h1, hN, rfl, by simp, .inl ⟨rfl, hL⟩⟩, by simp, fun x hx => ?_⟩
      obtain rfl := List.mem_singleton.1 hx
      exact hs
    · have hkl := nok_kids hN hL
      have hul := ups_le (nd ns a.toNat).Entries e
      have huk : UPS (nd ns a.toNat).Entries e < (nd ns a.toNat).Kids.length := by omega
      have := wk_inv (W := fun s k l h => WW ns n s k (dep + 1) l h) (es := (nd ns a.toNat).Entries) (lo := lo) (hi := hi) (kids := (nd ns a.toNat).Kids) (fun i (s1 : SD) acc => s1.1.length = ns.length ∧ (∀ j, sn (s.1.set a.toNat true) j = true → sn s1.1 j = true) ∧
          (UPS (nd ns a.toNat).Entries e < i → ∃ q, WYp ns e n ((nd ns a.toNat).Kids.getD (UPS (nd ns a.toNat).Entries e) 0) = some q ∧ PTH ns e ((nd ns a.toNat).Kids.getD (UPS (nd ns a.toNat).Entries e) 0) q ∧ q.length ≤ n ∧ ∀ x ∈ q, sn (s.1.set a.toNat true) x.1.toNat = false))
        (fun i hi2 s1 acc q hΦ hq => by
          obtain ⟨hl1, hmo, hC⟩ := hΦ
          obtain ⟨u1, _, _⟩ := ww_len ns n s1 _ (dep + 1) _ _ q hl1 hq
          have hs2 := ww_sub ns n s1 _ (dep + 1) _ _ q hl1 hq
          refine ⟨u1, fun j hj => hs2.mono j (hmo j hj), fun hi3 => ?_⟩
          by_cases heq : i = UPS (nd ns a.toNat).Entries e
          · obtain ⟨q2, w1, w2, w3, w4⟩ := ww_pth ns e n s1 _ (dep + 1) _ _ q hl1 hq
            have hkid : (nd ns a.toNat).Kids[i] = (nd ns a.toNat).Kids.getD (UPS (nd ns a.toNat).Entries e) 0 := by rw [← heq, List.getD_eq_getElem?_getD, List.getElem?_eq_getElem hi2]; rfl
            rw [hkid] at w1 w2
            refine ⟨q2, w1, w2, w3, fun x hx => ?_⟩
            cases hz : sn (s.1.set a.toNat true) x.1.toNat with
            | false => rfl
            | true => have := w4 x hx; rw [hmo _ hz] at this; cases this
          · exact hC (by omega))
        _ 0 _ [] r rfl (by omega) ⟨by simpa using hl, fun j hj => hj, (fun h => by omega)⟩ hK
      obtain ⟨_, hmo, hC⟩ := this
      obtain ⟨q, hq, hP, hlen, hx⟩ := hC huk
      have hne : ∀ x ∈ q, x.1.toNat ≠ a.toNat := fun x hx2 e2 => by
        have := hx x hx2
        rw [hset, if_pos e2] at this; cases this
      refine ⟨(a, UPS (nd ns a.toNat).Entries e) :: q, by unfold WYp; rw [if_neg (by rw [hL]; decide), hq]; rfl, ⟨rfl, h0, h1, hN, rfl, hne, .inr ⟨hL, hP⟩⟩, by simp; omega, fun x hx2 => ?_⟩
      rcases List.mem_cons.1 hx2 with rfl | hx2
      · exact hs
      · have := hx x hx2
        rw [hset, if_neg (hne x hx2)] at this; exact this
def PUTN (d : Node) (i : Nat) (up : Entry) (new : Int) : Node := Node.mk d.Leaf (d.Entries.take i ++ up :: d.Entries.drop i) (if d.Leaf = true then d.Kids else d.Kids.take (i + 1) ++ new :: d.Kids.drop (i + 1))
def SPA (d : Node) : Node := Node.mk d.Leaf (d.Entries.take 2) (if d.Leaf = true then d.Kids else d.Kids.take 3)
def SPB (d : Node) : Node := Node.mk d.Leaf (d.Entries.drop (if d.Leaf = true then 2 else 3)) (if d.Leaf = true then [] else d.Kids.drop 3)
def STEP (ns : List Node) (a : Int) (i : Nat) (up : Entry) : List Node × Option Entry :=
 if (PUTN (nd ns a.toNat) i up ((ns.length : Int) - 1)).Entries.length ≤ 4 then (ns.set a.toNat (PUTN (nd ns a.toNat) i up ((ns.length : Int) - 1)), none)
 else (ns.set a.toNat (SPA (PUTN (nd ns a.toNat) i up ((ns.length : Int) - 1))) ++ [SPB (PUTN (nd ns a.toNat) i up ((ns.length : Int) - 1))], some (lk (PUTN (nd ns a.toNat) i up ((ns.length : Int) - 1)).Entries 2))
def DN (e : Entry) : List (Int × Nat) → List Node → List Node × Option Entry
 | [], ns => (ns, some e)
 | (a, i) :: q, ns => match (DN e q ns).2 with
  | none => ((DN e q ns).1, none)
  | some up => STEP (DN e q ns).1 a i up
def SMB (d : Node) : Prop := d.Entries.length ≤ 4 ∧ d.Kids.length ≤ 5 ∧ ∀ x ∈ d.Entries, x.Key.T.length ≤ 1048576
theorem putn_len {d : Node} {i : Nat} {up : Entry} {new : Int} (hi : i ≤ d.Entries.length) : (PUTN d i up new).Entries.length = d.Entries.length + 1 := by
 unfold PUTN
 simp only [List.length_append, List.length_take, List.length_cons, List.length_drop]; omega
theorem putn_kids {d : Node} {i : Nat} {up : Entry} {new : Int} (h : NOK d = true) (hi : i ≤ d.Entries.length) : (PUTN d i up new).Kids.length = if d.Leaf = true then 0 else d.Entries.length + 2 := by
 unfold PUTN
 cases hL : d.Leaf with
 | true =>
  unfold NOK at h
  simp only [Bool.and_eq_true] at h
  have h2 := h.2
  rw [hL] at h2
  simp at h2
  simp [h2]
 | false =>
  have := nok_kids h hL
  simp only [Bool.false_eq_true, if_false, List.length_append, List.length_take, List.length_cons, List.length_drop]; omega
theorem putn_txt {d : Node} {i : Nat} {up : Entry} {new : Int} (hT : ∀ x ∈ d.Entries, x.Key.T.length ≤ 1048576) (hu : up.Key.T.length ≤ 1048576) : ∀ x ∈ (PUTN d i up new).Entries, x.Key.T.length ≤ 1048576 := by
 unfold PUTN
 intro x hx
 rcases List.mem_append.1 hx with h | h
 · exact hT x (List.mem_of_mem_take h)
 · rcases List.mem_cons.1 h with rfl | h
   · exact hu
   · exact hT x (List.mem_of_mem_drop h)
theorem nd_set {ns : List Node} {a j : Nat} {d : Node} (h : j ≠ a) : nd (ns.set a d) j = nd ns j := by
 unfold nd
 rw [List.getD_eq_getElem?_getD, List.getD_eq_getElem?_getD, List.getElem?_set, if_neg (fun e => h e.symm)]
theorem nd_set_same {ns : List Node} {a : Nat} {d : Node} (h : a < ns.length) : nd (ns.set a d) a = d := by
 unfold nd
 rw [List.getD_eq_getElem?_getD, List.getElem?_set, if_pos rfl, if_pos h]; rfl
theorem nd_app {ns l : List Node} {j : Nat} (h : j < ns.length) : nd (ns ++ l) j = nd ns j := by
 unfold nd
 rw [List.getD_eq_getElem?_getD, List.getD_eq_getElem?_getD, List.getElem?_append_left h]
structure STF (ns : List Node) (a : Int) (i : Nat) (up : Entry) : Prop where
 a0 : 0 ≤ a
 a1 : a < (ns.length : Int)
 nok : NOK (nd ns a.toNat) = true
 i1 : i ≤ (nd ns a.toNat).Entries.length
 sm : ∀ d ∈ ns, SMB d
 ut : up.Key.T.length ≤ 1048576
theorem stf_txt {ns : List Node} {a : Int} {i : Nat} {up : Entry} (f : STF ns a i up) (new : Int) : ∀ x ∈ (PUTN (nd ns a.toNat) i up new).Entries, x.Key.T.length ≤ 1048576 := by
 have := f.a0; have := f.a1
 exact putn_txt (f.sm _ (nd_mem (by omega))).2.2 f.ut
theorem step_facts {ns : List Node} {a : Int} {i : Nat} {up : Entry} (f : STF ns a i up) :
    ns.length ≤ (STEP ns a i up).1.length ∧ (STEP ns a i up).1.length ≤ ns.length + 1 ∧ (∀ j, j < ns.length → j ≠ a.toNat → nd (STEP ns a i up).1 j = nd ns j) ∧ (∀ d ∈ (STEP ns a i up).1, SMB d) ∧ ∀ u, (STEP ns a i up).2 = some u → u.Key.T.length ≤ 1048576 := by
  have h4 := nok_len f.nok
  have hl := putn_len (up := up) (new := (ns.length : Int) - 1) f.i1
  have hk := putn_kids (up := up) (new := (ns.length : Int) - 1) f.nok f.i1
  have ht := stf_txt f ((ns.length : Int) - 1)
  have hlf : (PUTN (nd ns a.toNat) i up ((ns.length : Int) - 1)).Leaf = (nd ns a.toNat).Leaf := rfl
  unfold STEP
  generalize PUTN (nd ns a.toNat) i up ((ns.length : Int) - 1) = d at hl hk ht hlf
  rw [← hlf] at hk
  split
  · rename_i h5
    refine ⟨by simp, by simp, fun j hj hne => nd_set hne, fun x hx => ?_, fun u hu => by cases hu⟩
    rcases List.mem_or_eq_of_mem_set hx with hx | rfl
    · exact f.sm x hx
    · refine ⟨h5, ?_, ht⟩
      split at hk <;> omega
  · rename_i h5
    refine ⟨by simp, by simp, fun j hj hne => by simp only []; rw [nd_app (by simpa using hj), nd_set hne], fun x hx => ?_, fun u hu => ?_⟩
    · rcases List.mem_append.1 hx with hx | hx
      · rcases List.mem_or_eq_of_mem_set hx with hx | rfl
        · exact f.sm x hx
        · unfold SPA
          refine ⟨by simp only [List.length_take]; omega, ?_, fun y hy => ht y (List.mem_of_mem_take hy)⟩
          simp only []
          split
          · rename_i hL; rw [if_pos hL] at hk; omega
          · rw [List.length_take]; omega
      · obtain rfl := List.mem_singleton.1 hx
        unfold SPB
        refine ⟨by simp only [List.length_drop]; split <;> omega, ?_, fun y hy => ht y (List.mem_of_mem_drop hy)⟩
        simp only []
        split
        · simp
        · rename_i hL; rw [if_neg hL] at hk; rw [List.length_drop]; omega
    · obtain rfl := Option.some.inj hu
      exact ht _ (lk_mem (by omega))
structure DNF (ns : List Node) (q : List (Int × Nat)) (r : List Node × Option Entry) : Prop where
 l0 : ns.length ≤ r.1.length
 l1 : r.1.length ≤ ns.length + q.length
 old : ∀ j, j < ns.length → (∀ x ∈ q, x.1.toNat ≠ j) → nd r.1 j = nd ns j
 sm : ∀ d ∈ r.1, SMB d
 up : ∀ u, r.2 = some u → u.Key.T.length ≤ 1048576
theorem dnf_step {ns : List Node} {e : Entry} {a : Int} {i : Nat} {q : List (Int × Nat)} {r : List Node × Option Entry} {up : Entry} (f : DNF ns q r) (h0 : 0 ≤ a) (h1 : a < (ns.length : Int)) (hN : NOK (nd ns a.toNat) = true) (hi : i ≤ (nd ns a.toNat).Entries.length) (hne : ∀ x ∈ q, x.1.toNat ≠ a.toNat) (hu : r.2 = some up) : nd r.1 a.toNat = nd ns a.toNat ∧ STF r.1 a i up := by
 have e1 := f.old a.toNat (by omega) hne
 have := f.l0
 exact ⟨e1, h0, by omega, by rw [e1]; exact hN, by rw [e1]; exact hi, f.sm, f.up _ hu⟩
theorem dn_facts (ns : List Node) (e : Entry) (hsm : ∀ d ∈ ns, SMB d) (he : e.Key.T.length ≤ 1048576) : ∀ (q : List (Int × Nat)) (c : Int), (q = [] ∨ PTH ns e c q) → DNF ns q (DN e q ns)
 | [], c, _ => ⟨Nat.le_refl _, Nat.le_refl _, fun _ _ _ => rfl, hsm, fun u hu => by obtain rfl := Option.some.inj hu; exact he⟩
 | (a, i) :: q, c, h => by
  rcases h with h | ⟨_, h0, h1, hN, hi, hne, hc⟩
  · cases h
  have ih := dn_facts ns e hsm he q _ (by
   rcases hc with ⟨rfl, _⟩ | ⟨_, hP⟩
   · exact .inl rfl
   · exact .inr hP)
  unfold DN
  cases hr : (DN e q ns).2 with
  | none => exact ⟨ih.l0, by have := ih.l1; simp only [List.length_cons]; omega, fun j hj hx => ih.old j hj fun x hx2 => hx x (List.mem_cons_of_mem _ hx2), ih.sm, fun u hu => by cases hu⟩
  | some up =>
   obtain ⟨e1, f⟩ := dnf_step (e := e) (i := i) ih h0 h1 hN (by rw [hi]; exact ups_le _ _) hne hr
   obtain ⟨s1, s2, s3, s4, s5⟩ := step_facts f
   have := ih.l0; have := ih.l1
   refine ⟨by simp only []; omega, by simp only [List.length_cons]; omega, fun j hj hx => ?_, s4, s5⟩
   simp only []
   rw [s3 j (by omega) (fun e => hx _ (List.mem_cons_self ..) e.symm)]
   exact ih.old j hj fun x hx2 => hx x (List.mem_cons_of_mem _ hx2)
end Go.Proofs.YtlpbggnpiogioaaGreat
set_option linter.unusedVariables false
set_option linter.unusedSimpArgs false
set_option linter.unusedSectionVars false
namespace Go.Proofs.YtlpbggnpiogioaaGreat
open Go V Ieee
theorem txt_le {l : List Entry} (h : ∀ x ∈ l, x.Key.T.length ≤ 1048576) : ∀ x ∈ l, x.Key.T.length ≤ 1000000000 := fun x hx => by have := h x hx; omega
theorem lk_at2 (es : List Entry) : at_ es (2 : Int) = lk es 2 := rfl
theorem impl_split (ns : List Node) (root a : Int) (d : Node) (h0 : 0 ≤ a) (h1 : a < (ns.length : Int)) (hd : nd ns a.toNat = d) (h5 : d.Entries.length = 5) (hk : d.Leaf = false → d.Kids.length = 6) (ht : ∀ x ∈ d.Entries, x.Key.T.length ≤ 1048576) (hl : ns.length ≤ 1000000) :
    impl_Tree_split.f (Tree.mk ns root) a = some (lk d.Entries 2, Tree.mk (ns.set a.toNat (SPA d) ++ [SPB d]) root) := by
  have htk : ∀ n, ∀ x ∈ d.Entries.take n, x.Key.T.length ≤ 1000000000 := fun n x hx => txt_le ht x (List.mem_of_mem_take hx)
  have htd : ∀ n, ∀ x ∈ d.Entries.drop n, x.Key.T.length ≤ 1000000000 := fun n x hx => txt_le ht x (List.mem_of_mem_drop hx)
  have hm2 : (lk d.Entries 2).Key.T.length ≤ 1000000000 := txt_le ht _ (lk_mem (by omega))
  have e2 : ((2 : Int)).toNat = 2 := rfl
  have e3 : ((3 : Int)).toNat = 3 := rfl
  have o2 := impl_ownEntries (d.Entries.take 2) (by rw [List.length_take]; omega) (htk 2)
  have o2d := impl_ownEntries (d.Entries.drop 2) (by rw [List.length_drop]; omega) (htd 2)
  have o3d := impl_ownEntries (d.Entries.drop 3) (by rw [List.length_drop]; omega) (htd 3)
  unfold impl_Tree_split.f
  simp only [nd_at, hd, e2, e3, lk_at2]
  rw [if_pos ⟨h0, h1⟩, if_pos (by omega)]
  cases hL : d.Leaf with
  | true =>
    rw [if_pos rfl, if_pos (by omega), o2d, Option.bind_some, if_pos (by omega), o2, Option.bind_some, if_pos (by simp only [List.length_set, List.length_cons, List.length_nil, Lim]; omega), impl_own _ hm2, Option.bind_some]
    unfold SPA SPB
    rw [hL]; rfl
  | false =>
    have h6 := hk hL
    rw [if_neg (by decide), if_pos (by omega), if_pos (by omega), o3d, Option.bind_some, cloneI _ (by rw [List.length_drop]; omega), Option.bind_some, if_pos (by omega), cloneI _ (by rw [List.length_take]; omega), Option.bind_some, if_pos (by omega), o2, Option.bind_some, if_pos (by simp only [List.length_set, List.length_cons, List.length_nil, Lim]; omega), impl_own _ hm2, Option.bind_some]
    unfold SPA SPB
    rw [hL]; rfl
theorem add_step (nodes ats : List Int) (ns : List Node) (root a : Int) (i : Nat) (up : Entry) (k : Nat) (hk : k < nodes.length) (hk2 : k < ats.length) (ha : nodes[k] = a) (hi : ats[k] = (i : Int)) (f : STF ns a i up) (hl : ns.length ≤ 1000000) (hnl : nodes.length ≤ 1000000) :
    impl_Tree_add.b0 (nodes, ats) ((k : Int), ns, root, up.Key.Kind, up.Key.N, up.Key.F, up.Key.T, up.Id) = some (match (STEP ns a i up).2 with
      | none => .inr (Tree.mk (STEP ns a i up).1 root)
      | some u => .inl ((k : Int) - 1, (STEP ns a i up).1, root, u.Key.Kind, u.Key.N, u.Key.F, u.Key.T, u.Id)) := by
  have h4 := nok_len f.nok
  have h0 := f.a0
  have h1 := f.a1
  have hi1 := f.i1
  have hal : a.toNat < ns.length := by omega
  have hpl := putn_len (up := up) (new := (ns.length : Int) - 1) f.i1
  have hpk := putn_kids (up := up) (new := (ns.length : Int) - 1) f.nok f.i1
  have hpt := stf_txt f ((ns.length : Int) - 1)
  have hw : IntKind.wrap .i64 ((i : Int) + 1) = ((i + 1 : Nat) : Int) := by rw [w64 (by omega) (by omega)]; omega
  have hw2 : IntKind.wrap .i64 ((ns.length : Int) - 1) = (ns.length : Int) - 1 := w64 (by omega) (by omega)
  have hw3 : IntKind.wrap .i64 ((k : Int) - 1) = (k : Int) - 1 := w64 (by omega) (by omega)
  have hup : Entry.mk (Item.mk up.Key.Kind up.Key.N up.Key.F up.Key.T) up.Id = up := rfl
  have e1 : at_ nodes (k : Int) = a := by rw [at_nat _ _ hk, ha]
  have e2 : at_ ats (k : Int) = (i : Int) := by rw [at_nat _ _ hk2, hi]
  unfold impl_Tree_add.b0
  simp only [e1, e2, hup, hw, hw2, hw3, nd_at, Int.toNat_natCast]
  rw [if_pos (by simp), if_pos ⟨by omega, by omega⟩, if_pos ⟨h0, h1⟩, if_pos ⟨by omega, by omega⟩, if_pos ⟨by omega, by omega, by simp only [Lim]; omega⟩, Option.bind_some]
  generalize hy : ns.set a.toNat (Node.mk (nd ns a.toNat).Leaf ((nd ns a.toNat).Entries.take i ++ up :: (nd ns a.toNat).Entries.drop i) (nd ns a.toNat).Kids) = y
  have hyl : y.length = ns.length := by rw [← hy, List.length_set]
  have hyn : nd y a.toNat = Node.mk (nd ns a.toNat).Leaf ((nd ns a.toNat).Entries.take i ++ up :: (nd ns a.toNat).Entries.drop i) (nd ns a.toNat).Kids := by rw [← hy, nd_set_same hal]
  have hput : (if (!(nd y a.toNat).Leaf) = true then (if 0 ≤ (k : Int) ∧ (k : Int) < (ats.length : Int) then (if 0 ≤ ((i + 1 : Nat) : Int) ∧ ((i + 1 : Nat) : Int) ≤ ((nd y a.toNat).Kids.length : Int) ∧ (nd y a.toNat).Kids.length + 1 ≤ Lim then ((some (y.set a.toNat (Node.mk (nd y a.toNat).Leaf (nd y a.toNat).Entries ((nd y a.toNat).Kids.take (i + 1) ++ (IntKind.wrap .i64 ((y.length : Int) - 1)) :: (nd y a.toNat).Kids.drop (i + 1))))).bind fun y223 => some y223) else none) else none) else some y) = some (ns.set a.toNat (PUTN (nd ns a.toNat) i up ((ns.length : Int) - 1))) := by
    cases hL : (nd ns a.toNat).Leaf with
    | true =>
      rw [hyn, hL, if_neg (by simp), ← hy]
      unfold PUTN
      rw [hL]; rfl
    | false =>
      have hkk := nok_kids f.nok hL
      rw [hyn]
      simp only [hL]
      rw [if_pos (by simp), if_pos ⟨by omega, by omega⟩, if_pos ⟨by omega, by omega, by simp only [Lim]; omega⟩, Option.bind_some, hyl, hw2, ← hy, List.set_set]
      unfold PUTN
      rw [hL]; rfl
  rw [hput, Option.bind_some]
  unfold STEP
  have hlf : (PUTN (nd ns a.toNat) i up ((ns.length : Int) - 1)).Leaf = (nd ns a.toNat).Leaf := rfl
  generalize PUTN (nd ns a.toNat) i up ((ns.length : Int) - 1) = d at hpl hpk hpt hlf ⊢
  have hnd : nd (ns.set a.toNat d) a.toNat = d := nd_set_same hal
  rw [if_pos (by rw [List.length_set]; exact h1), hnd]
  by_cases h5 : d.Entries.length ≤ 4
  · rw [if_pos (by simp; omega), if_pos h5]
  · rw [if_neg (by simp; omega), if_neg h5, if_pos ⟨by omega, by omega⟩, impl_split (ns.set a.toNat d) root a d h0 (by rw [List.length_set]; exact h1) hnd (by omega) (fun hL => by
      have hL2 : (nd ns a.toNat).Leaf = false := by rw [← hlf]; exact hL
      rw [hL2, if_neg (by decide)] at hpk
      omega) hpt (by rw [List.length_set]; exact hl), Option.bind_some, List.set_set]
def ROOT (r : List Node × Option Entry) (root : Int) : Tree := match r.2 with
 | none => Tree.mk r.1 root
 | some up => Tree.mk (r.1 ++ [Node.mk false [up] [root, (r.1.length : Int) - 1]]) (r.1.length : Int)
theorem dn_none (e : Entry) (ns : List Node) : ∀ (m : Nat) (q : List (Int × Nat)), (DN e (q.drop m) ns).2 = none → DN e q ns = ((DN e (q.drop m) ns).1, none)
 | 0, q, h => by rw [List.drop_zero] at h ⊢; exact Prod.ext rfl h
 | m + 1, [], h => by rw [List.drop_nil] at h; cases h
 | m + 1, (a, i) :: q, h => by
  rw [List.drop_succ_cons] at h ⊢
  have := dn_none e ns m q h
  have h2 : (DN e q ns).2 = none := by rw [this]
  show (match (DN e q ns).2 with
   | none => ((DN e q ns).1, none)
   | some up => STEP (DN e q ns).1 a i up) = _
  rw [h2, this]
theorem pth_drop (ns : List Node) (e : Entry) : ∀ (m : Nat) (q : List (Int × Nat)) (c : Int), PTH ns e c q → m < q.length → ∃ c', PTH ns e c' (q.drop m)
 | 0, q, c, h, _ => ⟨c, h⟩
 | m + 1, [], c, h, hm => by cases h
 | m + 1, (a, i) :: q, c, h, hm => by
  obtain ⟨_, _, _, _, _, _, hc⟩ := h
  rcases hc with ⟨rfl, _⟩ | ⟨_, hP⟩
  · simp at hm
  · exact pth_drop ns e m q _ hP (by simpa using hm)
theorem add_loop (ns : List Node) (root c : Int) (e : Entry) (q : List (Int × Nat)) (hP : PTH ns e c q) (hq : q.length ≤ 1000) (hsm : ∀ d ∈ ns, SMB d) (he : e.Key.T.length ≤ 1048576) (hl : ns.length ≤ 300) :
    ∀ (m : Nat) (up : Entry), m ≤ q.length → (DN e (q.drop m) ns).2 = some up → iter (impl_Tree_add.b0 (q.map (·.1), q.map fun x => (x.2 : Int))) ((m : Int) - 1, (DN e (q.drop m) ns).1, root, up.Key.Kind, up.Key.N, up.Key.F, up.Key.T, up.Id) = some (ROOT (DN e q ns) root)
  | 0, up, _, hu => by
    rw [List.drop_zero] at hu ⊢
    have f := dn_facts ns e hsm he q c (.inr hP)
    have := f.l1
    rw [iter_r (o := ROOT (DN e q ns) root) ?_]
    unfold impl_Tree_add.b0 ROOT
    rw [hu]
    simp only []
    rw [if_neg (by simp), if_pos (by simp only [List.length_cons, List.length_nil, Lim]; omega), Option.bind_some, Option.bind_some, w64 (by omega) (by omega), List.length_append, w64 (by simp only [List.length_cons, List.length_nil]; omega) (by simp only [List.length_cons, List.length_nil]; omega)]
    have : (((DN e q ns).1.length + [Node.mk false [Entry.mk (Item.mk up.Key.Kind up.Key.N up.Key.F up.Key.T) up.Id] [root, ((DN e q ns).1.length : Int) - 1]].length : Nat) : Int) - 1 = ((DN e q ns).1.length : Int) := by simp
    rw [this]
  | m + 1, up, hm, hu => by
    obtain ⟨c', hPm⟩ := pth_drop ns e m q c hP (by omega)
    have hdr := List.drop_eq_getElem_cons (show m < q.length by omega)
    have f := dn_facts ns e hsm he (q.drop (m + 1)) (by
      rw [hdr] at hPm
      exact (nd ns (q[m]).1.toNat).Kids.getD (q[m]).2 0) (by
      rw [hdr] at hPm
      obtain ⟨_, _, _, _, _, _, hc⟩ := hPm
      rcases hc with ⟨h, _⟩ | ⟨_, h⟩
      · exact .inl h
      · exact .inr h)
    rw [hdr] at hPm
    obtain ⟨_, h0, h1, hN, hi, hne, hc⟩ := hPm
    obtain ⟨e1, sf⟩ := dnf_step (e := e) (i := (q[m]).2) f h0 h1 hN (Nat.le_trans (Nat.le_of_eq hi) (ups_le _ _)) hne hu
    have hst : DN e (q.drop m) ns = STEP (DN e (q.drop (m + 1)) ns).1 (q[m]).1 (q[m]).2 up := by
      rw [hdr]
      show (match (DN e (q.drop (m + 1)) ns).2 with
        | none => ((DN e (q.drop (m + 1)) ns).1, none)
        | some up => STEP (DN e (q.drop (m + 1)) ns).1 (q[m]).1 (q[m]).2 up) = _
      rw [hu]
    have hfl := f.l1
    have hdl : (q.drop (m + 1)).length ≤ 1000 := by rw [List.length_drop]; omega
    have hb := add_step (q.map (·.1)) (q.map fun x => (x.2 : Int)) _ root (q[m]).1 (q[m]).2 up m (by simp; omega) (by simp; omega) (by simp) (by simp) sf (by omega) (by simp; omega)
    rw [← hst] at hb
    have ek : (((m + 1 : Nat) : Int) - 1) = (m : Int) := by omega
    rw [ek]
    cases hr : (DN e (q.drop m) ns).2 with
    | none =>
      rw [hr] at hb
      rw [iter_r hb, dn_none e ns m q hr]
      rfl
    | some u =>
      rw [hr] at hb
      rw [iter_l hb]
      exact add_loop ns root c e q hP hq hsm he hl m u (by omega) hr
theorem impl_add (t : Tree) (e : Entry) (q : List (Int × Nat)) (hw : impl_Tree_way.f t e = some (q.map (·.1), q.map fun x => (x.2 : Int))) (hP : PTH t.Nodes e t.Root q) (hq : q.length ≤ 1000) (hsm : ∀ d ∈ t.Nodes, SMB d) (he : e.Key.T.length ≤ 1048576) (hl : t.Nodes.length ≤ 300) :
    impl_Tree_add.f t e = some (ROOT (DN e q t.Nodes) t.Root) := by
  unfold impl_Tree_add.f
  rw [hw, Option.bind_some, impl_own _ (by omega), Option.bind_some, Option.bind_some]
  have hd : q.drop q.length = [] := List.drop_length ..
  have := add_loop t.Nodes t.Root t.Root e q hP hq hsm he hl q.length e (Nat.le_refl _) (by rw [hd]; rfl)
  rw [hd] at this
  simp only [List.length_map]
  rw [w64 (by omega) (by omega)]
  exact this
end Go.Proofs.YtlpbggnpiogioaaGreat
set_option linter.unusedVariables false
set_option linter.unusedSimpArgs false
set_option linter.unusedSectionVars false
namespace Go.Proofs.YtlpbggnpiogioaaGreat
open Go V Ieee
theorem spec_ups (es : List Entry) (e : Entry) (hl : es.length ≤ 4) (ha : ASC es = true) (hok : ∀ x ∈ es, ok_Item x.Key ∧ IOK x.Key = true) (hoe : ok_Item e.Key) (hie : IOK e.Key = true) : spec_l11ups.f es e = some (UPS es e : Int) := by
 unfold spec_l11ups.f
 have hu := ups_le es e
 have := iter_for (body := spec_l11ups.b0 es e) es.length (fun k => (((min k (UPS es e) : Nat) : Int), (k : Int))) (UPS es e : Int) (fun k hk => by
  obtain ⟨o1, o2⟩ := hok _ (List.getElem_mem hk)
  unfold spec_l11ups.b0
  simp only []
  rw [if_pos (by simp; omega), if_pos ⟨by omega, by omega⟩, at_nat _ k hk, show Entry.mk (es[k]).Key (es[k]).Id = es[k] from rfl, spec_l11less e _ hoe o1 hie o2, Option.bind_some, w64 (n := (k : Int) + 1) (by omega) (by omega)]
  have ek : ((k : Int) + 1) = ((k + 1 : Nat) : Int) := by omega
  rcases Nat.lt_or_ge k (UPS es e) with h | h
  · have := ups_lt es e k h
    rw [lk_get es k hk] at this
    rw [this, if_pos (by decide), Option.bind_some, Nat.min_eq_left (by omega), w64 (by omega) (by omega), Nat.min_eq_left (by omega), ek]
  · have := ups_ge (e := e) ha h hk
    rw [lk_get es k hk] at this
    rw [this, if_neg (by decide), Option.bind_some, Nat.min_eq_right (by omega), Nat.min_eq_right (by omega), ek]) (by
  unfold spec_l11ups.b0
  rw [if_neg (by simp), Nat.min_eq_right hu]; rfl)
 simpa using this
theorem spec_put (es : List Entry) (i : Nat) (up : Entry) (hi : i ≤ es.length) (hl : es.length ≤ 4) : spec_l11put.f es (i : Int) up = some (es.take i ++ up :: es.drop i) := by
 unfold spec_l11put.f
 have h0 : 0 ≤ (i : Int) ∧ (i : Int) ≤ (es.length : Int) := by omega
 rw [if_pos h0, if_pos (by simp only [List.length_nil, List.length_take, Lim]; omega), if_pos (by simp only [List.length_append, List.length_nil, List.length_take, List.length_cons, Lim]; omega), if_pos h0, if_pos (by simp only [List.length_append, List.length_nil, List.length_take, List.length_drop, List.length_cons, Lim]; omega)]
 simp
def ENT0 : Entry := Entry.mk (Item.mk (0 : Int) (0 : Int) (0 : Nat) ([] : (List Int))) (0 : Int)
def DNR (r : List Node × Option Entry) (root : Int) : Entry × Int × Tree := match r.2 with
 | none => (ENT0, -1, Tree.mk r.1 root)
 | some up => (up, (r.1.length : Int) - 1, Tree.mk r.1 root)
theorem spec_down (t : Tree) (e : Entry) (hok : okNs t.Nodes) (hoe : ok_Item e.Key) (hie : IOK e.Key = true) (hsm : ∀ d ∈ t.Nodes, SMB d) (he : e.Key.T.length ≤ 1048576) (hl : t.Nodes.length ≤ 300) :
    ∀ (q : List (Int × Nat)) (n : Nat) (c : Int), PTH t.Nodes e c q → q.length ≤ n → n ≤ 1000 → spec_l11down.g n t c e = some (DNR (DN e q t.Nodes) t.Root)
  | [], n, c, h, _, _ => h.elim
  | (a, i) :: q, 0, c, h, hn, _ => by simp at hn
  | (a, i) :: q, n + 1, c, h, hn, hn2 => by
    obtain ⟨rfl, h0, h1, hN, hi, hne, hc⟩ := h
    have hal : c.toNat < t.Nodes.length := by omega
    have h4 := nok_len hN
    have hu := ups_le (nd t.Nodes c.toNat).Entries e
    have hE : ∀ x ∈ (nd t.Nodes c.toNat).Entries, ok_Item x.Key ∧ IOK x.Key = true := fun x hx => by
      refine ⟨hok _ (nd_mem hal) x hx, ?_⟩
      have hN2 := hN
      unfold NOK at hN2
      simp only [Bool.and_eq_true] at hN2
      exact eok_iok (List.all_eq_true.1 hN2.1.1.1 x hx)
    have hil : i ≤ (nd t.Nodes c.toNat).Entries.length := by omega
    show spec_l11down.h (spec_l11down.g n) t c e = _
    unfold spec_l11down.h
    have hups : spec_l11ups.f (at_ t.Nodes c).Entries e = some (i : Int) := by rw [nd_at, spec_ups _ e h4 (nok_asc hN) hE hoe hie, ← hi]
    rw [if_pos ⟨h0, h1⟩, hups, Option.bind_some]
    rcases hc with ⟨rfl, hL⟩ | ⟨hL, hP⟩
    · rw [nd_at t.Nodes c, if_pos hL, spec_put _ _ _ hil h4, Option.bind_some, if_pos ⟨h0, h1⟩]
      have sf : STF t.Nodes c i e := ⟨h0, h1, hN, hil, hsm, he⟩
      have hpl := putn_len (up := e) (new := (t.Nodes.length : Int) - 1) hil
      have hpt := stf_txt sf ((t.Nodes.length : Int) - 1)
      have hpd : Node.mk (nd t.Nodes c.toNat).Leaf ((nd t.Nodes c.toNat).Entries.take i ++ e :: (nd t.Nodes c.toNat).Entries.drop i) (nd t.Nodes c.toNat).Kids = PUTN (nd t.Nodes c.toNat) i e ((t.Nodes.length : Int) - 1) := by unfold PUTN; rw [if_pos hL]
      have hdn : DN e [(c, i)] t.Nodes = STEP t.Nodes c i e := rfl
      have hlf : (PUTN (nd t.Nodes c.toNat) i e ((t.Nodes.length : Int) - 1)).Leaf = true := hL
      have hes : (nd t.Nodes c.toNat).Entries.take i ++ e :: (nd t.Nodes c.toNat).Entries.drop i = (PUTN (nd t.Nodes c.toNat) i e ((t.Nodes.length : Int) - 1)).Entries := rfl
      have hkd : (nd t.Nodes c.toNat).Kids = (PUTN (nd t.Nodes c.toNat) i e ((t.Nodes.length : Int) - 1)).Kids := by rw [← hpd]
      have hld : (nd t.Nodes c.toNat).Leaf = (PUTN (nd t.Nodes c.toNat) i e ((t.Nodes.length : Int) - 1)).Leaf := rfl
      rw [hdn]
      unfold STEP
      simp only [hes, hkd, hld]
      generalize PUTN (nd t.Nodes c.toNat) i e ((t.Nodes.length : Int) - 1) = d at hpl hpt hlf ⊢
      by_cases h5 : d.Entries.length ≤ 4
      · rw [if_pos (by simp; omega), if_pos h5]; rfl
      · have e2 : ((2 : Int)).toNat = 2 := rfl
        rw [if_neg (by simp; omega), if_neg h5, if_pos (by omega), e2, spec_l11entries _ (by rw [List.length_drop]; omega) (fun x hx => txt_le hpt x (List.mem_of_mem_drop hx)), Option.bind_some, if_pos (by omega), spec_l11entries _ (by rw [List.length_take]; omega) (fun x hx => txt_le hpt x (List.mem_of_mem_take hx)), Option.bind_some, if_pos (by rw [List.length_set]; exact ⟨h0, h1⟩), Option.bind_some, if_pos (by simp only [List.length_set, List.length_cons, List.length_nil, Lim]; omega), if_pos (by rw [List.length_drop]; omega), List.set_set]
        have hk0 : at_ (d.Entries.drop 2) (0 : Int) = lk d.Entries 2 := by
          rw [show (0 : Int) = ((0 : Nat) : Int) from rfl, at_nat _ 0 (by rw [List.length_drop]; omega), lk_get _ 2 (by omega), List.getElem_drop]
        rw [hk0]
        unfold DNR SPA SPB
        simp only [hlf, if_true]
        rw [w64 (by simp only [List.length_append, List.length_set, List.length_cons, List.length_nil]; omega) (by simp only [List.length_append, List.length_set, List.length_cons, List.length_nil]; omega)]
    · have ih := spec_down t e hok hoe hie hsm he hl q n _ hP (by simpa using hn) (by omega)
      have hkl := nok_kids hN hL
      have f := dn_facts t.Nodes e hsm he q _ (.inr hP)
      have hatk : at_ (nd t.Nodes c.toNat).Kids (i : Int) = (nd t.Nodes c.toNat).Kids.getD i 0 := by
        rw [at_nat _ _ (by omega), List.getD_eq_getElem?_getD, List.getElem?_eq_getElem (by omega)]; rfl
      have hdn : DN e ((c, i) :: q) t.Nodes = (match (DN e q t.Nodes).2 with
        | none => ((DN e q t.Nodes).1, none)
        | some up => STEP (DN e q t.Nodes).1 c i up) := rfl
      rw [nd_at t.Nodes c, if_neg (by rw [hL]; decide), if_pos ⟨by omega, by omega⟩, hatk, ih, Option.bind_some, Option.bind_some, hdn]
      cases hr : (DN e q t.Nodes).2 with
      | none =>
        have hD : DNR (DN e q t.Nodes) t.Root = (ENT0, -1, Tree.mk (DN e q t.Nodes).1 t.Root) := by unfold DNR; rw [hr]
        rw [hD]
        simp only []
        rw [if_pos (by simp)]; rfl
      | some up =>
        obtain ⟨e1, sf⟩ := dnf_step (e := e) (i := i) f h0 h1 hN hil hne hr
        have hD : DNR (DN e q t.Nodes) t.Root = (up, ((DN e q t.Nodes).1.length : Int) - 1, Tree.mk (DN e q t.Nodes).1 t.Root) := by unfold DNR; rw [hr]
        have hfl := f.l1
        have hfl0 := f.l0
        have hqn : q.length ≤ 1000 := by have : q.length + 1 ≤ n + 1 := by simpa using hn
                                         omega
        rw [hD]
        generalize (DN e q t.Nodes).1 = ns at e1 sf hfl hfl0 ⊢
        have hal2 : c.toNat < ns.length := by omega
        have hlf : (PUTN (nd ns c.toNat) i up ((ns.length : Int) - 1)).Leaf = false := by rw [e1]; exact hL
        have hpl : (PUTN (nd ns c.toNat) i up ((ns.length : Int) - 1)).Entries.length = (nd t.Nodes c.toNat).Entries.length + 1 := by rw [putn_len sf.i1, e1]
        have hpk : (PUTN (nd ns c.toNat) i up ((ns.length : Int) - 1)).Kids.length = (nd t.Nodes c.toNat).Entries.length + 2 := by rw [putn_kids sf.nok sf.i1, e1, hL, if_neg (by decide)]
        have hpt := stf_txt sf ((ns.length : Int) - 1)
        have hw : IntKind.wrap .i64 ((i : Int) + 1) = ((i + 1 : Nat) : Int) := by rw [w64 (by omega) (by omega)]; omega
        have hup : Entry.mk (Item.mk up.Key.Kind up.Key.N up.Key.F up.Key.T) up.Id = up := rfl
        have hes : (nd ns c.toNat).Entries.take i ++ up :: (nd ns c.toNat).Entries.drop i = (PUTN (nd ns c.toNat) i up ((ns.length : Int) - 1)).Entries := rfl
        have hkd : (([] : List Int) ++ (nd ns c.toNat).Kids.take (i + 1)) ++ [(ns.length : Int) - 1] ++ (nd ns c.toNat).Kids.drop (i + 1) = (PUTN (nd ns c.toNat) i up ((ns.length : Int) - 1)).Kids := by
          unfold PUTN; rw [e1, hL]; simp
        have hld : (nd ns c.toNat).Leaf = (PUTN (nd ns c.toNat) i up ((ns.length : Int) - 1)).Leaf := rfl
        have e2 : ((2 : Int)).toNat = 2 := rfl
        have e3 : ((3 : Int)).toNat = 3 := rfl
        simp only []
        rw [nd_at ns c, hw, Int.toNat_natCast, hup]
        rw [if_neg (by simp; omega), if_pos ⟨h0, by omega⟩, spec_put _ _ _ sf.i1 (by rw [e1]; exact h4), Option.bind_some]
        have hkl2 : (nd ns c.toNat).Kids.length = (nd t.Nodes c.toNat).Entries.length + 1 := by rw [e1]; exact hkl.2
        rw [if_pos ⟨by omega, by omega⟩, if_pos (by simp only [List.length_nil, List.length_take, Lim]; omega), if_pos (by simp only [List.length_append, List.length_nil, List.length_take, List.length_cons, Lim]; omega), if_pos ⟨by omega, by omega⟩, if_pos (by simp only [List.length_append, List.length_nil, List.length_take, List.length_drop, List.length_cons, Lim]; omega), if_pos ⟨h0, by omega⟩, Option.bind_some]
        simp only [hes, hkd, hld]
        unfold STEP
        generalize PUTN (nd ns c.toNat) i up ((ns.length : Int) - 1) = d at hpl hpk hpt hlf ⊢
        have hda : Node.mk d.Leaf d.Entries d.Kids = d := rfl
        rw [hda]
        by_cases h5 : d.Entries.length ≤ 4
        · rw [if_pos (by simp; omega), if_pos h5]; rfl
        · simp only [e2, e3, lk_at2]
          have o3 := spec_l11entries (d.Entries.drop 3) (by rw [List.length_drop]; omega) (fun x hx => txt_le hpt x (List.mem_of_mem_drop hx))
          have o2 := spec_l11entries (d.Entries.take 2) (by rw [List.length_take]; omega) (fun x hx => txt_le hpt x (List.mem_of_mem_take hx))
          rw [if_neg (by simp; omega), if_neg h5, if_pos (by omega), if_pos (by omega), o3, Option.bind_some, if_pos (by simp only [List.length_nil, List.length_drop, Lim]; omega), Option.bind_some, if_pos (by omega), if_pos (by omega), o2, Option.bind_some, if_pos (by omega), if_pos (by simp only [List.length_nil, List.length_take, Lim]; omega), if_pos (by rw [List.length_set]; exact ⟨h0, by omega⟩), Option.bind_some, if_pos (by simp only [List.length_set, List.length_cons, List.length_nil, Lim]; omega), List.set_set]
          unfold DNR SPA SPB
          simp only [hlf, List.nil_append]
          rw [w64 (by simp only [List.length_append, List.length_set, List.length_cons, List.length_nil]; omega) (by simp only [List.length_append, List.length_set, List.length_cons, List.length_nil]; omega)]
          rfl
end Go.Proofs.YtlpbggnpiogioaaGreat
set_option linter.unusedVariables false
set_option linter.unusedSimpArgs false
set_option linter.unusedSectionVars false
namespace Go.Proofs.YtlpbggnpiogioaaGreat
open Go V Ieee
def NOT2 : Tree × Bool := (Tree.mk [] 0, false)
def CAP (T : Tree) : Tree × Bool := if 300 < T.Nodes.length then NOT2 else (T, true)
def TAD (t : Tree) (e : Entry) : Tree × Bool := match TKW t with
 | none => NOT2
 | some all => if EOK e = true then if all.any (SAME · e) = true then NOT2 else CAP (ROOT (DN e ((WYp t.Nodes e 1000 t.Root).getD []) t.Nodes) t.Root) else NOT2
theorem tk_pth {t : Tree} {e : Entry} {all : List Entry} {q p : List (Int × Nat)} {L : Int} (hk : TKW t = some all) (f : TKF t e all q p L) : PTH t.Nodes e t.Root q := by
 unfold TKW at hk
 split at hk
 case isFalse => cases hk
 obtain ⟨r, hr, hk⟩ := Option.bind_eq_some_iff.1 hk
 obtain ⟨q2, h1, h2, _⟩ := ww_pth t.Nodes e 1000 _ _ _ _ _ r (by simp) hr
 rw [f.wyp] at h1
 obtain rfl := Option.some.inj h1
 exact h2
theorem smb_of {d : Node} (h : NOK d = true) (ht : ∀ x ∈ d.Entries, x.Key.T.length ≤ 1048576) : SMB d := by
 have h4 := nok_len h
 refine ⟨h4, ?_, ht⟩
 cases hL : d.Leaf with
 | true =>
  unfold NOK at h
  simp only [Bool.and_eq_true] at h
  have h2 := h.2
  rw [hL] at h2
  simp at h2
  simp [h2]
 | false => have := nok_kids h hL; omega
theorem root_sm {ns : List Node} {q : List (Int × Nat)} {r : List Node × Option Entry} (root : Int) (f : DNF ns q r) : ∀ d ∈ (ROOT r root).Nodes, SMB d := by
 unfold ROOT
 cases hr : r.2 with
 | none => exact f.sm
 | some up =>
  intro d hd
  rcases List.mem_append.1 hd with hd | hd
  · exact f.sm d hd
  · obtain rfl := List.mem_singleton.1 hd
    exact ⟨by simp, by simp, fun x hx => by obtain rfl := List.mem_singleton.1 hx; exact f.up _ hr⟩
theorem smb_sm {ns : List Node} (h : ∀ d ∈ ns, SMB d) : smN ns := fun d hd => by
 obtain ⟨h1, h2, h3⟩ := h d hd
 exact ⟨by omega, txt_le h3, by omega⟩
theorem cap_sm {T : Tree} (h : ∀ d ∈ T.Nodes, SMB d) : (∀ d ∈ (CAP T).1.Nodes, SMB d) ∧ (CAP T).1.Nodes.length ≤ 300 := by
 unfold CAP
 split
 · exact ⟨fun d hd => absurd (show d ∈ ([] : List Node) from hd) (List.not_mem_nil), Nat.zero_le _⟩
 · rename_i hc; exact ⟨h, Nat.le_of_not_lt hc⟩
theorem tad_sm (t : Tree) (e : Entry) (h : okT t) (hoe : ok_Item e.Key) (ht : ∀ d ∈ t.Nodes, ∀ x ∈ d.Entries, x.Key.T.length ≤ 1048576) (he : e.Key.T.length ≤ 1048576) : (∀ d ∈ (TAD t e).1.Nodes, SMB d) ∧ (TAD t e).1.Nodes.length ≤ 300 := by
  have hno : (∀ d ∈ NOT2.1.Nodes, SMB d) ∧ NOT2.1.Nodes.length ≤ 300 := ⟨fun d hd => absurd (show d ∈ ([] : List Node) from hd) (List.not_mem_nil), Nat.zero_le _⟩
  unfold TAD
  cases hk : TKW t with
  | none => exact hno
  | some all =>
    obtain ⟨q, p, L, f⟩ := tk_facts (e := e) h hoe hk
    simp only []
    split
    · split
      · exact hno
      · have hsm : ∀ d ∈ t.Nodes, SMB d := fun d hd => by
          obtain ⟨j, hj, rfl⟩ := List.getElem_of_mem hd
          have hN := f.nok j hj
          unfold nd at hN
          rw [List.getD_eq_getElem?_getD, List.getElem?_eq_getElem hj] at hN
          exact smb_of hN (ht _ hd)
        rw [f.wyp]
        exact cap_sm (root_sm _ (dn_facts t.Nodes e hsm he q _ (.inr (tk_pth hk f))))
    · exact hno
theorem tk_smb {t : Tree} {e : Entry} {all : List Entry} {q p : List (Int × Nat)} {L : Int} (f : TKF t e all q p L) (ht : ∀ d ∈ t.Nodes, ∀ x ∈ d.Entries, x.Key.T.length ≤ 1048576) : ∀ d ∈ t.Nodes, SMB d := fun d hd => by
 obtain ⟨j, hj, rfl⟩ := List.getElem_of_mem hd
 have hN := f.nok j hj
 unfold nd at hN
 rw [List.getD_eq_getElem?_getD, List.getElem?_eq_getElem hj] at hN
 exact smb_of hN (ht _ hd)
theorem spec_TreeAdd (t : Tree) (a1 : Item) (a2 : Int) (h : okT t) (hs : smN t.Nodes) (hoe : ok_Item a1) (hT1 : a1.T.length ≤ 1048576) (hT : ∀ d ∈ t.Nodes, ∀ x ∈ d.Entries, x.Key.T.length ≤ 1048576) :
    spec_TreeAdd.f t a1 a2 = some (TAD t (Entry.mk a1 a2)) := by
  unfold spec_TreeAdd.f TAD
  rw [spec_l3copy _ (by omega), Option.bind_some, spec_TreeOk t h, Option.bind_some]
  cases hk : TKW t with
  | none => rfl
  | some all =>
    obtain ⟨q, p, L, f⟩ := tk_facts (e := Entry.mk a1 a2) h hoe hk
    have hall := tk_ok h f
    have hlen := tk_len hk
    simp only [Option.isSome_some]
    rw [if_neg (by decide), spec_l11entry (Entry.mk a1 a2) hoe, Option.bind_some]
    cases hE : EOK (Entry.mk a1 a2) with
    | false => rfl
    | true =>
      have hTa : ∀ x ∈ all, x.Key.T.length ≤ 1000000000 := fun x hx => by
        obtain ⟨j, b1, b2, b3⟩ := (f.mem x).1 hx
        have := hT _ (nd_mem b1) x b3
        omega
      have hie : IOK (Entry.mk a1 a2).Key = true := eok_iok hE
      rw [if_neg (by decide), spec_TreeAll t h hs hk hTa, Option.bind_some, spec_l11there all (Entry.mk a1 a2) (by omega) hall hoe hie, Option.bind_some, Option.bind_some, Option.bind_some]
      cases hA : all.any (SAME · (Entry.mk a1 a2)) with
      | true => rfl
      | false =>
        have h300 := f.n300
        have hsm := tk_smb f hT
        have hP := tk_pth hk f
        have df := dn_facts t.Nodes (Entry.mk a1 a2) hsm hT1 q _ (.inr hP)
        have hrs := root_sm t.Root df
        have hd := spec_down t (Entry.mk a1 a2) h.1 hoe hie hsm hT1 h300 q 1000 t.Root hP f.qlen (Nat.le_refl _)
        have hd : spec_l11down.f t t.Root (Entry.mk a1 a2) = some (DNR (DN (Entry.mk a1 a2) q t.Nodes) t.Root) := hd
        have hl0 := df.l0
        have hl1 := df.l1
        have hql := f.qlen
        have hn1 := f.n1
        rw [if_neg (by decide), spec_l11copy t (by omega) hs, Option.bind_some, hd, Option.bind_some, f.wyp]
        simp only [if_true, Bool.false_eq_true, if_false, Option.getD_some]
        have key : ∀ y : List Node × Int, Tree.mk y.1 y.2 = ROOT (DN (Entry.mk a1 a2) q t.Nodes) t.Root → (if decide ((y.1.length : Int) > 300) = true then some ((Tree.mk [] 0, false) : Tree × Bool) else (spec_l11copy.f (Tree.mk y.1 y.2)).bind fun r550 => some (r550, true)) = some (CAP (ROOT (DN (Entry.mk a1 a2) q t.Nodes) t.Root)) := fun y hy => by
          rw [hy]
          have hyl : y.1 = (ROOT (DN (Entry.mk a1 a2) q t.Nodes) t.Root).Nodes := by rw [← hy]
          unfold CAP
          by_cases hc : 300 < (ROOT (DN (Entry.mk a1 a2) q t.Nodes) t.Root).Nodes.length
          · rw [if_pos (by rw [hyl]; simp; omega), if_pos hc]; rfl
          · rw [if_neg (by rw [hyl]; simp; omega), if_neg hc, spec_l11copy _ (by omega) (smb_sm hrs), Option.bind_some]
        cases hr : (DN (Entry.mk a1 a2) q t.Nodes).2 with
        | none =>
          have hD : DNR (DN (Entry.mk a1 a2) q t.Nodes) t.Root = (ENT0, -1, Tree.mk (DN (Entry.mk a1 a2) q t.Nodes).1 t.Root) := by unfold DNR; rw [hr]
          rw [hD]
          simp only []
          rw [if_neg (by simp), Option.bind_some]
          exact key ((DN (Entry.mk a1 a2) q t.Nodes).1, t.Root) (by unfold ROOT; rw [hr])
        | some up =>
          have hD : DNR (DN (Entry.mk a1 a2) q t.Nodes) t.Root = (up, ((DN (Entry.mk a1 a2) q t.Nodes).1.length : Int) - 1, Tree.mk (DN (Entry.mk a1 a2) q t.Nodes).1 t.Root) := by unfold DNR; rw [hr]
          have hut := df.up up hr
          rw [hD]
          simp only []
          rw [if_pos (by simp; omega), spec_l11entries [up] (by simp) (fun x hx => by obtain rfl := List.mem_singleton.1 hx; omega), Option.bind_some, Option.bind_some, if_pos (by simp only [List.length_cons, List.length_nil, Lim]; omega), Option.bind_some]
          refine key ((DN (Entry.mk a1 a2) q t.Nodes).1 ++ [Node.mk false [up] [t.Root, ((DN (Entry.mk a1 a2) q t.Nodes).1.length : Int) - 1]], _) ?_
          unfold ROOT
          rw [hr]
          simp only [List.length_append]
          rw [w64 (by simp only [List.length_cons, List.length_nil]; omega) (by simp only [List.length_cons, List.length_nil]; omega)]
          simp
theorem impl_TreeAdd (t : Tree) (a1 : Item) (a2 : Int) (h : okT t) (hs : smN t.Nodes) (hoe : ok_Item a1) (hT1 : a1.T.length ≤ 1048576) (hT : ∀ d ∈ t.Nodes, ∀ x ∈ d.Entries, x.Key.T.length ≤ 1048576) :
    impl_TreeAdd.f t a1 a2 = some (TAD t (Entry.mk a1 a2)) := by
  unfold impl_TreeAdd.f TAD
  rw [impl_TreeOk t h, Option.bind_some]
  cases hk : TKW t with
  | none => rfl
  | some all =>
    obtain ⟨q, p, L, f⟩ := tk_facts (e := Entry.mk a1 a2) h hoe hk
    simp only [Option.isSome_some]
    rw [if_neg (by decide), impl_isEntry (Entry.mk a1 a2) hoe, Option.bind_some]
    cases hE : EOK (Entry.mk a1 a2) with
    | false => rfl
    | true =>
      rw [Option.bind_some, if_neg (by decide), impl_has h hoe f, Option.bind_some, tk_there f]
      cases hA : THR (nd t.Nodes L.toNat).Entries (Entry.mk a1 a2) with
      | true => rfl
      | false =>
        have h300 := f.n300
        have hsm := tk_smb f hT
        rw [if_neg (by simp), impl_TreeOwn t (by omega) hs, Option.bind_some, impl_add t (Entry.mk a1 a2) q f.way (tk_pth hk f) f.qlen hsm hT1 h300, Option.bind_some, f.wyp]
        simp only [if_true, Bool.false_eq_true, if_false, Option.getD_some]
        unfold CAP
        by_cases hc : 300 < (ROOT (DN (Entry.mk a1 a2) q t.Nodes) t.Root).Nodes.length
        · rw [if_pos (by simp; omega), if_pos hc]; rfl
        · rw [if_neg (by simp; omega), if_neg hc]
end Go.Proofs.YtlpbggnpiogioaaGreat
set_option linter.unusedVariables false
set_option linter.unusedSimpArgs false
set_option linter.unusedSectionVars false
namespace Go.Proofs.YtlpbggnpiogioaaGreat
open Go V Ieee
theorem szByteS (a : List Int) (n : Int) (hl : a.length ≤ maxLen) (h0 : 0 ≤ n) (h1 : n ≤ 1048576) : Sz (laws_szByteS.f a n) n a.length := by
 simp only [maxLen] at hl
 unfold laws_szByteS.f
 rw [w64 (by omega) (by omega)]
 by_cases hneg : n - (a.length : Int) < 0
 · rw [if_pos (by simpa using hneg)]; exact ⟨-1, rfl, by omega, fun h => by omega⟩
 · rw [if_neg (by simpa using hneg)]; exact ⟨_, rfl, by omega, fun h => rfl⟩
theorem toByteS (a : List Int) (h : a.length ≤ 1048576) : laws_toByteS.f a = some a := by
 unfold laws_toByteS.f
 rw [if_pos ⟨by omega, by simp only [Lim]; omega⟩]
 refine toS_gen a 0 (fun l k hk hl => ?_) (fun l => ?_)
 · unfold laws_toByteS.b0
   simp only []
   rw [if_pos (by simp; omega), if_pos ⟨by omega, by omega⟩, if_pos ⟨by omega, by omega⟩, at_nat _ k hk, w64 (by omega) (by omega)]; rfl
 · unfold laws_toByteS.b0
   simp only []
   rw [if_neg (by simp)]; rfl
theorem eqByteS (a : List Int) (h : a.length ≤ 1048576) : laws_eqByteS.f a a = some true := by
 unfold laws_eqByteS.f
 have := eqS_gen (body := laws_eqByteS.b0 a a) a a (fun k hk _ => by
  unfold laws_eqByteS.b0
  rw [if_pos (by simp; omega), if_pos ⟨by omega, by omega⟩, if_pos ⟨by omega, by omega⟩, at_nat _ k hk, w64 (by omega) (by omega)]
  simp) (by
  unfold laws_eqByteS.b0
  rw [if_neg (by simp)]; rfl)
 rw [this]; simp
theorem wsum_one (a : List Int) : wsum (fun _ => 1) a = a.length := by
 induction a with
 | nil => rfl
 | cons x l ih => rw [wsum_cons, ih, List.length_cons]; omega
theorem markS_genP {α : Type} {mb : List α × Int × Int → Option ((List α × Int × Int) ⊕ (Int × List α))} {hb : List α → Int × Int → Option ((Int × Int) ⊕ Int)} {wt : α → Nat} (HE : α → Int → Nat → Prop) (P : α → Prop) (a : List α) (hP : ∀ y ∈ a, P y) (x : Int) (h0 : 0 ≤ x) (h1 : x + (wsum wt a : Int) ≤ 100000000000)
    (hm : ∀ (l : List α) (x : Int) (k : Nat) (hk : k < l.length), l.length = a.length → P l[k] → 0 ≤ x → x + (wt l[k] : Int) ≤ 100000000000 → ∃ e', mb (l, x, (k : Int)) = some (.inl (l.set k e', x + (wt l[k] : Int), (k : Int) + 1)) ∧ HE e' x (wt l[k]))
    (hmn : ∀ l x, l.length = a.length → mb (l, x, (l.length : Int)) = some (.inr (x, l)))
    (hh : ∀ (l : List α) (x : Int) (k n : Nat) (hk : k < l.length), l.length = a.length → HE l[k] x n → 0 ≤ x → x + (n : Int) ≤ 100000000000 → hb l (x, (k : Int)) = some (.inl (x + (n : Int), (k : Int) + 1)))
    (hhn : ∀ l x, l.length = a.length → hb l (x, (l.length : Int)) = some (.inr x)) :
    ∃ a', iter mb (a, x, (0 : Int)) = some (x + (wsum wt a : Int), a') ∧ a'.length = a.length ∧ iter (hb a') (x, (0 : Int)) = some (x + (wsum wt a : Int)) := by
  have key : ∀ (m i : Nat) (x : Int) (l : List α), i + m = l.length → l.length = a.length → (∀ y ∈ l.drop i, P y) → 0 ≤ x → x + (wsum wt (l.drop i) : Int) ≤ 100000000000 →
      ∃ l', iter mb (l, x, (i : Int)) = some (x + (wsum wt (l.drop i) : Int), l') ∧ l'.length = l.length ∧ (∀ j, j < i → l'[j]? = l[j]?) ∧ iter (hb l') (x, (i : Int)) = some (x + (wsum wt (l.drop i) : Int)) := by
    intro m
    induction m with
    | zero =>
      intro i x l hi hla hPl hx0 hx1
      have : i = l.length := by omega
      subst this
      rw [List.drop_length]
      refine ⟨l, ?_, rfl, fun _ _ => rfl, ?_⟩
      · rw [iter_r (hmn l x hla)]; simp [wsum]
      · rw [iter_r (hhn l x hla)]; simp [wsum]
    | succ m ih =>
      intro i x l hi hla hPl hx0 hx1
      have hk : i < l.length := by omega
      have hd : l.drop i = l[i] :: l.drop (i + 1) := List.drop_eq_getElem_cons hk
      rw [hd] at hPl
      rw [hd, wsum_cons] at hx1 ⊢
      obtain ⟨e', hmb, hE⟩ := hm l x i hk hla (hPl _ List.mem_cons_self) hx0 (by omega)
      have e : (i : Int) + 1 = ((i + 1 : Nat) : Int) := by omega
      have hds : (l.set i e').drop (i + 1) = l.drop (i + 1) := List.drop_set_of_lt (by omega)
      obtain ⟨l', h1', h2', h3', h4'⟩ := ih (i + 1) (x + (wt l[i] : Int)) (l.set i e') (by rw [List.length_set]; omega) (by rw [List.length_set]; exact hla) (by rw [hds]; exact fun y hy => hPl y (List.mem_cons_of_mem _ hy)) (by omega) (by rw [hds]; omega)
      rw [hds] at h1' h4'
      rw [List.length_set] at h2'
      have hi' : i < l'.length := by omega
      have hli : l'[i] = e' := by
        have := h3' i (by omega)
        rw [List.getElem?_eq_getElem hi', List.getElem?_set_self hk] at this
        exact Option.some.inj this
      have hsum : x + (wt l[i] : Int) + (wsum wt (l.drop (i + 1)) : Int) = x + ((wt l[i] + wsum wt (l.drop (i + 1)) : Nat) : Int) := by omega
      refine ⟨l', ?_, h2', fun j hj => ?_, ?_⟩
      · rw [iter_l hmb, e, h1', hsum]
      · rw [h3' j (by omega), List.getElem?_set_ne (by omega)]
      · rw [iter_l (hh l' x i (wt l[i]) hi' (by omega) (by rw [hli]; exact hE) hx0 (by omega)), e, h4', hsum]
  obtain ⟨l', h1', h2', _, h4'⟩ := key a.length 0 x a (by omega) rfl (by rw [List.drop_zero]; exact hP) h0 (by rw [List.drop_zero]; exact h1)
  rw [List.drop_zero] at h1' h4'
  exact ⟨l', h1', h2', h4'⟩
end Go.Proofs.YtlpbggnpiogioaaGreat
set_option linter.unusedVariables false
set_option linter.unusedSimpArgs false
set_option linter.unusedSectionVars false
namespace Go.Proofs.YtlpbggnpiogioaaGreat
open Go V Ieee
theorem szItem (a : Item) (n : Int) (ha : ok_Item a) (h0 : 0 ≤ n) (h1 : n ≤ 1048576) : Sz (laws_szItem.f a n) n a.T.length := by
 unfold laws_szItem.f
 obtain ⟨r, er, hr, hr2⟩ := szByteS a.T n ha.2.2.2.1 h0 h1
 rw [er, Option.bind_some]
 by_cases hn : r < 0
 · rw [if_pos (by simpa using hn)]; exact ⟨-1, rfl, by omega, fun h => by omega⟩
 · rw [if_neg (by simpa using hn)]; exact ⟨r, rfl, hr, hr2⟩
theorem toItem (a : Item) (h : a.T.length ≤ 1048576) : laws_toItem.f a = some a := by
 unfold laws_toItem.f
 rw [toByteS _ h]; rfl
theorem sameFloat (x : Nat) : laws_sameFloat.f x x = some true := by
 unfold laws_sameFloat.f
 have hbe : ∀ b : Bool, (b == b) = true := fun b => by cases b <;> rfl
 cases hb : fcmp .f64 x x != some .eq with
 | true => rfl
 | false =>
  have he : (fcmp .f64 x x == some .eq) = true := by
   have : (fcmp .f64 x x != some .eq) = !(fcmp .f64 x x == some .eq) := rfl
   rw [this] at hb
   cases hq : (fcmp .f64 x x == some .eq) with
   | true => rfl
   | false => rw [hq] at hb; cases hb
  rw [if_neg (by decide), he, hbe]
  split <;> rfl
theorem eqItem (a : Item) (h : a.T.length ≤ 1048576) : laws_eqItem.f a a = some true := by
 unfold laws_eqItem.f
 rw [if_neg (by simp), if_neg (by simp), sameFloat, Option.bind_some, if_neg (by decide), eqByteS _ h]; rfl
end Go.Proofs.YtlpbggnpiogioaaGreat
set_option linter.unusedVariables false
set_option linter.unusedSimpArgs false
set_option linter.unusedSectionVars false
namespace Go.Proofs.YtlpbggnpiogioaaGreat
open Go V Ieee
end Go.Proofs.YtlpbggnpiogioaaGreat
set_option linter.unusedVariables false
set_option linter.unusedSimpArgs false
set_option linter.unusedSectionVars false
namespace Go.Proofs.YtlpbggnpiogioaaGreat
open Go V Ieee
theorem markIntS (a : List Int) (x : Int) (h0 : 0 ≤ x) (h1 : x + (a.length : Int) ≤ 100000000000) : ∃ a', laws_markIntS.f a x = some (x + (a.length : Int), a') ∧ a'.length = a.length ∧ laws_heldIntS.f a' x = some (x + (a.length : Int)) := by
 have := markS_gen (mb := laws_markIntS.b0) (hb := laws_heldIntS.b0) (wt := fun _ => 1) (fun e y n => e = y ∧ n = 1) a x h0 (by rw [wsum_one]; exact h1)
  (fun l y k hk hla hy hy1 => by
   refine ⟨y, ?_, rfl, rfl⟩
   unfold laws_markIntS.b0
   simp only []
   rw [if_pos (by simp; omega), if_pos ⟨by omega, by omega⟩, w64 (by omega) (by omega), w64 (by omega) (by omega)]; rfl)
  (fun l y hla => by
   unfold laws_markIntS.b0
   simp only []
   rw [if_neg (by simp)]; rfl)
  (fun l y k n hk hla he hy hy1 => by
   obtain ⟨e1, rfl⟩ := he
   unfold laws_heldIntS.b0
   simp only []
   rw [if_pos (by simp; omega), if_pos ⟨by omega, by omega⟩, at_nat _ k hk, e1, if_neg (by simp), w64 (by omega) (by omega), w64 (by omega) (by omega)]; rfl)
  (fun l y hla => by
   unfold laws_heldIntS.b0
   simp only []
   rw [if_neg (by simp)]; rfl)
 rw [wsum_one] at this
 exact this
theorem eqIntS (a : List Int) (h : a.length ≤ 1000000000) : laws_eqIntS.f a a = some true := by
 unfold laws_eqIntS.f
 have := eqS_gen (body := laws_eqIntS.b0 a a) a a (fun k hk _ => by
  unfold laws_eqIntS.b0
  rw [if_pos (by simp; omega), if_pos ⟨by omega, by omega⟩, if_pos ⟨by omega, by omega⟩, at_nat _ k hk, w64 (by omega) (by omega)]
  simp) (by
  unfold laws_eqIntS.b0
  rw [if_neg (by simp)]; rfl)
 rw [this]; simp
end Go.Proofs.YtlpbggnpiogioaaGreat
set_option linter.unusedVariables false
set_option linter.unusedSimpArgs false
set_option linter.unusedSectionVars false
namespace Go.Proofs.YtlpbggnpiogioaaGreat
open Go V Ieee
theorem markByteS (a : List Int) (x : Int) (h0 : 0 ≤ x) (h1 : x + (a.length : Int) ≤ 100000000000) : ∃ a', laws_markByteS.f a x = some (x + (a.length : Int), a') ∧ a'.length = a.length ∧ laws_heldByteS.f a' x = some (x + (a.length : Int)) := by
 have := markS_gen (mb := laws_markByteS.b0) (hb := laws_heldByteS.b0) (wt := fun _ => 1) (fun e y n => e = IntKind.wrap .u8 y ∧ n = 1) a x h0 (by rw [wsum_one]; exact h1)
  (fun l y k hk hla hy hy1 => by
   refine ⟨IntKind.wrap .u8 y, ?_, rfl, rfl⟩
   unfold laws_markByteS.b0
   simp only []
   rw [if_pos (by simp; omega), if_pos ⟨by omega, by omega⟩, w64 (by omega) (by omega), w64 (by omega) (by omega)]; rfl)
  (fun l y hla => by
   unfold laws_markByteS.b0
   simp only []
   rw [if_neg (by simp)]; rfl)
  (fun l y k n hk hla he hy hy1 => by
   obtain ⟨e1, rfl⟩ := he
   unfold laws_heldByteS.b0
   simp only []
   rw [if_pos (by simp; omega), if_pos ⟨by omega, by omega⟩, at_nat _ k hk, e1, if_neg (by simp), w64 (by omega) (by omega), w64 (by omega) (by omega)]; rfl)
  (fun l y hla => by
   unfold laws_heldByteS.b0
   simp only []
   rw [if_neg (by simp)]; rfl)
 rw [wsum_one] at this
 exact this
end Go.Proofs.YtlpbggnpiogioaaGreat
set_option linter.unusedVariables false
set_option linter.unusedSimpArgs false
set_option linter.unusedSectionVars false
namespace Go.Proofs.YtlpbggnpiogioaaGreat
open Go V Ieee
theorem near_v (n : Nat) (h : n < 9007199254740992) : IsV (FloatKind.f64.nearest (n : Int)) false (n * pw 1074) := by
 have hr := rep_of h 1074 (by omega)
 have := write_rep false n 0 (n * pw 1074) hr (by
  rw [show ((0 : Int) + 1074).toNat = 1074 by omega, show (-((0 : Int) + 1074)).toNat = 0 by omega, Nat.pow_zero, Nat.mul_one, pw])
 have e : FloatKind.f64.nearest (n : Int) = D.write (.number false n 0) := by
  show D.write (.number (decide ((n : Int) < 0)) (n : Int).natAbs 0) = _
  rw [decide_eq_false (by omega), Int.natAbs_natCast]
 rwa [e]
theorem near_self (n : Int) (h0 : 0 ≤ n) (h1 : n < 9007199254740992) : (fcmp .f64 (FloatKind.f64.nearest n) (FloatKind.f64.nearest n) != some .eq) = false := by
 obtain ⟨m, rfl⟩ := Int.eq_ofNat_of_zero_le h0
 exact cmp_self (near_v m (by omega))
end Go.Proofs.YtlpbggnpiogioaaGreat
set_option linter.unusedVariables false
set_option linter.unusedSimpArgs false
set_option linter.unusedSectionVars false
namespace Go.Proofs.YtlpbggnpiogioaaGreat
open Go V Ieee
def zE (e : Entry) : Nat := e.Key.T.length
def zN (n : Node) : Nat := (n.Entries.length + wsum zE n.Entries) + n.Kids.length
theorem szEntry (e : Entry) (n : Int) (hs : ok_Entry e) (h0 : 0 ≤ n) (h1 : n ≤ 1048576) : Sz (laws_szEntry.f e n) n (zE e) := by
 unfold laws_szEntry.f
 obtain ⟨r, er, hr, hr2⟩ := szItem e.Key n hs.1 h0 h1
 rw [er, Option.bind_some]
 by_cases hn : r < 0
 · rw [if_pos (by simpa using hn)]; exact ⟨-1, rfl, by omega, fun h => by omega⟩
 · rw [if_neg (by simpa using hn)]; exact ⟨r, rfl, hr, hr2⟩
theorem szEntryS (a : List Entry) (n : Int) (hl : a.length ≤ maxLen) (he : ∀ b ∈ a, ok_Entry b) (h0 : 0 ≤ n) (h1 : n ≤ 1048576) : Sz (laws_szEntryS.f a n) n (a.length + wsum zE a) := by
 unfold laws_szEntryS.f
 have hl' := hl
 simp only [maxLen] at hl'
 refine szS_gen a n hl h0 h1 (fun k x hk x0 x1 => ?_) (fun x => ?_)
 · obtain ⟨r, er, hr, hr2⟩ := szEntry a[k] x (he _ (List.getElem_mem hk)) x0 x1
   refine ⟨r, hr, hr2, ?_⟩
   unfold laws_szEntryS.b0
   simp only []
   rw [if_pos (by simp; omega), if_pos ⟨by omega, by omega⟩, at_nat _ k hk]
   rw [er, Option.bind_some, w64 (by omega) (by omega)]
   by_cases hn : r < 0
   · rw [if_pos (by simpa using hn), if_pos hn]
   · rw [if_neg (by simpa using hn), if_neg hn]
 · unfold laws_szEntryS.b0
   simp only []
   rw [if_neg (by simp)]; rfl
theorem szIntS (a : List Int) (n : Int) (hl : a.length ≤ maxLen) (h0 : 0 ≤ n) (h1 : n ≤ 1048576) : Sz (laws_szIntS.f a n) n a.length := by
 unfold laws_szIntS.f
 simp only [maxLen] at hl
 rw [w64 (by omega) (by omega)]
 by_cases hn : n - (a.length : Int) < 0
 · rw [if_pos (by simpa using hn)]; exact ⟨-1, rfl, by omega, fun h => by omega⟩
 · rw [if_neg (by simpa using hn)]; exact ⟨_, rfl, by omega, fun h => rfl⟩
theorem szNode (d : Node) (n : Int) (hs : ok_Node d) (h0 : 0 ≤ n) (h1 : n ≤ 1048576) : Sz (laws_szNode.f d n) n (zN d) := by
 unfold laws_szNode.f zN
 obtain ⟨r, er, hr, hr2⟩ := szEntryS d.Entries n hs.2.1.1 hs.2.1.2 h0 h1
 rw [er, Option.bind_some]
 by_cases hn : r < 0
 · rw [if_pos (by simpa using hn)]; exact ⟨-1, rfl, by omega, fun h => by omega⟩
 · rw [if_neg (by simpa using hn)]
   obtain ⟨q, eq, hq, hq2⟩ := szIntS d.Kids r hs.2.2.1 (by omega) (by omega)
   rw [eq, Option.bind_some]
   by_cases hn2 : q < 0
   · rw [if_pos (by simpa using hn2)]; exact ⟨-1, rfl, by omega, fun h => by omega⟩
   · rw [if_neg (by simpa using hn2)]
     have := hr2 (by omega)
     exact ⟨q, rfl, by omega, fun h => by have := hq2 h; omega⟩
theorem szNodeS (a : List Node) (n : Int) (hl : a.length ≤ maxLen) (he : ∀ b ∈ a, ok_Node b) (h0 : 0 ≤ n) (h1 : n ≤ 1048576) : Sz (laws_szNodeS.f a n) n (a.length + wsum zN a) := by
 unfold laws_szNodeS.f
 have hl' := hl
 simp only [maxLen] at hl'
 refine szS_gen a n hl h0 h1 (fun k x hk x0 x1 => ?_) (fun x => ?_)
 · obtain ⟨r, er, hr, hr2⟩ := szNode a[k] x (he _ (List.getElem_mem hk)) x0 x1
   refine ⟨r, hr, hr2, ?_⟩
   unfold laws_szNodeS.b0
   simp only []
   rw [if_pos (by simp; omega), if_pos ⟨by omega, by omega⟩, at_nat _ k hk]
   rw [er, Option.bind_some, w64 (by omega) (by omega)]
   by_cases hn : r < 0
   · rw [if_pos (by simpa using hn), if_pos hn]
   · rw [if_neg (by simpa using hn), if_neg hn]
 · unfold laws_szNodeS.b0
   simp only []
   rw [if_neg (by simp)]; rfl
theorem szTree (t : Tree) (n : Int) (hs : ok_Tree t) (h0 : 0 ≤ n) (h1 : n ≤ 1048576) : Sz (laws_szTree.f t n) n (t.Nodes.length + wsum zN t.Nodes) := by
 unfold laws_szTree.f
 obtain ⟨r, er, hr, hr2⟩ := szNodeS t.Nodes n hs.1.1 hs.1.2 h0 h1
 rw [er, Option.bind_some]
 by_cases hn : r < 0
 · rw [if_pos (by simpa using hn)]; exact ⟨-1, rfl, by omega, fun h => by omega⟩
 · rw [if_neg (by simpa using hn)]; exact ⟨r, rfl, hr, hr2⟩
def lgE (e : Entry) : Prop := e.Key.T.length ≤ 1048576
def lgN (n : Node) : Prop := n.Entries.length ≤ 1048576 ∧ (∀ e ∈ n.Entries, lgE e) ∧ n.Kids.length ≤ 1048576
theorem toEntry (e : Entry) (h : lgE e) : laws_toEntry.f e = some e := by
 unfold laws_toEntry.f
 rw [toItem _ h]; rfl
theorem eqEntry (e : Entry) (h : lgE e) : laws_eqEntry.f e e = some true := by
 unfold laws_eqEntry.f
 rw [eqItem _ h, Option.bind_some, if_neg (by decide), if_neg (by simp)]
theorem toEntryS (a : List Entry) (h : a.length ≤ 1048576) (he : ∀ b ∈ a, lgE b) : laws_toEntryS.f a = some a := by
 unfold laws_toEntryS.f
 rw [if_pos ⟨by omega, by simp only [Lim]; omega⟩]
 refine toS_gen a _ (fun l k hk hl => ?_) (fun l => ?_)
 · unfold laws_toEntryS.b0
   simp only []
   rw [if_pos (by simp; omega), if_pos ⟨by omega, by omega⟩, at_nat _ k hk]
   rw [toEntry _ (he _ (List.getElem_mem hk)), Option.bind_some, if_pos ⟨by omega, by omega⟩, w64 (by omega) (by omega)]; rfl
 · unfold laws_toEntryS.b0
   simp only []
   rw [if_neg (by simp)]; rfl
theorem eqEntryS (a : List Entry) (h : a.length ≤ 1048576) (he : ∀ b ∈ a, lgE b) : laws_eqEntryS.f a a = some true := by
 unfold laws_eqEntryS.f
 have := eqS_gen (body := laws_eqEntryS.b0 a a) a a (fun k hk _ => by
  unfold laws_eqEntryS.b0
  rw [if_pos (by simp; omega), if_pos ⟨by omega, by omega⟩, if_pos ⟨by omega, by omega⟩, at_nat _ k hk]
  rw [eqEntry _ (he _ (List.getElem_mem hk)), w64 (by omega) (by omega)]
  simp) (by
  unfold laws_eqEntryS.b0
  rw [if_neg (by simp)]; rfl)
 rw [this]; simp
theorem toIntSt (a : List Int) (h : a.length ≤ 1048576) : laws_toIntS.f a = some a := by
 unfold laws_toIntS.f
 rw [if_pos ⟨by omega, by simp only [Lim]; omega⟩]
 refine toS_gen a _ (fun l k hk hl => ?_) (fun l => ?_)
 · unfold laws_toIntS.b0
   simp only []
   rw [if_pos (by simp; omega), if_pos ⟨by omega, by omega⟩, at_nat _ k hk, if_pos ⟨by omega, by omega⟩, w64 (by omega) (by omega)]; rfl
 · unfold laws_toIntS.b0
   simp only []
   rw [if_neg (by simp)]; rfl
theorem toNode (d : Node) (h : lgN d) : laws_toNode.f d = some d := by
 unfold laws_toNode.f
 rw [toEntryS _ h.1 h.2.1, Option.bind_some, toIntSt _ h.2.2]; rfl
theorem eqNode (d : Node) (h : lgN d) : laws_eqNode.f d d = some true := by
 unfold laws_eqNode.f
 have h3 := h.2.2
 rw [if_neg (by simp), eqEntryS _ h.1 h.2.1, Option.bind_some, if_neg (by decide), eqIntS _ (by omega), Option.bind_some, if_neg (by decide)]
theorem toNodeS (a : List Node) (h : a.length ≤ 1048576) (he : ∀ b ∈ a, lgN b) : laws_toNodeS.f a = some a := by
 unfold laws_toNodeS.f
 rw [if_pos ⟨by omega, by simp only [Lim]; omega⟩]
 refine toS_gen a _ (fun l k hk hl => ?_) (fun l => ?_)
 · unfold laws_toNodeS.b0
   simp only []
   rw [if_pos (by simp; omega), if_pos ⟨by omega, by omega⟩, at_nat _ k hk]
   rw [toNode _ (he _ (List.getElem_mem hk)), Option.bind_some, if_pos ⟨by omega, by omega⟩, w64 (by omega) (by omega)]; rfl
 · unfold laws_toNodeS.b0
   simp only []
   rw [if_neg (by simp)]; rfl
theorem eqNodeS (a : List Node) (h : a.length ≤ 1048576) (he : ∀ b ∈ a, lgN b) : laws_eqNodeS.f a a = some true := by
 unfold laws_eqNodeS.f
 have := eqS_gen (body := laws_eqNodeS.b0 a a) a a (fun k hk _ => by
  unfold laws_eqNodeS.b0
  rw [if_pos (by simp; omega), if_pos ⟨by omega, by omega⟩, if_pos ⟨by omega, by omega⟩, at_nat _ k hk]
  rw [eqNode _ (he _ (List.getElem_mem hk)), w64 (by omega) (by omega)]
  simp) (by
  unfold laws_eqNodeS.b0
  rw [if_neg (by simp)]; rfl)
 rw [this]; simp
theorem toTree (t : Tree) (h : t.Nodes.length ≤ 1048576) (he : ∀ n ∈ t.Nodes, lgN n) : laws_toTree.f t = some t := by
 unfold laws_toTree.f
 rw [toNodeS _ h he]; rfl
theorem eqTree (t : Tree) (h : t.Nodes.length ≤ 1048576) (he : ∀ n ∈ t.Nodes, lgN n) : laws_eqTree.f t t = some true := by
 unfold laws_eqTree.f
 rw [eqNodeS _ h he, Option.bind_some, if_neg (by decide), if_neg (by simp)]
def wE (e : Entry) : Nat := 4 + e.Key.T.length
def wN (n : Node) : Nat := 1 + wsum wE n.Entries + n.Kids.length
def HEn (e : Entry) (y : Int) (n : Nat) : Prop := e.Key.Kind = y ∧ e.Key.N = y + 1 ∧ e.Key.F = FloatKind.f64.nearest (y + 1 + 1) ∧ ∃ k : Nat, n = 4 + k ∧ laws_heldByteS.f e.Key.T (y + 1 + 1 + 1) = some (y + 1 + 1 + 1 + (k : Int)) ∧ e.Id = y + 1 + 1 + 1 + (k : Int)
theorem markEntryH (a : List Entry) (x : Int) (hl : a.length ≤ 1048576) (h0 : 0 ≤ x) (h1 : x + (wsum wE a : Int) ≤ 100000000000) : ∃ a', laws_markEntryS.f a x = some (x + (wsum wE a : Int), a') ∧ a'.length = a.length ∧ laws_heldEntryS.f a' x = some (x + (wsum wE a : Int)) :=
 markS_genP (mb := laws_markEntryS.b0) (hb := laws_heldEntryS.b0) (wt := wE) HEn (fun _ => True) a (fun _ _ => trivial) x h0 h1
  (fun l y k hk hla _ hy hy1 => by
   unfold wE at hy1 ⊢
   obtain ⟨e', em, _, eh⟩ := markByteS (l[k]).Key.T (y + 1 + 1 + 1) (by omega) (by omega)
   refine ⟨Entry.mk (Item.mk y (y + 1) (FloatKind.f64.nearest (y + 1 + 1)) e') (y + 1 + 1 + 1 + ((l[k]).Key.T.length : Int)), ?_, rfl, rfl, rfl, (l[k]).Key.T.length, rfl, eh, rfl⟩
   unfold laws_markEntryS.b0
   simp only []
   rw [if_pos (by simp; omega), if_pos ⟨by omega, by omega⟩, Option.bind_some, if_pos ⟨by omega, by simp; omega⟩, Option.bind_some, if_pos ⟨by omega, by simp; omega⟩, Option.bind_some, if_pos ⟨by omega, by simp; omega⟩]
   simp only [Int.toNat_natCast, at_nat l k hk, List.set_set, at_set _ _ _ hk, List.length_set]
   simp only [show IntKind.wrap .i64 (y + 1) = y + 1 from w64 (by omega) (by omega), show IntKind.wrap .i64 (y + 1 + 1) = y + 1 + 1 from w64 (by omega) (by omega), show IntKind.wrap .i64 (y + 1 + 1 + 1) = y + 1 + 1 + 1 from w64 (by omega) (by omega)]
   rw [em, Option.bind_some, Option.bind_some]
   simp only [at_set _ _ _ hk, List.set_set, List.length_set]
   rw [if_pos ⟨by omega, by omega⟩, w64 (by omega) (by omega), w64 (by omega) (by omega)]
   congr 3
   congr 1
   omega)
  (fun l y hla => by
   unfold laws_markEntryS.b0
   simp only []
   rw [if_neg (by simp)]; rfl)
  (fun l y k n hk hla he hy hy1 => by
   obtain ⟨e1, e2, e3, q, rfl, e4, e5⟩ := he
   unfold laws_heldEntryS.b0
   have hr : 0 ≤ (k : Int) ∧ (k : Int) < (l.length : Int) := by omega
   simp only [if_pos hr, at_nat _ k hk]
   rw [if_pos (by simp; omega), e1, if_neg (by simp), e2, show IntKind.wrap .i64 (y + 1) = y + 1 from w64 (by omega) (by omega), if_neg (by simp), e3, show IntKind.wrap .i64 (y + 1 + 1) = y + 1 + 1 from w64 (by omega) (by omega), if_neg (by rw [near_self _ (by omega) (by omega)]; decide), show IntKind.wrap .i64 (y + 1 + 1 + 1) = y + 1 + 1 + 1 from w64 (by omega) (by omega), e4, Option.bind_some, if_neg (by simp; omega), e5, if_neg (by simp), w64 (by omega) (by omega), w64 (by omega) (by omega)]
   congr 3
   omega)
  (fun l y hla => by
   unfold laws_heldEntryS.b0
   simp only []
   rw [if_neg (by simp)]; rfl)
def HNd (e : Node) (y : Int) (n : Nat) : Prop := e.Leaf = (y.tmod 3 == 0) ∧ ∃ p q : Nat, n = 1 + p + q ∧ laws_heldEntryS.f e.Entries (y + 1) = some (y + 1 + (p : Int)) ∧ laws_heldIntS.f e.Kids (y + 1 + (p : Int)) = some (y + 1 + (p : Int) + (q : Int))
theorem markNodeH (a : List Node) (x : Int) (hl : a.length ≤ 1048576) (hN : ∀ n ∈ a, lgN n) (h0 : 0 ≤ x) (h1 : x + (wsum wN a : Int) ≤ 100000000000) : ∃ a', laws_markNodeS.f a x = some (x + (wsum wN a : Int), a') ∧ a'.length = a.length ∧ laws_heldNodeS.f a' x = some (x + (wsum wN a : Int)) :=
 markS_genP (mb := laws_markNodeS.b0) (hb := laws_heldNodeS.b0) (wt := wN) HNd lgN a hN x h0 h1
  (fun l y k hk hla hlg hy hy1 => by
   unfold wN at hy1 ⊢
   obtain ⟨e1, em1, _, eh1⟩ := markEntryH (l[k]).Entries (y + 1) hlg.1 (by omega) (by omega)
   obtain ⟨e2, em2, _, eh2⟩ := markIntS (l[k]).Kids (y + 1 + (wsum wE (l[k]).Entries : Int)) (by omega) (by omega)
   refine ⟨Node.mk (y.tmod 3 == 0) e1 e2, ?_, rfl, wsum wE (l[k]).Entries, (l[k]).Kids.length, rfl, eh1, eh2⟩
   unfold laws_markNodeS.b0
   simp only []
   rw [if_pos (by simp; omega), if_pos ⟨by omega, by omega⟩, Option.bind_some, if_pos ⟨by omega, by simp; omega⟩]
   simp only [Int.toNat_natCast, at_nat l k hk, List.set_set, at_set _ _ _ hk, List.length_set]
   rw [show IntKind.wrap .i64 (y + 1) = y + 1 from w64 (by omega) (by omega), em1, Option.bind_some]
   simp only [at_set _ _ _ hk, List.set_set, List.length_set]
   rw [if_pos ⟨by omega, by omega⟩, em2, Option.bind_some, Option.bind_some, w64 (by omega) (by omega)]
   congr 3
   congr 1
   omega)
  (fun l y hla => by
   unfold laws_markNodeS.b0
   simp only []
   rw [if_neg (by simp)]; rfl)
  (fun l y k n hk hla he hy hy1 => by
   obtain ⟨e1, p, q, rfl, e2, e3⟩ := he
   unfold laws_heldNodeS.b0
   have hr : 0 ≤ (k : Int) ∧ (k : Int) < (l.length : Int) := by omega
   simp only [if_pos hr, at_nat _ k hk]
   rw [if_pos (by simp; omega), e1, if_neg (by simp), show IntKind.wrap .i64 (y + 1) = y + 1 from w64 (by omega) (by omega), e2, Option.bind_some, if_neg (by simp; omega), e3, Option.bind_some, if_neg (by simp; omega), w64 (by omega) (by omega)]
   congr 3
   omega)
  (fun l y hla => by
   unfold laws_heldNodeS.b0
   simp only []
   rw [if_neg (by simp)]; rfl)
theorem markTreeH (t : Tree) (x : Int) (hl : t.Nodes.length ≤ 1048576) (hN : ∀ n ∈ t.Nodes, lgN n) (h0 : 0 ≤ x) (h1 : x + (wsum wN t.Nodes : Int) ≤ 100000000000) : ∃ a', laws_markTree.f t x = some (x + (wsum wN t.Nodes : Int), a') ∧ ∀ r, laws_heldTree.f (Tree.mk a' r) x = some (x + (wsum wN t.Nodes : Int)) := by
 obtain ⟨a', em, _, eh⟩ := markNodeH t.Nodes x hl hN h0 h1
 refine ⟨a', by unfold laws_markTree.f; rw [em]; rfl, fun r => ?_⟩
 unfold laws_heldTree.f
 rw [eh, Option.bind_some, if_neg (by simp; omega)]
theorem markItem1t (a : Item) (x : Int) (h0 : 0 ≤ x) (h1 : x + (a.T.length : Int) ≤ 100000000000) : ∃ t, laws_markItem.f a x = some (x + (a.T.length : Int), t) := by
 unfold laws_markItem.f
 obtain ⟨e', em, _, _⟩ := markByteS a.T x h0 h1
 rw [em]; exact ⟨_, rfl⟩
theorem wE_le (l : List Entry) : wsum wE l ≤ 5 * (l.length + wsum zE l) := wsum_le wE zE 5 l fun x _ => by unfold wE zE; omega
theorem wN_le (l : List Node) : wsum wN l ≤ 6 * (l.length + wsum zN l) := wsum_le wN zN 6 l fun x _ => by have := wE_le x.Entries; unfold wN zN; omega
theorem lgN_of (l : List Node) (h : wsum zN l ≤ 1048576) : ∀ b ∈ l, lgN b := fun b hb => by
 have h1 : zN b ≤ 1048576 := Nat.le_trans (wsum_mem zN l b hb) h
 unfold zN at h1
 exact ⟨by omega, fun e he => by have h2 : zE e ≤ wsum zE b.Entries := wsum_mem zE _ e he; unfold zE at h1 h2; unfold lgE; omega, by omega⟩
end Go.Proofs.YtlpbggnpiogioaaGreat
