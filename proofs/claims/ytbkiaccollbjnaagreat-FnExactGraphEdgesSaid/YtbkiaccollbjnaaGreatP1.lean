import Derived.Test.YtbkiaccollbjnaaGreatG2
import Derived.Test.YtbkiaccollbjnaaGreatGs
set_option linter.unusedVariables false
set_option linter.unusedSimpArgs false
namespace Go.Proofs.YtbkiaccollbjnaaGreat
open Go V
theorem w64 {n : Int} (h0 : -9223372036854775808 ≤ n) (h1 : n ≤ 9223372036854775807) : IntKind.i64.wrap n = n := by
 rw [IntKind.wrap_i64]; omega
theorem u8_of {n : Int} (h : InK .u8 n) : 0 ≤ n ∧ n ≤ 255 := by
 simpa [InK, IntKind.min, IntKind.max, IntKind.signed, IntKind.bits] using h
theorem fdiv_nat (a b : Nat) : Int.fdiv (a : Int) (b : Int) = ((a / b : Nat) : Int) := by
 rw [Int.fdiv_eq_ediv_of_nonneg _ (by omega)]; rfl
theorem ishr_nat (k : IntKind) (a b : Nat) (h : b ≤ k.bits) : ishr k (a : Int) (b : Int) = ((a / 2 ^ b : Nat) : Int) := by
 unfold ishr
 rw [Int.toNat_natCast, Nat.min_eq_left h]
 have : (2 : Int) ^ b = ((2 ^ b : Nat) : Int) := by simp
 rw [this, fdiv_nat]
theorem ofInt_nat (w a : Nat) (h : a < 2 ^ w) : (BitVec.ofInt w (a : Int)).toNat = a := by
 rw [BitVec.ofInt_natCast, BitVec.toNat_ofNat, Nat.mod_eq_of_lt h]
theorem wu64 (a : Nat) (h : a < 18446744073709551616) : IntKind.wrap .u64 ((a : Nat) : Int) = (a : Int) := by rw [IntKind.wrap_u64]; omega
theorem ior_u64 (a b : Nat) (ha : a < 18446744073709551616) (hb : b < 18446744073709551616) : ior .u64 (a : Int) (b : Int) = ((a ||| b : Nat) : Int) := by
 unfold ior
 rw [BitVec.toNat_or, ofInt_nat _ a ha, ofInt_nat _ b hb]
 exact wu64 _ (Nat.or_lt_two_pow (n := 64) ha hb)
theorem ixor_u64 (a b : Nat) (ha : a < 18446744073709551616) (hb : b < 18446744073709551616) : ixor .u64 (a : Int) (b : Int) = ((a ^^^ b : Nat) : Int) := by
 unfold ixor
 rw [BitVec.toNat_xor, ofInt_nat _ a ha, ofInt_nat _ b hb]
 exact wu64 _ (Nat.xor_lt_two_pow (n := 64) ha hb)
theorem or_add (k n b : Nat) (h : b < 2 ^ k) : (n * 2 ^ k) ||| b = n * 2 ^ k + b := by
 have := Nat.two_pow_add_eq_or_of_lt (i := k) (b := b) h n
 rw [Nat.mul_comm n]
 exact this.symm
def rin (a b c : Int) : Bool := decide (b ≤ a) && decide (a ≤ c)
theorem iter_for {S O : Type} {body : S → Option (S ⊕ O)} (n : Nat) (st : Nat → S) (o : O) (h : ∀ k, k < n → body (st k) = some (.inl (st (k + 1)))) (hn : body (st n) = some (.inr o)) : iter body (st 0) = some o := by
 have key : ∀ m, m ≤ n → iter body (st (n - m)) = some o := by
  intro m
  induction m with
  | zero => intro _; rw [iter_eq, Nat.sub_zero, hn]; rfl
  | succ m ih =>
   intro hm
   rw [iter_eq, h (n - (m + 1)) (by omega)]
   simp only [Option.bind_some]
   rw [show n - (m + 1) + 1 = n - m by omega]
   exact ih (by omega)
 have := key n (Nat.le_refl _)
 rwa [Nat.sub_self] at this
theorem iter_l {S O : Type} {body : S → Option (S ⊕ O)} {s s' : S} (h : body s = some (.inl s')) : iter body s = iter body s' := by rw [iter_eq, h]; rfl
theorem iter_r {S O : Type} {body : S → Option (S ⊕ O)} {s : S} {o : O} (h : body s = some (.inr o)) : iter body s = some o := by rw [iter_eq, h]; rfl
theorem iter_all {body : Int → Option (Int ⊕ Bool)} (n : Nat) (t : Nat → Bool) (h : ∀ k, k < n → body k = if t k = true then some (.inl ((k : Int) + 1)) else some (.inr false)) (hn : body n = some (.inr true)) : iter body 0 = some ((List.range n).all t) := by
 have key : ∀ m, m ≤ n → iter body ((n - m : Nat) : Int) = some ((List.range' (n - m) m).all t) := by
  intro m
  induction m with
  | zero => intro _; rw [iter_eq, Nat.sub_zero, hn]; rfl
  | succ m ih =>
   intro hm
   rw [iter_eq, h (n - (m + 1)) (by omega), List.range'_succ, List.all_cons]
   cases ht : t (n - (m + 1)) with
   | false => simp
   | true =>
    simp only [if_true, Option.bind_some, Bool.true_and]
    have e := ih (by omega)
    rw [show n - (m + 1) + 1 = n - m by omega, ← e]
    congr 1
    omega
 have := key n (Nat.le_refl _)
 rw [Nat.sub_self] at this
 rw [List.range_eq_range']
 exact this
theorem at_nat {α : Type} [Inhabited α] (xs : List α) (k : Nat) (h : k < xs.length) : at_ xs (k : Int) = xs[k] := by
 rw [at_eq xs k (by simpa using h)]; simp
theorem at_set {α : Type} [Inhabited α] (l : List α) (i : Nat) (v : α) (h : i < l.length) : at_ (l.set i v) (i : Int) = v := by
 rw [at_nat _ _ (by rw [List.length_set]; exact h)]; simp
theorem all_eq {α : Type} [DecidableEq α] (a b : List α) (h : a.length = b.length) : ((List.range a.length).all fun k => decide (a[k]? = b[k]?)) = decide (a = b) := by
  by_cases e : a = b
  · subst e; simp
  · have : ¬ ∀ k, k < a.length → a[k]? = b[k]? := fun hk => e (List.ext_getElem? fun k => by
      by_cases hl : k < a.length
      · exact hk k hl
      · rw [List.getElem?_eq_none (by omega), List.getElem?_eq_none (by omega)])
    simp only [e, decide_false]
    cases hb : (List.range a.length).all fun k => decide (a[k]? = b[k]?) with
    | false => rfl
    | true =>
      exact absurd (fun k hk => by
        have := List.all_eq_true.1 hb k (List.mem_range.2 hk)
        simpa using this) this
theorem eqS_gen {α : Type} [DecidableEq α] [Inhabited α] {body : Int → Option (Int ⊕ Bool)} (a b : List α) (hb : ∀ k : Nat, (h1 : k < a.length) → (h2 : k < b.length) → body (k : Int) = if decide (a[k] = b[k]) = true then some (.inl ((k : Int) + 1)) else some (.inr false))
    (hn : body (a.length : Int) = some (.inr true)) : (if ((a.length : Int) != (b.length : Int)) = true then some false else iter body 0) = some (decide (a = b)) := by
  by_cases hl : a.length = b.length
  · have hne : ((a.length : Int) != (b.length : Int)) = false := by simp [hl]
    rw [hne, if_neg (by decide), ← all_eq a b hl]
    refine iter_all a.length _ (fun k hk => ?_) hn
    rw [hb k hk (by omega), List.getElem?_eq_getElem hk, List.getElem?_eq_getElem (by omega)]
    simp
  · have hne : ((a.length : Int) != (b.length : Int)) = true := by simp; omega
    rw [hne, if_pos rfl]
    have : a ≠ b := fun e => hl (by rw [e])
    simp [this]
theorem toS_gen {α : Type} {body : List α × Int → Option ((List α × Int) ⊕ List α)} (a : List α) (z : α) (hb : ∀ (l : List α) (k : Nat) (h1 : k < a.length), l.length = a.length → body (l, (k : Int)) = some (.inl (l.set k a[k], (k : Int) + 1)))
    (hn : ∀ l : List α, body (l, (a.length : Int)) = some (.inr l)) : iter body (List.replicate ((a.length : Int)).toNat z, (0 : Int)) = some a := by
  have hst : (List.replicate ((a.length : Int)).toNat z, (0 : Int)) = (a.take 0 ++ List.replicate (a.length - 0) z, ((0 : Nat) : Int)) := by simp
  rw [hst]
  have e : (some a : Option (List α)) = some (a.take a.length ++ List.replicate (a.length - a.length) z) := by simp
  rw [e]
  refine iter_for a.length (fun k => (a.take k ++ List.replicate (a.length - k) z, (k : Int))) _ (fun k hk => ?_) (hn _)
  rw [hb _ k hk (by rw [List.length_append, List.length_take, List.length_replicate]; omega)]
  have hset : (a.take k ++ List.replicate (a.length - k) z).set k a[k] = a.take (k + 1) ++ List.replicate (a.length - (k + 1)) z := by
    rw [List.set_append, if_neg (by simp; omega)]
    have : (a.take k).length = k := by simp; omega
    rw [this, Nat.sub_self, show a.length - k = (a.length - (k + 1)) + 1 by omega, List.replicate_succ, List.set_cons_zero, List.take_succ_eq_append_getElem hk, List.append_assoc]
    rfl
  rw [hset]
  simp
def wsum {α : Type} (wt : α → Nat) (l : List α) : Nat := (l.map wt).sum
theorem wsum_cons {α : Type} (wt : α → Nat) (x : α) (l : List α) : wsum wt (x :: l) = wt x + wsum wt l := rfl
theorem wsum_mem {α : Type} (wt : α → Nat) (l : List α) : ∀ x ∈ l, wt x ≤ wsum wt l := by
 intro x hx
 induction l with
 | nil => cases hx
 | cons y l ih =>
  rw [wsum_cons]
  rcases List.mem_cons.1 hx with rfl | hx
  · omega
  · have := ih hx; omega
theorem wsum_le {α : Type} (w z : α → Nat) (c : Nat) (l : List α) (h : ∀ x ∈ l, w x ≤ c * (z x + 1)) : wsum w l ≤ c * (l.length + wsum z l) := by
 induction l with
 | nil => simp [wsum]
 | cons y l ih =>
  rw [wsum_cons, wsum_cons, List.length_cons]
  have h1 := h y (by simp)
  have h2 := ih fun x hx => h x (by simp [hx])
  have e : c * (l.length + 1 + (z y + wsum z l)) = c * (z y + 1) + c * (l.length + wsum z l) := by rw [← Nat.mul_add]; congr 1; omega
  omega
def Sz (f : Option Int) (n : Int) (z : Nat) : Prop := ∃ r, f = some r ∧ r ≤ n ∧ (0 ≤ r → r = n - (z : Int))
theorem szS_gen {α : Type} {body : Int × Int → Option ((Int × Int) ⊕ Int)} {z : α → Nat} (a : List α) (n : Int) (hl : a.length ≤ maxLen) (h0 : 0 ≤ n) (h1 : n ≤ 1048576)
    (hb : ∀ (k : Nat) (x : Int) (hk : k < a.length), 0 ≤ x → x ≤ 1048576 → ∃ r, r ≤ x ∧ (0 ≤ r → r = x - (z a[k] : Int)) ∧ body (x, (k : Int)) = if r < 0 then some (.inr (-1)) else some (.inl (r, (k : Int) + 1)))
    (hn : ∀ x, body (x, (a.length : Int)) = some (.inr x)) :
    Sz (if (decide ((IntKind.wrap .i64 (n - (a.length : Int))) < (0 : Int))) = true then (some (-1 : Int)) else iter body ((IntKind.wrap .i64 (n - (a.length : Int))), (0 : Int))) n (a.length + wsum z a) := by
  simp only [maxLen] at hl
  rw [w64 (by omega) (by omega)]
  by_cases hneg : n - (a.length : Int) < 0
  · rw [if_pos (by simpa using hneg)]
    exact ⟨-1, rfl, by omega, fun h => by omega⟩
  · rw [if_neg (by simpa using hneg)]
    have key : ∀ (m i : Nat) (x : Int), i + m = a.length → 0 ≤ x → x ≤ 1048576 → ∃ r, iter body (x, (i : Int)) = some r ∧ r ≤ x ∧ (0 ≤ r → r = x - (wsum z (a.drop i) : Int)) := by
      intro m
      induction m with
      | zero =>
        intro i x hi hx0 hx1
        have : i = a.length := by omega
        subst this
        refine ⟨x, iter_r (hn x), by omega, fun _ => ?_⟩
        rw [List.drop_length]; simp [wsum]
      | succ m ih =>
        intro i x hi hx0 hx1
        have hk : i < a.length := by omega
        obtain ⟨r, hr, hr2, hbb⟩ := hb i x hk hx0 hx1
        by_cases hrn : r < 0
        · rw [if_pos hrn] at hbb
          exact ⟨-1, iter_r hbb, by omega, fun h => by omega⟩
        · rw [if_neg hrn] at hbb
          rw [iter_l hbb]
          have e : (i : Int) + 1 = ((i + 1 : Nat) : Int) := by omega
          rw [e]
          obtain ⟨q, eq, hq, hq2⟩ := ih (i + 1) r (by omega) (by omega) (by omega)
          refine ⟨q, eq, by omega, fun h => ?_⟩
          have := hq2 h
          have := hr2 (by omega)
          rw [List.drop_eq_getElem_cons hk, wsum_cons]
          omega
    obtain ⟨r, er, hr, hr2⟩ := key a.length 0 (n - (a.length : Int)) (by omega) (by omega) (by omega)
    refine ⟨r, er, by omega, fun h => ?_⟩
    have := hr2 h
    rw [List.drop_zero] at this
    omega
theorem markS_gen {α : Type} {mb : List α × Int × Int → Option ((List α × Int × Int) ⊕ (Int × List α))} {hb : List α → Int × Int → Option ((Int × Int) ⊕ Int)} {wt : α → Nat} (HE : α → Int → Nat → Prop) (a : List α) (x : Int) (h0 : 0 ≤ x) (h1 : x + (wsum wt a : Int) ≤ 100000000000)
    (hm : ∀ (l : List α) (x : Int) (k : Nat) (hk : k < l.length), l.length = a.length → 0 ≤ x → x + (wt l[k] : Int) ≤ 100000000000 → ∃ e', mb (l, x, (k : Int)) = some (.inl (l.set k e', x + (wt l[k] : Int), (k : Int) + 1)) ∧ HE e' x (wt l[k]))
    (hmn : ∀ l x, l.length = a.length → mb (l, x, (l.length : Int)) = some (.inr (x, l)))
    (hh : ∀ (l : List α) (x : Int) (k n : Nat) (hk : k < l.length), l.length = a.length → HE l[k] x n → 0 ≤ x → x + (n : Int) ≤ 100000000000 → hb l (x, (k : Int)) = some (.inl (x + (n : Int), (k : Int) + 1)))
    (hhn : ∀ l x, l.length = a.length → hb l (x, (l.length : Int)) = some (.inr x)) :
    ∃ a', iter mb (a, x, (0 : Int)) = some (x + (wsum wt a : Int), a') ∧ a'.length = a.length ∧ iter (hb a') (x, (0 : Int)) = some (x + (wsum wt a : Int)) := by
  have key : ∀ (m i : Nat) (x : Int) (l : List α), i + m = l.length → l.length = a.length → 0 ≤ x → x + (wsum wt (l.drop i) : Int) ≤ 100000000000 →
      ∃ l', iter mb (l, x, (i : Int)) = some (x + (wsum wt (l.drop i) : Int), l') ∧ l'.length = l.length ∧ (∀ j, j < i → l'[j]? = l[j]?) ∧ iter (hb l') (x, (i : Int)) = some (x + (wsum wt (l.drop i) : Int)) := by
    intro m
    induction m with
    | zero =>
      intro i x l hi hla hx0 hx1
      have : i = l.length := by omega
      subst this
      rw [List.drop_length]
      refine ⟨l, ?_, rfl, fun _ _ => rfl, ?_⟩
      · rw [iter_r (hmn l x hla)]; simp [wsum]
      · rw [iter_r (hhn l x hla)]; simp [wsum]
    | succ m ih =>
      intro i x l hi hla hx0 hx1
      have hk : i < l.length := by omega
      have hd : l.drop i = l[i] :: l.drop (i + 1) := List.drop_eq_getElem_cons hk
      rw [hd, wsum_cons] at hx1 ⊢
      obtain ⟨e', hmb, hE⟩ := hm l x i hk hla hx0 (by omega)
      have e : (i : Int) + 1 = ((i + 1 : Nat) : Int) := by omega
      have hds : (l.set i e').drop (i + 1) = l.drop (i + 1) := List.drop_set_of_lt (by omega)
      obtain ⟨l', h1', h2', h3', h4'⟩ := ih (i + 1) (x + (wt l[i] : Int)) (l.set i e') (by rw [List.length_set]; omega) (by rw [List.length_set]; exact hla) (by omega) (by rw [hds]; omega)
      rw [hds] at h1' h4'
      rw [List.length_set] at h2'
      have hi' : i < l'.length := by omega
      have hli : l'[i] = e' := by
        have := h3' i (by omega)
        rw [List.getElem?_eq_getElem hi', List.getElem?_set_self hk] at this
        exact Option.some.inj this
      have hsum : x + (wt l[i] : Int) + (wsum wt (l.drop (i + 1)) : Int) = x + ((wt l[i] + wsum wt (l.drop (i + 1)) : Nat) : Int) := by omega
      refine ⟨l', ?_, h2', fun j hj => ?_, ?_⟩
      · rw [iter_l hmb, e, h1', hsum]
      · rw [h3' j (by omega), List.getElem?_set_ne (by omega)]
      · rw [iter_l (hh l' x i (wt l[i]) hi' (by omega) (by rw [hli]; exact hE) hx0 (by omega)), e, h4', hsum]
  obtain ⟨l', h1', h2', _, h4'⟩ := key a.length 0 x a (by omega) rfl h0 (by rw [List.drop_zero]; exact h1)
  rw [List.drop_zero] at h1' h4'
  exact ⟨l', h1', h2', h4'⟩
end Go.Proofs.YtbkiaccollbjnaaGreat
set_option linter.unusedVariables false
set_option linter.unusedSimpArgs false
set_option linter.unusedSectionVars false
namespace Go.Proofs.YtbkiaccollbjnaaGreat
open Go V Ieee
theorem iter_pass {S O : Type} {body : S → Option (S ⊕ O)} {s : S} {m : Option O} (h : body s = m.bind fun o => some (Sum.inr o)) : iter body s = m := by
 rw [iter_eq, h]
 cases m <;> rfl
def wd (M e : Nat) : Nat := D.word false (e * 4503599627370496 + M)
theorem wd_eq (M e : Nat) : wd M e = e * 4503599627370496 + M := rfl
theorem wd_v {M e : Nat} (h1 : M < 9007199254740992) (h2 : e = 0 ∨ 4503599627370496 ≤ M) (h3 : e ≤ 2045) : IsV (wd M e) false (M * pw e) := ⟨M, e, h1, h2, h3, rfl, rfl⟩
theorem rep_of {M : Nat} (h1 : M < 9007199254740992) : ∀ e, e ≤ 2045 → Rep (M * pw e) := by
 intro e
 induction e generalizing M with
 | zero => intro _; exact ⟨M, 0, h1, .inl rfl, by omega, rfl⟩
 | succ e ih =>
  intro he
  by_cases hm : 4503599627370496 ≤ M
  · exact ⟨M, e + 1, h1, .inr hm, he, rfl⟩
  · have := ih (M := 2 * M) (by omega) (by omega)
    rwa [show 2 * M * pw e = M * pw (e + 1) by rw [pw_succ, Nat.mul_comm 2 M, Nat.mul_assoc, Nat.mul_comm 2]] at this
theorem v0 : IsV 0 false 0 := ⟨0, 0, by decide, .inl rfl, by omega, by simp, rfl⟩
theorem v1 : IsV 4607182418800017408 false (4503599627370496 * pw 1022) := ⟨4503599627370496, 1022, by decide, .inr (Nat.le_refl _), by omega, rfl, rfl⟩
theorem v2 : IsV 4611686018427387904 false (4503599627370496 * pw 1023) := ⟨4503599627370496, 1023, by decide, .inr (Nat.le_refl _), by omega, rfl, rfl⟩
theorem vM : IsV 9218868437227405311 false (9007199254740991 * pw 2045) := ⟨9007199254740991, 2045, by decide, .inr (by decide), by omega, rfl, rfl⟩
section
variable {a b u v : Nat} (ha : IsV a false u) (hb : IsV b false v)
include ha hb
theorem cmp_v : fcmp .f64 a b = some (compare u v) := by
 have h := order_v ha hb
 rw [signed_f, signed_f, Nat.pow_zero, Nat.mul_one, Nat.mul_one] at h
 show D.order a b = _
 rw [h]
 show some (compareOfLessAndEq (u : Int) (v : Int)) = some (compareOfLessAndEq u v)
 unfold compareOfLessAndEq
 by_cases h1 : u < v
 · rw [if_pos h1, if_pos (by omega)]
 · rw [if_neg h1, if_neg (by omega)]
   by_cases h2 : u = v
   · rw [if_pos h2, if_pos (by omega)]
   · rw [if_neg h2, if_neg (by omega)]
theorem cmp_lt : (fcmp .f64 a b == some .lt) = decide (u < v) := by
 rw [cmp_v ha hb]
 by_cases h : u < v
 · simp [Nat.compare_eq_lt.2 h, h]
 · have : compare u v ≠ .lt := fun hc => h (Nat.compare_eq_lt.1 hc)
   simp [this, h]
theorem cmp_gt : (fcmp .f64 a b == some .gt) = decide (v < u) := by
 rw [cmp_v ha hb]
 by_cases h : v < u
 · simp [Nat.compare_eq_gt.2 h, h]
 · have : compare u v ≠ .gt := fun hc => h (Nat.compare_eq_gt.1 hc)
   simp [this, h]
theorem cmp_eq : (fcmp .f64 a b == some .eq) = decide (u = v) := by
 rw [cmp_v ha hb]
 by_cases h : u = v
 · simp [Nat.compare_eq_eq.2 h, h]
 · have : compare u v ≠ .eq := fun hc => h (Nat.compare_eq_eq.1 hc)
   simp [this, h]
end
theorem far_half {a u : Nat} (h : IsV a false (u * 2)) (hu : Rep u) : IsV (far .quo a 4611686018427387904) false u := by
 obtain ⟨w', hw, hv⟩ := div_pow (j := 1) c_two (by simpa [pw] using h) hu
 have : far .quo a 4611686018427387904 = w' := by show (D.div a _).getD _ = _; rw [hw]; rfl
 rwa [this]
theorem far_dbl {a u : Nat} (h : IsV a false u) (hu : Rep (u * 2)) : IsV (far .mul a 4611686018427387904) false (u * 2) := by
 obtain ⟨w', hw, hv⟩ := mul_pow_ (j := 1) c_two h (by simpa using hu)
 have : far .mul a 4611686018427387904 = w' := by show (D.mul a _).getD _ = _; rw [hw]; rfl
 rw [this]; simpa using hv
theorem far_big {a u : Nat} (h : IsV a false u) (hu : Rep (u * pw 52)) : IsV (far .mul a 4841369599423283200) false (u * pw 52) := by
 obtain ⟨w', hw, hv⟩ := mul_pow_ (j := 52) c_big h hu
 have : far .mul a 4841369599423283200 = w' := by show (D.mul a _).getD _ = _; rw [hw]; rfl
 rwa [this]
theorem far_sub1 {a v : Nat} (h : IsV a false (U1 + v)) (hv : Rep v) : IsV (far .sub a 4607182418800017408) false v := by
 obtain ⟨w', hw, hv⟩ := sub_one h hv
 have : far .sub a 4607182418800017408 = w' := by show (D.sub a _).getD _ = _; rw [hw]; rfl
 rwa [this]
theorem f2i_v {a n : Nat} (h : IsV a false (n * pw 1074)) (hn : n < 18446744073709551616) : floatToIntVal .f64 a .u64 = some (n : Int) := by
 unfold floatToIntVal
 have := toInt_p h
 show (match (D.read a).toInt .zero with | some n => _ | none => _) = _
 rw [this]
 simp only []
 rw [if_pos]
 simp [IntKind.min, IntKind.max, IntKind.signed, IntKind.bits]; omega
section
variable (S E : Nat) (A : Nat)
theorem bits_num (s E K : Nat) (hs : s ≤ 1) (hE : E < 2048) (hK : K < 4503599627370496) : ior .u64 (ior .u64 ((s * 9223372036854775808 : Nat) : Int) (ishl .u64 (IntKind.wrap .u64 (IntKind.wrap .i64 (E : Int))) 52)) (K : Int) = ((s * 9223372036854775808 + E * 4503599627370496 + K : Nat) : Int) := by
 rw [w64 (by omega) (by omega), wu64 E (by omega)]
 have h1 : ishl .u64 (E : Int) 52 = ((E * 4503599627370496 : Nat) : Int) := by
  unfold ishl
  show IntKind.wrap .u64 ((E : Int) * 2 ^ 52) = _
  have : (E : Int) * 2 ^ 52 = ((E * 4503599627370496 : Nat) : Int) := by rw [show (2 : Int) ^ 52 = 4503599627370496 by decide]; omega
  rw [this, wu64 _ (by omega)]
 rw [h1, ior_u64 _ _ (by omega) (by omega)]
 have h2 : s * 9223372036854775808 ||| E * 4503599627370496 = s * 9223372036854775808 + E * 4503599627370496 := by
  have := or_add 63 s (E * 4503599627370496) (by show _ < 9223372036854775808; omega)
  exact this
 rw [h2, ior_u64 _ _ (by omega) (by omega)]
 have h3 := or_add 52 (s * 2048 + E) K (by show _ < 4503599627370496; omega)
 have e : (s * 2048 + E) * 2 ^ 52 = s * 9223372036854775808 + E * 4503599627370496 := by
  rw [show (2 : Nat) ^ 52 = 4503599627370496 by decide]; omega
 rw [e] at h3
 rw [h3]
theorem bits_sub (s K : Nat) (hs : s ≤ 1) (hK : K < 4503599627370496) : ior .u64 ((s * 9223372036854775808 : Nat) : Int) (K : Int) = ((s * 9223372036854775808 + K : Nat) : Int) := by
 rw [ior_u64 _ _ (by omega) (by omega)]
 have h3 := or_add 63 s K (by show _ < 9223372036854775808; omega)
 rw [show (s * 2 ^ 63 : Nat) = s * 9223372036854775808 from rfl] at h3
 rw [h3]
end
theorem p_lt {M e : Nat} (k k' : Nat) (h : M < 9007199254740992) (he : e ≤ k) (hk : k' = k + 1) : M * pw e < 4503599627370496 * pw k' := by
 have h1 : M * pw e < 9007199254740992 * pw e := Nat.mul_lt_mul_of_pos_right h (pw_pos e)
 have h2 : 9007199254740992 * pw e ≤ 9007199254740992 * pw k := Nat.mul_le_mul_left _ (pw_le he)
 have h3 : 4503599627370496 * (pw k * 2) = 9007199254740992 * pw k := by
  generalize pw k = q
  omega
 rw [hk, pw_succ, h3]
 exact Nat.lt_of_lt_of_le h1 h2
theorem p_ge {M e k : Nat} (h : 4503599627370496 ≤ M) (he : k ≤ e) : 4503599627370496 * pw k ≤ M * pw e :=
 Nat.mul_le_mul h (pw_le he)
theorem fb_one (s M : Nat) (A : Nat) (c : Int) (E : Nat) (hs : s ≤ 1) (h1 : M < 9007199254740992) (h2 : 4503599627370496 ≤ M) (hE : E < 2048) (hc : c + 1023 = (E : Int)) : iter (spec_FloatBits.b1 (((s * 9223372036854775808 : Nat) : Int), A)) (wd M 1022, c) = some ((s * 9223372036854775808 + E * 4503599627370496 + (M - 4503599627370496) : Nat) : Int) := by
 have hv := wd_v h1 (.inr h2) (show 1022 ≤ 2045 by omega)
 have hlt := cmp_lt hv v1
 have hnl : ¬ M * pw 1022 < 4503599627370496 * pw 1022 := Nat.not_lt.2 (p_ge h2 (Nat.le_refl _))
 rw [decide_eq_false hnl] at hlt
 have hsum : M * pw 1022 = U1 + (M - 4503599627370496) * pw 1022 := by
  rw [U1_eq, ← Nat.add_mul, show 4503599627370496 + (M - 4503599627370496) = M by omega]
 have hK : M - 4503599627370496 < 9007199254740992 := by omega
 rw [hsum] at hv
 have hs1 := far_sub1 hv (rep_of hK 1022 (by omega))
 have hb := far_big hs1 (by rw [Nat.mul_assoc, ← pw_add]; exact rep_of hK _ (by omega))
 rw [Nat.mul_assoc, ← pw_add] at hb
 have hi := f2i_v hb (by omega)
 refine iter_r ?_
 unfold spec_FloatBits.b1
 simp only [hlt, hi, Bool.false_and, Bool.false_eq_true, if_false, Option.bind_some]
 rw [hc, bits_num s E _ hs hE (by omega)]
theorem fb_up (s M : Nat) (A : Nat) (hs : s ≤ 1) (h1 : M < 9007199254740992) (h2 : 4503599627370496 ≤ M) : ∀ (j i : Nat), i + j ≤ 1022 → iter (spec_FloatBits.b1 (((s * 9223372036854775808 : Nat) : Int), A)) (wd M (1022 - j), -(i : Int)) = some ((s * 9223372036854775808 + (1023 - i - j) * 4503599627370496 + (M - 4503599627370496) : Nat) : Int) := by
 intro j
 induction j with
 | zero => intro i hi; exact fb_one s M A _ _ hs h1 h2 (by omega) (by omega)
 | succ j ih =>
  intro i hi
  have hv := wd_v h1 (.inr h2) (show 1022 - (j + 1) ≤ 2045 by omega)
  have hlt := cmp_lt hv v1
  have hl : M * pw (1022 - (j + 1)) < 4503599627370496 * pw 1022 := p_lt 1021 1022 h1 (by omega) rfl
  rw [decide_eq_true hl] at hlt
  have he : M * pw (1022 - (j + 1)) * 2 = M * pw (1022 - j) := by
   rw [Nat.mul_assoc, ← pw_succ, show 1022 - (j + 1) + 1 = 1022 - j by omega]
  have hd := far_dbl hv (by rw [he]; exact rep_of h1 _ (by omega))
  rw [he] at hd
  have hw := hd.eq (wd_v h1 (.inr h2) (show 1022 - j ≤ 2045 by omega))
  have hstep : spec_FloatBits.b1 (((s * 9223372036854775808 : Nat) : Int), A) (wd M (1022 - (j + 1)), -(i : Int)) = some (.inl (wd M (1022 - j), -((i + 1 : Nat) : Int))) := by
   unfold spec_FloatBits.b1
   simp only [hlt, Bool.true_and]
   rw [if_pos (by simp; omega), hw, w64 (by omega) (by omega), show -(i : Int) - 1 = -((i + 1 : Nat) : Int) by omega]
  rw [iter_l hstep, ih (i + 1) (by omega), show 1023 - (i + 1) - j = 1023 - i - (j + 1) by omega]
theorem fb_sub (s M : Nat) (A : Nat) (hs : s ≤ 1) (h1 : M < 4503599627370496) : ∀ (j i a : Nat), i + j = 1022 → IsV a false (M * pw i) → iter (spec_FloatBits.b1 (((s * 9223372036854775808 : Nat) : Int), A)) (a, -(i : Int)) = some ((s * 9223372036854775808 + M : Nat) : Int) := by
 intro j
 induction j with
 | zero =>
  intro i a hi hv
  have hlt := cmp_lt hv v1
  have hl : M * pw i < 4503599627370496 * pw 1022 := by
   rw [show i = 1022 by omega]
   exact Nat.mul_lt_mul_of_pos_right h1 (pw_pos _)
  rw [decide_eq_true hl] at hlt
  have hb := far_big hv (by rw [Nat.mul_assoc, ← pw_add]; exact rep_of (by omega) _ (by omega))
  rw [Nat.mul_assoc, ← pw_add, show i + 52 = 1074 by omega] at hb
  have hi2 := f2i_v hb (by omega)
  refine iter_r ?_
  unfold spec_FloatBits.b1
  have hc : decide (-(i : Int) > -1022) = false := by simp; omega
  simp only [hlt, hc, hi2, Bool.true_and, Bool.false_eq_true, if_false, if_true, Option.bind_some]
  rw [bits_sub s M hs h1]
 | succ j ih =>
  intro i a hi hv
  have hlt := cmp_lt hv v1
  have hl : M * pw i < 4503599627370496 * pw 1022 := p_lt 1021 1022 (by omega) (by omega) rfl
  rw [decide_eq_true hl] at hlt
  have he : M * pw i * 2 = M * pw (i + 1) := by rw [Nat.mul_assoc, ← pw_succ]
  have hd := far_dbl hv (by rw [he]; exact rep_of (by omega) _ (by omega))
  rw [he] at hd
  have hstep : spec_FloatBits.b1 (((s * 9223372036854775808 : Nat) : Int), A) (a, -(i : Int)) = some (.inl (far .mul a 4611686018427387904, -((i + 1 : Nat) : Int))) := by
   unfold spec_FloatBits.b1
   simp only [hlt, Bool.true_and]
   rw [if_pos (by simp; omega), w64 (by omega) (by omega), show -(i : Int) - 1 = -((i + 1 : Nat) : Int) by omega]
  rw [iter_l hstep, ih (i + 1) _ (by omega) hd]
theorem fb_pass {y : Int × Nat} {a u : Nat} {c : Int} (hv : IsV a false u) (hu : u < 4503599627370496 * pw 1023) : iter (spec_FloatBits.b0 y) (a, c) = iter (spec_FloatBits.b1 y) (a, c) := by
 refine iter_pass ?_
 unfold spec_FloatBits.b0
 have h1 := cmp_gt hv v2
 have h2 := cmp_eq hv v2
 rw [decide_eq_false (by omega)] at h1
 rw [decide_eq_false (by omega)] at h2
 simp only [h1, h2, Bool.or_self, Bool.false_eq_true, if_false]
theorem fb_down (y : Int × Nat) (M : Nat) (h1 : M < 9007199254740992) (h2 : 4503599627370496 ≤ M) : ∀ (n e : Nat) (c : Int), e = 1022 + n → e ≤ 2045 → 0 ≤ c → c ≤ 10000 - n → iter (spec_FloatBits.b0 y) (wd M e, c) = iter (spec_FloatBits.b1 y) (wd M 1022, c + n) := by
 intro n
 induction n with
 | zero =>
  intro e c he _ _ _
  have : e = 1022 := by omega
  subst this
  rw [fb_pass (wd_v h1 (.inr h2) (by omega)) (p_lt 1022 1023 h1 (by omega) rfl)]
  simp
 | succ n ih =>
  intro e c he he2 hc0 hc1
  obtain ⟨e, rfl⟩ : ∃ e', e = e' + 1 := ⟨e - 1, by omega⟩
  have hv := wd_v h1 (.inr h2) he2
  have g1 := cmp_gt hv v2
  have g2 := cmp_eq hv v2
  have hge : 4503599627370496 * pw 1023 ≤ M * pw (e + 1) := p_ge h2 (by omega)
  have hor : (fcmp .f64 (wd M (e + 1)) 4611686018427387904 == some .gt || fcmp .f64 (wd M (e + 1)) 4611686018427387904 == some .eq) = true := by
   rw [g1, g2, Bool.or_eq_true, decide_eq_true_eq, decide_eq_true_eq]
   generalize 4503599627370496 * pw 1023 = q at hge ⊢
   omega
  have hv2 : IsV (wd M (e + 1)) false (M * pw e * 2) := by rw [Nat.mul_assoc, ← pw_succ]; exact hv
  have hw := (far_half hv2 (rep_of h1 _ (by omega))).eq (wd_v h1 (.inr h2) (by omega))
  have hstep : spec_FloatBits.b0 y (wd M (e + 1), c) = some (.inl (wd M e, c + 1)) := by
   unfold spec_FloatBits.b0
   simp only [hor, if_true]
   rw [hw, w64 (by omega) (by omega)]
  rw [iter_l hstep, ih e (c + 1) (by omega) (by omega) (by omega) (by omega), show c + 1 + (n : Int) = c + ((n + 1 : Nat) : Int) by omega]
theorem xor_sign (r : Nat) (h : r < 9223372036854775808) : Op.negFloat .f64 (9223372036854775808 + r) = r := by
 show (9223372036854775808 + r) ^^^ 2 ^ 63 = r
 have e : 9223372036854775808 + r = 2 ^ 63 ||| r := by
  have := Nat.two_pow_add_eq_or_of_lt (i := 63) (b := r) h 1
  simpa using this
 have e2 : 2 ^ 63 ||| r = 2 ^ 63 ^^^ r := by
  apply Nat.eq_of_testBit_eq
  intro i
  rw [Nat.testBit_or, Nat.testBit_xor]
  by_cases hi : i = 63
  · subst hi
    have : r.testBit 63 = false := Nat.testBit_lt_two_pow h
    rw [this]; simp
  · have : (2 ^ 63).testBit i = false := by rw [Nat.testBit_two_pow]; simp; omega
    rw [this]; simp
 rw [e, e2, Nat.xor_comm (2 ^ 63) r, Nat.xor_assoc, Nat.xor_self, Nat.xor_zero]
theorem fin_word {x : Nat} (hx : x < 18446744073709551616) (h : x % 9223372036854775808 < 9218868437227405312) : ∃ s M e, s ≤ 1 ∧ M < 9007199254740992 ∧ (e = 0 ∨ 4503599627370496 ≤ M) ∧ e ≤ 2045 ∧ x = s * 9223372036854775808 + wd M e := by
 refine ⟨x / 9223372036854775808, ?_⟩
 by_cases hr : x % 9223372036854775808 < 4503599627370496
 · exact ⟨x % 9223372036854775808, 0, by omega, by omega, .inl rfl, by omega, by rw [wd_eq]; omega⟩
 · refine ⟨4503599627370496 + x % 9223372036854775808 % 4503599627370496, x % 9223372036854775808 / 4503599627370496 - 1, by omega, by omega, .inr (by omega), by omega, ?_⟩
   rw [wd_eq]; omega
theorem fb_loops (s M e : Nat) (A : Nat) (hs : s ≤ 1) (h1 : M < 9007199254740992) (h2 : e = 0 ∨ 4503599627370496 ≤ M) (h3 : e ≤ 2045) : iter (spec_FloatBits.b0 (((s * 9223372036854775808 : Nat) : Int), A)) (wd M e, (0 : Int)) = some ((s * 9223372036854775808 + wd M e : Nat) : Int) := by
 by_cases hm : 4503599627370496 ≤ M
 · by_cases he : 1022 ≤ e
   · rw [fb_down _ M h1 hm (e - 1022) e 0 (by omega) h3 (by omega) (by omega)]
     rw [fb_one s M A _ (e + 1) hs h1 hm (by omega) (by omega), wd_eq, show s * 9223372036854775808 + (e + 1) * 4503599627370496 + (M - 4503599627370496) = s * 9223372036854775808 + (e * 4503599627370496 + M) by omega]
   · rw [fb_pass (wd_v h1 (.inr hm) h3) (p_lt 1022 1023 h1 (by omega) rfl)]
     have := fb_up s M A hs h1 hm (1022 - e) 0 (by omega)
     rw [show 1022 - (1022 - e) = e by omega] at this
     rw [show (0 : Int) = -((0 : Nat) : Int) by simp, this, wd_eq, show s * 9223372036854775808 + (1023 - 0 - (1022 - e)) * 4503599627370496 + (M - 4503599627370496) = s * 9223372036854775808 + (e * 4503599627370496 + M) by omega]
 · have he : e = 0 := by omega
   subst he
   have hv := wd_v h1 (.inl rfl) h3
   rw [fb_pass hv (p_lt 1022 1023 h1 (by omega) rfl)]
   have h0 : M * pw 0 = M * pw 0 := rfl
   have := fb_sub s M A hs (by omega) 1022 0 (wd M 0) (by omega) hv
   rw [show (0 : Int) = -((0 : Nat) : Int) by simp, this, wd_eq, show 0 * 4503599627370496 + M = M by omega]
theorem nan_word {x : Nat} (h : okF x) (hn : isN x = true) : x = nanB := by rw [← h.1, cn_nan hn]
theorem fb_nan : spec_FloatBits.f 9221120237041090560 = some 9221120237041090560 := by
 unfold spec_FloatBits.f
 rw [if_pos (by decide)]
theorem fb_inf : spec_FloatBits.f 9218868437227405312 = some 9218868437227405312 := by
 have h1 : (fcmp .f64 9218868437227405312 9218868437227405312 != some .eq) = false := by decide
 have h2 : (fcmp .f64 9218868437227405312 0 == some .lt) = false := by decide
 have h3 : (fcmp .f64 9218868437227405312 0 == some .eq) = false := by decide
 have h4 : (fcmp .f64 9218868437227405312 9218868437227405311 == some .gt) = true := by decide
 unfold spec_FloatBits.f
 simp only [h1, h2, h3, h4, Bool.false_eq_true, if_false, if_true, Option.bind_some]
 rfl
theorem fb_ninf : spec_FloatBits.f 18442240474082181120 = some 18442240474082181120 := by
 have h1 : (fcmp .f64 18442240474082181120 18442240474082181120 != some .eq) = false := by decide
 have h2 : (fcmp .f64 18442240474082181120 0 == some .lt) = true := by decide
 have h0 : fneg 18442240474082181120 = 9218868437227405312 := by decide
 have h3 : (fcmp .f64 9218868437227405312 0 == some .eq) = false := by decide
 have h4 : (fcmp .f64 9218868437227405312 9218868437227405311 == some .gt) = true := by decide
 unfold spec_FloatBits.f
 simp only [h1, h2, h0, h3, h4, Bool.false_eq_true, if_false, if_true, Option.bind_some]
 rfl
theorem fb_zero : spec_FloatBits.f 0 = some 0 := by
 have h1 : (fcmp .f64 0 0 != some .eq) = false := by decide
 have h2 : (fcmp .f64 0 0 == some .lt) = false := by decide
 have h3 : (fcmp .f64 0 0 == some .eq) = true := by decide
 have h4 : (fcmp .f64 (far .quo 4607182418800017408 0) 0 == some .lt) = false := by decide
 unfold spec_FloatBits.f
 simp only [h1, h2, h3, h4, Bool.false_eq_true, if_false, if_true, Option.bind_some]
theorem fb_nzero : spec_FloatBits.f 9223372036854775808 = some 9223372036854775808 := by
 have h1 : (fcmp .f64 9223372036854775808 9223372036854775808 != some .eq) = false := by decide
 have h2 : (fcmp .f64 9223372036854775808 0 == some .lt) = false := by decide
 have h3 : (fcmp .f64 9223372036854775808 0 == some .eq) = true := by decide
 have h4 : (fcmp .f64 (far .quo 4607182418800017408 9223372036854775808) 0 == some .lt) = true := by decide
 have h5 : (fcmp .f64 (fneg 9223372036854775808) 0 == some .eq) = true := by decide
 unfold spec_FloatBits.f
 simp only [h1, h2, h3, h4, h5, Bool.false_eq_true, if_false, if_true, Option.bind_some]
theorem ifF {α : Type} {b : Bool} {x y : α} (h : b = false) : (if b = true then x else y) = y := by subst h; rfl
theorem ifT {α : Type} {b : Bool} {x y : α} (h : b = true) : (if b = true then x else y) = x := by subst h; rfl
theorem cmp_self {w u : Nat} {s : Bool} (hw : IsV w s u) : (fcmp .f64 w w != some .eq) = false := by
 have : fcmp .f64 w w = some .eq := by
  show D.order w w = _
  rw [order_v hw hw]
  show (some (compareOfLessAndEq _ _)) = some _
  unfold compareOfLessAndEq
  rw [if_neg (Int.lt_irrefl _), if_pos rfl]
 rw [this]; rfl
theorem cmp_le {M e : Nat} (h1 : M < 9007199254740992) (h3 : e ≤ 2045) : ¬ 9007199254740991 * pw 2045 < M * pw e := by
 have : M * pw e ≤ 9007199254740991 * pw 2045 := Nat.mul_le_mul (by omega) (pw_le h3)
 exact Nat.not_lt.2 this
section
variable {M e : Nat} (h1 : M < 9007199254740992) (h2 : e = 0 ∨ 4503599627370496 ≤ M) (h3 : e ≤ 2045) (hM : 0 < M)
include h1 h2 h3
theorem wd_lt : wd M e < 9218868437227405312 := by rw [wd_eq]; omega
theorem wd_max : (fcmp .f64 (wd M e) 9218868437227405311 == some .gt) = false := by
 rw [cmp_gt (wd_v h1 h2 h3) vM, decide_eq_false (cmp_le h1 h3)]
theorem wd_neg : IsV (9223372036854775808 + wd M e) true (M * pw e) := ⟨M, e, h1, h2, h3, rfl, by rw [wd_eq]; rfl⟩
include hM
theorem wd_pos : 0 < M * pw e := Nat.mul_pos hM (pw_pos e)
theorem wd_ne0 : (fcmp .f64 (wd M e) 0 == some .eq) = false := by
 have := wd_pos h1 h2 h3 hM
 rw [cmp_eq (wd_v h1 h2 h3) v0, decide_eq_false (Nat.ne_of_gt this)]
theorem wd_nl : (fcmp .f64 (wd M e) 0 == some .lt) = false := by
 rw [cmp_lt (wd_v h1 h2 h3) v0, decide_eq_false (Nat.not_lt_zero _)]
theorem wd_gt : (fcmp .f64 (wd M e) 0 == some .gt) = true := by
 have := wd_pos h1 h2 h3 hM
 rw [cmp_gt (wd_v h1 h2 h3) v0, decide_eq_true this]
theorem neg_cmp : fcmp .f64 (9223372036854775808 + wd M e) 0 = some .lt := by
 have hp := wd_pos h1 h2 h3 hM
 have ho := order_v (wd_neg h1 h2 h3) v0
 rw [signed_t, signed_f, Nat.pow_zero, Nat.mul_one, Nat.zero_mul] at ho
 show D.order _ _ = _
 rw [ho]
 show (some (compareOfLessAndEq _ _)) = some _
 unfold compareOfLessAndEq
 generalize M * pw e = q at hp
 rw [if_pos (show (-((q : Nat) : Int)) < ((0 : Nat) : Int) by omega)]
theorem neg_neg' : fneg (9223372036854775808 + wd M e) = wd M e := by
 have hl := wd_lt h1 h2 h3
 unfold fneg
 have hn : isN (9223372036854775808 + wd M e) = false := by
  unfold isN
  generalize wd M e = q at hl
  simp; omega
 rw [hn, cond_false]
 exact xor_sign _ (by omega)
theorem fb_plus : spec_FloatBits.f (wd M e) = some ((wd M e : Nat) : Int) := by
 have hl := fb_loops 0 M e (wd M e) (by omega) h1 h2 h3
 have e0 : 0 * 9223372036854775808 + wd M e = wd M e := by rw [Nat.zero_mul, Nat.zero_add]
 have eS : ((0 * 9223372036854775808 : Nat) : Int) = 0 := by omega
 rw [e0, eS] at hl
 unfold spec_FloatBits.f
 rw [ifF (cmp_self (wd_v h1 h2 h3)), ifF (wd_nl h1 h2 h3 hM), ifF (wd_ne0 h1 h2 h3 hM), Option.bind_some, Option.bind_some, ifF rfl, Option.bind_some, ifF (wd_ne0 h1 h2 h3 hM), ifF (wd_max h1 h2 h3)]
 exact hl
theorem fb_minus : spec_FloatBits.f (9223372036854775808 + wd M e) = some ((9223372036854775808 + wd M e : Nat) : Int) := by
 have hl := fb_loops 1 M e (wd M e) (by omega) h1 h2 h3
 have eS : ((1 * 9223372036854775808 : Nat) : Int) = 9223372036854775808 := by omega
 rw [eS, Nat.one_mul] at hl
 have h4 : (fcmp .f64 (9223372036854775808 + wd M e) 0 == some .lt) = true := by rw [neg_cmp h1 h2 h3 hM]; rfl
 unfold spec_FloatBits.f
 rw [ifF (cmp_self (wd_neg h1 h2 h3)), ifT h4, Option.bind_some, ifT rfl, Option.bind_some, neg_neg' h1 h2 h3 hM, ifF (wd_ne0 h1 h2 h3 hM), ifF (wd_max h1 h2 h3)]
 exact hl
end
theorem word_cases {x : Nat} (h : okF x) (P : Nat → Prop) (hnan : P nanB) (hi : P 9218868437227405312) (hni : P 18442240474082181120) (h0 : P 0) (hn0 : P 9223372036854775808)
    (hp : ∀ M e, M < 9007199254740992 → (e = 0 ∨ 4503599627370496 ≤ M) → e ≤ 2045 → 0 < M → P (wd M e)) (hm : ∀ M e, M < 9007199254740992 → (e = 0 ∨ 4503599627370496 ≤ M) → e ≤ 2045 → 0 < M → P (9223372036854775808 + wd M e)) : P x := by
  cases hn : isN x with
  | true => rw [nan_word h hn]; exact hnan
  | false =>
    have hx := h.2
    have hr : x % 9223372036854775808 ≤ 9218868437227405312 := by
      unfold isN at hn
      have := of_decide_eq_false hn
      omega
    by_cases hi' : x % 9223372036854775808 = 9218868437227405312
    · rcases (show x = 9218868437227405312 ∨ x = 18442240474082181120 by omega) with rfl | rfl
      · exact hi
      · exact hni
    · obtain ⟨s, M, e, hs, h1, h2, h3, rfl⟩ := fin_word hx (by omega)
      by_cases hM : M = 0
      · subst hM
        have he : e = 0 := by omega
        subst he
        rcases (show s = 0 ∨ s = 1 by omega) with rfl | rfl
        · exact h0
        · exact hn0
      · rcases (show s = 0 ∨ s = 1 by omega) with rfl | rfl
        · rw [Nat.zero_mul, Nat.zero_add]; exact hp M e h1 h2 h3 (by omega)
        · rw [Nat.one_mul]; exact hm M e h1 h2 h3 (by omega)
theorem spec_FloatBits (x : Nat) (h : okF x) : spec_FloatBits.f x = some (x : Int) :=
 word_cases h (fun x => spec_FloatBits.f x = some (x : Int)) fb_nan fb_inf fb_ninf fb_zero fb_nzero (fun M e h1 h2 h3 hM => fb_plus h1 h2 h3 hM) (fun M e h1 h2 h3 hM => fb_minus h1 h2 h3 hM)
end Go.Proofs.YtbkiaccollbjnaaGreat
set_option linter.unusedVariables false
set_option linter.unusedSimpArgs false
set_option linter.unusedSectionVars false
namespace Go.Proofs.YtbkiaccollbjnaaGreat
open Go V Ieee
theorem wd_rng {M e : Nat} (h1 : M < 9007199254740992) (h3 : e ≤ 2045) (hM : 0 < M) : 0 < wd M e ∧ wd M e < 9218868437227405312 := by rw [wd_eq]; omega
theorem cmp_facts (x : Nat) (h : okF x) : (fcmp .f64 x x != some .eq) = decide (x = 9221120237041090560) ∧ (fcmp .f64 x 0 == some .eq) = decide (x = 0 ∨ x = 9223372036854775808) ∧
    (x ≠ 9221120237041090560 → (fcmp .f64 x 0 == some .gt) = decide (0 < x ∧ x < 9223372036854775808)) ∧ isN x = decide (x = 9221120237041090560) := by
  refine word_cases h (fun x => (fcmp .f64 x x != some .eq) = decide (x = 9221120237041090560) ∧ (fcmp .f64 x 0 == some .eq) = decide (x = 0 ∨ x = 9223372036854775808) ∧
    (x ≠ 9221120237041090560 → (fcmp .f64 x 0 == some .gt) = decide (0 < x ∧ x < 9223372036854775808)) ∧ isN x = decide (x = 9221120237041090560)) ?_ ?_ ?_ ?_ ?_ (fun M e h1 h2 h3 hM => ?_) (fun M e h1 h2 h3 hM => ?_)
  · exact ⟨by decide, by decide, fun h => absurd rfl h, by decide⟩
  · exact ⟨by decide, by decide, fun _ => by decide, by decide⟩
  · exact ⟨by decide, by decide, fun _ => by decide, by decide⟩
  · exact ⟨by decide, by decide, fun _ => by decide, by decide⟩
  · exact ⟨by decide, by decide, fun _ => by decide, by decide⟩
  · obtain ⟨q0, q1⟩ := wd_rng h1 h3 hM
    have c1 := cmp_self (wd_v h1 h2 h3)
    have c2 := wd_ne0 h1 h2 h3 hM
    have c3 := wd_gt h1 h2 h3 hM
    rw [c1, c2, c3]
    generalize wd M e = q at q0 q1
    refine ⟨?_, ?_, fun _ => ?_, ?_⟩
    · rw [decide_eq_false (by omega)]
    · rw [decide_eq_false (by omega)]
    · rw [decide_eq_true (by omega)]
    · unfold isN
      rw [decide_eq_false (by omega), decide_eq_false (by omega)]
  · obtain ⟨q0, q1⟩ := wd_rng h1 h3 hM
    have c1 := cmp_self (wd_neg h1 h2 h3)
    have c2 := neg_cmp h1 h2 h3 hM
    rw [c1, c2]
    generalize wd M e = q at q0 q1
    refine ⟨?_, ?_, fun _ => ?_, ?_⟩
    · rw [decide_eq_false (by omega)]
    · rw [decide_eq_false (by omega)]; rfl
    · rw [decide_eq_false (by omega)]; rfl
    · unfold isN
      rw [decide_eq_false (by omega), decide_eq_false (by omega)]
def FRK (x : Nat) : Nat := if x = 9221120237041090560 then 18446744073709551615 else if x = 0 ∨ x = 9223372036854775808 then 9223372036854775808 else if 9223372036854775808 ≤ x then 18446744073709551615 ^^^ x else x ||| 9223372036854775808
theorem max_u64 : IntKind.max .u64 = ((18446744073709551615 : Nat) : Int) := by decide
theorem impl_FloatRank (x : Nat) (h : okF x) : impl_FloatRank.f x = some (FRK x : Int) := by
 obtain ⟨c1, c2, c3, c4⟩ := cmp_facts x h
 unfold impl_FloatRank.f FRK
 by_cases hx : x = 9221120237041090560
 · rw [ifT (by rw [c1]; exact decide_eq_true hx), if_pos hx]; rfl
 · rw [ifF (by rw [c1]; exact decide_eq_false hx), if_neg hx]
   by_cases h0 : x = 0 ∨ x = 9223372036854775808
   · rw [ifT (by rw [c2]; exact decide_eq_true h0), if_pos h0]; rfl
   · rw [ifF (by rw [c2]; exact decide_eq_false h0), if_neg h0]
     have hn : isN x = false := by rw [c4]; exact decide_eq_false hx
     have hl := h.2
     by_cases hs : 9223372036854775808 ≤ x
     · rw [ifF (by rw [c3 hx]; exact decide_eq_false (by omega)), if_pos hn, if_pos hs, max_u64, ixor_u64 _ _ (by omega) hl]
     · rw [ifT (by rw [c3 hx]; exact decide_eq_true (by omega)), if_pos hn, if_neg hs]
       exact congrArg some (ior_u64 x 9223372036854775808 hl (by omega))
theorem ishr63 (n : Nat) : (ishr .u64 (n : Int) (63 : Int) == (1 : Int)) = decide (n / 9223372036854775808 = 1) := by
 have h2 : ishr .u64 (n : Int) (63 : Int) = ((n / 9223372036854775808 : Nat) : Int) := ishr_nat .u64 n 63 (by decide)
 rw [h2]
 generalize n / 9223372036854775808 = q
 by_cases hq : q = 1
 · rw [decide_eq_true hq, hq]; rfl
 · rw [decide_eq_false hq]; simp; omega
theorem spec_FloatRank (x : Nat) (h : okF x) : spec_FloatRank.f x = some (FRK x : Int) := by
 obtain ⟨c1, c2, c3, c4⟩ := cmp_facts x h
 unfold spec_FloatRank.f FRK
 rw [spec_FloatBits x h, Option.bind_some]
 have hl := h.2
 by_cases hx : x = 9221120237041090560
 · rw [ifT (by rw [hx]; rfl), if_pos hx]; rfl
 · rw [ifF (by simp; omega), if_neg hx]
   by_cases h0 : x = 0 ∨ x = 9223372036854775808
   · rw [ifT (by rw [c2]; exact decide_eq_true h0), if_pos h0]; rfl
   · rw [ifF (by rw [c2]; exact decide_eq_false h0), if_neg h0]
     by_cases hs : 9223372036854775808 ≤ x
     · rw [ifT (by rw [ishr63]; exact decide_eq_true (by omega)), if_pos hs, max_u64, ixor_u64 _ _ (by omega) hl]
     · rw [ifF (by rw [ishr63]; exact decide_eq_false (by omega)), if_neg hs]
       exact congrArg some (ior_u64 x 9223372036854775808 hl (by omega))
end Go.Proofs.YtbkiaccollbjnaaGreat
set_option linter.unusedVariables false
set_option linter.unusedSimpArgs false
set_option linter.unusedSectionVars false
namespace Go.Proofs.YtbkiaccollbjnaaGreat
open Go V Ieee
theorem within_rin (a b c : Int) : impl_within.f a b c = some (rin a b c) := rfl
def IOK (a : Item) : Bool := ((rin a.Kind 0 3 && ((a.N == (0 : Int)) || (a.Kind == (1 : Int)))) && (((a.F : Int) == 0) || (a.Kind == (2 : Int)))) && (((a.T.length : Int) == (0 : Int)) || ((a.Kind == (3 : Int)) && (decide ((a.T.length : Int) ≤ (40 : Int)))))
theorem impl_ItemOk (a : Item) : impl_ItemOk.f a = some (IOK a) := by
 unfold impl_ItemOk.f
 rw [within_rin, Option.bind_some]; rfl
theorem iok_iff (a : Item) : IOK a = true ↔ ((0 ≤ a.Kind ∧ a.Kind ≤ 3) ∧ (a.N = 0 ∨ a.Kind = 1)) ∧ (a.F = 0 ∨ a.Kind = 2) ∧ (a.T.length = 0 ∨ a.Kind = 3 ∧ a.T.length ≤ 40) := by
 simp only [IOK, rin, Bool.and_eq_true, Bool.or_eq_true, decide_eq_true_eq, beq_iff_eq]
 constructor
 · rintro ⟨⟨⟨h1, h2⟩, h3⟩, h4⟩; exact ⟨⟨h1, h2⟩, by omega, by omega⟩
 · rintro ⟨⟨h1, h2⟩, h3, h4⟩; exact ⟨⟨⟨h1, h2⟩, by omega⟩, by omega⟩
theorem spec_ItemOk (a : Item) (h : okF a.F) : spec_ItemOk.f a = some (IOK a) := by
  unfold spec_ItemOk.f
  rw [spec_FloatBits a.F h]
  obtain ⟨k, n, f, t⟩ := a
  have hi := iok_iff ⟨k, n, f, t⟩
  simp only at hi ⊢
  generalize t.length = l at hi ⊢
  by_cases c1 : (((decide (k < (0 : Int))) || (decide (k > (3 : Int)))) || (decide ((l : Int) > (40 : Int)))) = true
  · rw [if_pos c1]
    have : IOK ⟨k, n, f, t⟩ = false := by
      cases hh : IOK ⟨k, n, f, t⟩ with
      | false => rfl
      | true =>
        have := hi.1 hh
        simp only [Bool.or_eq_true, decide_eq_true_eq] at c1
        omega
    rw [this]
  · rw [if_neg c1]
    simp only [Bool.or_eq_true, decide_eq_true_eq, not_or] at c1
    by_cases c2 : ((k != (1 : Int)) && (n != (0 : Int))) = true
    · rw [if_pos c2]
      have : IOK ⟨k, n, f, t⟩ = false := by
        cases hh : IOK ⟨k, n, f, t⟩ with
        | false => rfl
        | true =>
          have := hi.1 hh
          simp only [Bool.and_eq_true, bne_iff_ne, ne_eq] at c2
          omega
      rw [this]
    · rw [if_neg c2]
      simp only [Bool.and_eq_true, bne_iff_ne, ne_eq, not_and, Decidable.not_not] at c2
      by_cases c3 : k = 2
      · rw [if_neg (by simp [c3])]
        simp only [Option.bind_some, Bool.false_eq_true, if_false]
        congr 1
        have e : ((k == (3 : Int)) || ((l : Int) == (0 : Int))) = decide (k = 3 ∨ l = 0) := by
          by_cases q : k = 3 <;> by_cases q2 : l = 0 <;> simp [q, q2]
        rw [e]
        cases hh : IOK ⟨k, n, f, t⟩ with
        | true => exact decide_eq_true (by have := hi.1 hh; omega)
        | false => exact decide_eq_false (fun hc => by
            have : IOK ⟨k, n, f, t⟩ = true := hi.2 (by omega)
            rw [hh] at this; cases this)
      · rw [if_pos (by simp [c3])]
        simp only [Option.bind_some]
        by_cases c4 : f = 0
        · rw [if_neg (by simp [c4])]
          congr 1
          have e : ((k == (3 : Int)) || ((l : Int) == (0 : Int))) = decide (k = 3 ∨ l = 0) := by
            by_cases q : k = 3 <;> by_cases q2 : l = 0 <;> simp [q, q2]
          rw [e]
          cases hh : IOK ⟨k, n, f, t⟩ with
          | true => exact decide_eq_true (by have := hi.1 hh; omega)
          | false => exact decide_eq_false (fun hc => by
              have : IOK ⟨k, n, f, t⟩ = true := hi.2 (by omega)
              rw [hh] at this; cases this)
        · rw [if_pos (by simp; exact c4)]
          have : IOK ⟨k, n, f, t⟩ = false := by
            cases hh : IOK ⟨k, n, f, t⟩ with
            | false => rfl
            | true =>
              have := hi.1 hh
              omega
          rw [this]
def KOK (a : Item) : Bool := (IOK a && (a.Kind != (0 : Int))) && decide (a.F ≠ 9223372036854775808)
theorem impl_KeyOk (a : Item) (h : okF a.F) : impl_KeyOk.f a = some (KOK a) := by
 unfold impl_KeyOk.f KOK
 rw [impl_ItemOk, Option.bind_some]
 obtain ⟨_, c2, _, _⟩ := cmp_facts a.F h
 have e : ((fcmp .f64 a.F 0 != some .eq) || ((a.F : Int) == 0)) = decide (a.F ≠ 9223372036854775808) := by
  have hb : (fcmp .f64 a.F 0 != some .eq) = !(fcmp .f64 a.F 0 == some .eq) := rfl
  rw [hb, c2]
  generalize a.F = q
  by_cases h0 : q = 0
  · subst h0; rfl
  · by_cases h1 : q = 9223372036854775808
    · subst h1; rfl
    · rw [decide_eq_false (by omega), decide_eq_true h1]; rfl
 rw [e]
theorem spec_KeyOk (a : Item) (h : okF a.F) : spec_KeyOk.f a = some (KOK a) := by
 unfold spec_KeyOk.f KOK
 rw [spec_ItemOk a h, Option.bind_some]
 obtain ⟨_, c2, _, _⟩ := cmp_facts a.F h
 cases hc : (IOK a && (a.Kind != (0 : Int))) with
 | false => rfl
 | true =>
  rw [if_pos rfl, c2, spec_FloatBits a.F h]
  generalize a.F = q
  by_cases h0 : q = 0
  · subst h0; rfl
  · by_cases h1 : q = 9223372036854775808
    · subst h1; rfl
    · rw [decide_eq_false (by omega), decide_eq_true h1]; rfl
theorem iok_T {a : Item} (h : IOK a = true) : a.T.length ≤ 40 := by have := (iok_iff a).1 h; omega
theorem kok_iok {a : Item} (h : KOK a = true) : IOK a = true := by
 simp only [KOK, Bool.and_eq_true] at h; exact h.1.1
end Go.Proofs.YtbkiaccollbjnaaGreat
set_option linter.unusedVariables false
set_option linter.unusedSimpArgs false
set_option linter.unusedSectionVars false
namespace Go.Proofs.YtbkiaccollbjnaaGreat
open Go V Ieee
def runL {α σ O : Type} (step : σ → α → σ ⊕ O) (fin : σ → O) : List α → σ → O
 | [], s => fin s
 | x :: xs, s => match step s x with
  | .inl s' => runL step fin xs s'
  | .inr o => o
theorem iter_runL {α σ O S : Type} {body : S → Option (S ⊕ O)} (xs : List α) (emb : σ → Nat → S) (step : σ → α → σ ⊕ O) (fin : σ → O) (Inv : σ → Nat → Prop)
    (h : ∀ s k (hk : k < xs.length), Inv s k → body (emb s k) = some (match step s xs[k] with
      | .inl s' => .inl (emb s' (k + 1))
      | .inr o => .inr o) ∧ ∀ s', step s xs[k] = .inl s' → Inv s' (k + 1))
    (hn : ∀ s, Inv s xs.length → body (emb s xs.length) = some (.inr (fin s))) (s0 : σ) (h0 : Inv s0 0) : iter body (emb s0 0) = some (runL step fin xs s0) := by
  have key : ∀ (m k : Nat) (s : σ), k + m = xs.length → Inv s k → iter body (emb s k) = some (runL step fin (xs.drop k) s) := by
    intro m
    induction m with
    | zero =>
      intro k s hk hI
      have : k = xs.length := by omega
      subst this
      rw [List.drop_length, iter_r (hn s hI)]; rfl
    | succ m ih =>
      intro k s hk hI
      have hlt : k < xs.length := by omega
      obtain ⟨hb, hs⟩ := h s k hlt hI
      rw [List.drop_eq_getElem_cons hlt]
      unfold runL
      cases hst : step s xs[k] with
      | inl s' => rw [hst] at hb; rw [iter_l hb]; exact ih (k + 1) s' (by omega) (hs s' hst)
      | inr o => rw [hst] at hb; rw [iter_r hb]
  have := key xs.length 0 s0 (by omega) h0
  rwa [List.drop_zero] at this
theorem iter_test {α O : Type} {body : Int → Option (Int ⊕ O)} (xs : List α) (g : α → Bool) (o1 o2 : O) (hb : ∀ (k : Nat) (hk : k < xs.length), body (k : Int) = if g xs[k] = true then some (.inr o1) else some (.inl ((k : Int) + 1))) (hn : body (xs.length : Int) = some (.inr o2)) : iter body 0 = some (if xs.any g = true then o1 else o2) := by
 have := iter_runL (body := body) xs (fun (_ : Unit) (k : Nat) => (k : Int)) (fun _ x => if g x = true then .inr o1 else .inl ()) (fun _ => o2) (fun _ _ => True) (fun _ k hk _ => ⟨by
  rw [hb k hk]
  cases g xs[k] <;> rfl, fun _ _ => trivial⟩) (fun _ _ => hn) () trivial
 refine this.trans ?_
 congr 1
 clear this hb hn
 induction xs with
 | nil => rfl
 | cons x xs ih =>
  unfold runL
  rw [List.any_cons]
  cases g x with
  | true => rfl
  | false => simpa using ih
def SGN (a b : Int) : Int := if a < b then -1 else if a > b then 1 else 0
theorem sgn_0 {a b : Int} : SGN a b = 0 ↔ a = b := by
 unfold SGN
 split
 · constructor <;> omega
 · split
   · constructor <;> omega
   · constructor <;> omega
def ICM (a b : Item) : Int := if a.Kind ≠ b.Kind then SGN a.Kind b.Kind else if a.N ≠ b.N then SGN a.N b.N else if FRK a.F ≠ FRK b.F then SGN (FRK a.F) (FRK b.F) else bcmp a.T b.T
theorem bcmp_at : ∀ (p : Nat) (xs ys : List Int) (h1 : p < xs.length) (h2 : p < ys.length), (∀ i, i < p → xs[i]? = ys[i]?) → xs[p] ≠ ys[p] → bcmp xs ys = if xs[p] < ys[p] then -1 else 1
 | 0, x :: xs, y :: ys, h1, h2, h, hne => by
  unfold bcmp
  have : (x == y) = false := by simpa using hne
  rw [this]
  simp only [cond_false, List.getElem_cons_zero]
  by_cases hlt : x < y
  · rw [if_pos hlt, decide_eq_true hlt]; rfl
  · rw [if_neg hlt, decide_eq_false hlt]; rfl
 | p + 1, x :: xs, y :: ys, h1, h2, h, hne => by
  unfold bcmp
  have h0 := h 0 (by omega)
  simp only [List.getElem?_cons_zero, Option.some.injEq] at h0
  have : (x == y) = true := by simpa using h0
  rw [this]
  simp only [cond_true, List.getElem_cons_succ]
  exact bcmp_at p xs ys (by simpa using h1) (by simpa using h2) (fun i hi => by simpa using h (i + 1) (by omega)) (by simpa using hne)
theorem bcmp_end : ∀ (xs ys : List Int), (∀ i, i < xs.length → i < ys.length → xs[i]? = ys[i]?) → bcmp xs ys = if xs.length < ys.length then -1 else if xs.length > ys.length then 1 else 0
 | [], [], _ => rfl
 | [], y :: ys, _ => by simp [bcmp]
 | x :: xs, [], _ => by simp [bcmp]
 | x :: xs, y :: ys, h => by
  unfold bcmp
  have h0 := h 0 (by simp) (by simp)
  simp only [List.getElem?_cons_zero, Option.some.injEq] at h0
  have : (x == y) = true := by simpa using h0
  rw [this]
  simp only [cond_true, List.length_cons]
  rw [bcmp_end xs ys fun i h1 h2 => by simpa using h (i + 1) (by simpa using h1) (by simpa using h2)]
  simp
theorem str_data (xs : List Int) : (str xs).data.toList = xs.map fun n => UInt8.ofNat n.toNat := by
 have key : ∀ (xs : List Int) (acc : ByteArray), (xs.foldl (fun r n => r.push (UInt8.ofNat n.toNat)) acc).data.toList = acc.data.toList ++ xs.map fun n => UInt8.ofNat n.toNat := by
  intro xs
  induction xs with
  | nil => intro acc; simp
  | cons x xs ih => intro acc; rw [List.foldl_cons, ih]; simp
 exact (key xs ByteArray.empty).trans (List.nil_append _)
theorem str_size (xs : List Int) : (str xs).size = xs.length := by
 have := congrArg List.length (str_data xs)
 rw [List.length_map, Array.length_toList] at this
 exact this
theorem str_get (xs : List Int) (i : Nat) (h : i < xs.length) : (str xs)[i]! = UInt8.ofNat (xs[i]).toNat := by
 have hs : i < (str xs).size := by rw [str_size]; exact h
 rw [getElem!_pos (str xs) i hs]
 have h1 : (str xs)[i] = (str xs).data[i] := rfl
 have h2 : (str xs).data.toList[i]? = (xs.map fun n => UInt8.ofNat n.toNat)[i]? := by rw [str_data]
 rw [List.getElem?_map, List.getElem?_eq_getElem h, Array.getElem?_toList, Array.getElem?_eq_getElem (show i < (str xs).data.size from hs)] at h2
 rw [h1]; exact Option.some.inj h2
theorem u8_lt {a b : Int} (ha : InK .u8 a) (hb : InK .u8 b) : (UInt8.ofNat a.toNat < UInt8.ofNat b.toNat) ↔ a < b := by
 have h1 := u8_of ha
 have h2 := u8_of hb
 rw [UInt8.lt_iff_toNat_lt, UInt8.toNat_ofNat', UInt8.toNat_ofNat', Nat.mod_eq_of_lt (by omega), Nat.mod_eq_of_lt (by omega)]
 omega
theorem u8_eq {a b : Int} (ha : InK .u8 a) (hb : InK .u8 b) : (UInt8.ofNat a.toNat = UInt8.ofNat b.toNat) ↔ a = b := by
 have h1 := u8_of ha
 have h2 := u8_of hb
 rw [← UInt8.toNat_inj, UInt8.toNat_ofNat', UInt8.toNat_ofNat', Nat.mod_eq_of_lt (by omega), Nat.mod_eq_of_lt (by omega)]
 omega
theorem bcmpS_eq (xs ys : List Int) (hx : ∀ x ∈ xs, InK .u8 x) (hy : ∀ x ∈ ys, InK .u8 x) : bcmpS xs ys = bcmp xs ys := by
 unfold bcmpS Extern.BytealgCompare.cmp
 rw [str_size, str_size]
 cases hf : (List.range (min xs.length ys.length)).find? (fun i => (str xs)[i]! != (str ys)[i]!) with
 | none =>
  rw [List.find?_eq_none] at hf
  rw [bcmp_end xs ys fun i h1 h2 => ?_]
  have := hf i (List.mem_range.2 (by omega))
  rw [str_get xs i h1, str_get ys i h2] at this
  have h3 : UInt8.ofNat (xs[i]).toNat = UInt8.ofNat (ys[i]).toNat := by simpa using this
  rw [List.getElem?_eq_getElem h1, List.getElem?_eq_getElem h2, (u8_eq (hx _ (List.getElem_mem h1)) (hy _ (List.getElem_mem h2))).1 h3]
 | some i =>
  have hm := List.mem_range.1 (List.mem_of_find?_eq_some hf)
  have h1 : i < xs.length := by omega
  have h2 : i < ys.length := by omega
  have hp := List.find?_some hf
  rw [List.find?_range_eq_some] at hf
  have hne : xs[i] ≠ ys[i] := fun e => by
   rw [str_get xs i h1, str_get ys i h2, e] at hp
   simp at hp
  rw [bcmp_at i xs ys h1 h2 (fun j hj => by
   have := hf.2.2 j hj
   rw [str_get xs j (by omega), str_get ys j (by omega)] at this
   have h3 : UInt8.ofNat (xs[j]).toNat = UInt8.ofNat (ys[j]).toNat := by simpa using this
   rw [List.getElem?_eq_getElem (by omega), List.getElem?_eq_getElem (by omega), (u8_eq (hx _ (List.getElem_mem (by omega))) (hy _ (List.getElem_mem (by omega)))).1 h3]) hne]
  simp only []
  rw [str_get xs i h1, str_get ys i h2]
  by_cases hlt : xs[i] < ys[i]
  · rw [if_pos hlt, if_pos ((u8_lt (hx _ (List.getElem_mem h1)) (hy _ (List.getElem_mem h2))).2 hlt)]
  · rw [if_neg hlt, if_neg fun h => hlt ((u8_lt (hx _ (List.getElem_mem h1)) (hy _ (List.getElem_mem h2))).1 h)]
theorem spec_l3texts (a b : List Int) (ha : a.length ≤ 1000000000) : spec_l3texts.f a b = some (bcmp a b) := by
 unfold spec_l3texts.f
 have key : ∀ (m k : Nat), k + m = a.length → k ≤ b.length → iter (spec_l3texts.b0 a b) (k : Int) = some (bcmp (a.drop k) (b.drop k)) := by
  intro m
  induction m with
  | zero =>
   intro k hk hb
   have : k = a.length := by omega
   subst this
   refine iter_r ?_
   unfold spec_l3texts.b0
   rw [if_neg (by simp), List.drop_length]
   by_cases hl : a.length < b.length
   · rw [if_pos (by simp; omega), List.drop_eq_getElem_cons hl]; rfl
   · rw [if_neg (by simp; omega), if_neg (by simp; omega), List.drop_eq_nil_of_le (by omega)]; rfl
  | succ m ih =>
   intro k hk hb
   have hk1 : k < a.length := by omega
   by_cases hk2 : k < b.length
   · rw [List.drop_eq_getElem_cons hk1, List.drop_eq_getElem_cons hk2]
     unfold bcmp
     by_cases h1 : a[k] < b[k]
     · have hne : (a[k] == b[k]) = false := by simp; omega
       rw [hne, decide_eq_true h1]
       refine iter_r ?_
       unfold spec_l3texts.b0
       rw [if_pos (by simp; omega), if_pos ⟨by omega, by omega⟩, if_pos ⟨by omega, by omega⟩, at_nat _ k hk1, at_nat _ k hk2, if_pos (by simpa using h1)]; rfl
     · by_cases h2 : a[k] > b[k]
       · have hne : (a[k] == b[k]) = false := by simp; omega
         rw [hne, decide_eq_false h1]
         refine iter_r ?_
         unfold spec_l3texts.b0
         rw [if_pos (by simp; omega), if_pos ⟨by omega, by omega⟩, if_pos ⟨by omega, by omega⟩, at_nat _ k hk1, at_nat _ k hk2, if_neg (by simpa using h1), if_pos ⟨by omega, by omega⟩, if_pos ⟨by omega, by omega⟩, if_pos (by simpa using h2)]; rfl
       · have hne : (a[k] == b[k]) = true := by simp; omega
         rw [hne, cond_true, ← ih (k + 1) (by omega) (by omega)]
         refine iter_l ?_
         unfold spec_l3texts.b0
         rw [if_pos (by simp; omega), if_pos ⟨by omega, by omega⟩, if_pos ⟨by omega, by omega⟩, at_nat _ k hk1, at_nat _ k hk2, if_neg (by simpa using h1), if_pos ⟨by omega, by omega⟩, if_pos ⟨by omega, by omega⟩, if_neg (by simpa using h2), w64 (by omega) (by omega)]; rfl
   · refine iter_r ?_
     unfold spec_l3texts.b0
     rw [if_neg (by simp; omega), if_neg (by simp; omega), if_pos (by simp; omega), List.drop_eq_getElem_cons hk1, List.drop_eq_nil_of_le (show b.length ≤ k by omega)]; rfl
 exact key a.length 0 (by omega) (by omega)
theorem cmpI (a b : Int) : cmp_Compare_int.f a b = some (SGN a b) := by
 unfold cmp_Compare_int.f cmp_isNaN_int.f SGN
 simp only [bne_self_eq_false, Option.bind_some, Bool.false_eq_true, if_false, decide_eq_true_eq]
 split
 · rfl
 · split <;> rfl
theorem cmpU (a b : Int) : cmp_Compare_uint64.f a b = some (SGN a b) := by
 unfold cmp_Compare_uint64.f cmp_isNaN_uint64.f SGN
 simp only [bne_self_eq_false, Option.bind_some, Bool.false_eq_true, if_false, decide_eq_true_eq]
 split
 · rfl
 · split <;> rfl
theorem cmpOr (l : List Int) (hl : l.length ≤ 1000) : cmp_Or_int.f l = some (runL (fun (_ : Unit) x => if x ≠ 0 then .inr x else .inl ()) (fun _ => 0) l ()) := by
 unfold cmp_Or_int.f
 refine iter_runL l (fun _ k => (k : Int)) _ _ (fun _ _ => True) (fun s k hk _ => ⟨?_, fun _ _ => trivial⟩) (fun s _ => ?_) () trivial
 · unfold cmp_Or_int.b0
   rw [if_pos (by simp; omega), if_pos ⟨by omega, by omega⟩, at_nat _ k hk, w64 (by omega) (by omega)]
   by_cases h : l[k] = 0
   · rw [if_neg (by simpa using h), if_neg (by simpa using h)]; rfl
   · rw [if_pos (by simpa using h), if_pos (by simpa using h)]
 · unfold cmp_Or_int.b0
   rw [if_neg (by simp)]; rfl
theorem impl_compareItems (a b : Item) (ha : ok_Item a) (hb : ok_Item b) : impl_compareItems.f a b = some (ICM a b) := by
 unfold impl_compareItems.f impl_FloatCompare.f bytes_Compare.f
 rw [cmpI, Option.bind_some, cmpI, Option.bind_some, impl_FloatRank _ ha.2.2.1, Option.bind_some, impl_FloatRank _ hb.2.2.1, Option.bind_some, cmpU, Option.bind_some, Option.bind_some, Option.bind_some, bcmpS_eq _ _ ha.2.2.2.2 hb.2.2.2.2, cmpOr _ (by simp), Option.bind_some]
 congr 1
 unfold ICM runL
 by_cases h1 : a.Kind = b.Kind
 · rw [if_neg (by simpa using sgn_0.2 h1), if_neg (by simpa using h1)]
   simp only []
   unfold runL
   by_cases h2 : a.N = b.N
   · rw [if_neg (by simpa using sgn_0.2 h2), if_neg (by simpa using h2)]
     simp only []
     unfold runL
     by_cases h3 : FRK a.F = FRK b.F
     · rw [if_neg (by simp [sgn_0, h3]), if_neg (by simpa using h3)]
       simp only []
       unfold runL
       by_cases h4 : bcmp a.T b.T = 0
       · rw [if_neg (by simpa using h4)]; simp only []; unfold runL; exact h4.symm
       · rw [if_pos (by simpa using h4)]
     · rw [if_pos (fun h => h3 (by have := sgn_0.1 h; omega)), if_pos h3]
   · rw [if_pos (fun h => h2 (sgn_0.1 h)), if_pos h2]
 · rw [if_pos (fun h => h1 (sgn_0.1 h)), if_pos h1]
theorem spec_FloatCompare (x y : Nat) (hx : okF x) (hy : okF y) : spec_FloatCompare.f x y = some (SGN (FRK x) (FRK y)) := by
 unfold spec_FloatCompare.f SGN
 rw [spec_FloatRank _ hx, Option.bind_some, spec_FloatRank _ hy, Option.bind_some]
 simp only [decide_eq_true_eq]
 split
 · rfl
 · split <;> rfl
theorem spec_ItemCompare (a b : Item) (ha : ok_Item a) (hb : ok_Item b) (va : IOK a = true) (vb : IOK b = true) : spec_ItemCompare.f a b = some (ICM a b) := by
 unfold spec_ItemCompare.f ICM
 rw [spec_ItemOk a ha.2.2.1, Option.bind_some, va, if_neg (by decide), spec_ItemOk b hb.2.2.1, Option.bind_some, vb]
 simp only [Option.bind_some, Bool.not_true, Bool.false_eq_true, if_false]
 by_cases h1 : a.Kind = b.Kind
 · rw [if_neg (show ¬ ((a.Kind != b.Kind) = true) by simpa using h1), if_neg (show ¬ (a.Kind ≠ b.Kind) by simpa using h1)]
   by_cases h2 : a.N = b.N
   · rw [if_neg (show ¬ ((a.N != b.N) = true) by simpa using h2), if_neg (show ¬ (a.N ≠ b.N) by simpa using h2), spec_FloatCompare _ _ ha.2.2.1 hb.2.2.1, Option.bind_some]
     by_cases h3 : FRK a.F = FRK b.F
     · rw [if_neg (by simp [sgn_0, h3]), if_neg (by simpa using h3), spec_l3texts _ _ (by have := iok_T va; omega)]; rfl
     · rw [if_pos (by simp [sgn_0]; omega), if_pos h3]
   · rw [if_pos (show (a.N != b.N) = true by simpa using h2), if_pos (show a.N ≠ b.N from h2)]
     unfold SGN
     simp only [decide_eq_true_eq]
     split
     · rfl
     · rw [if_pos (by omega)]
 · rw [if_pos (show (a.Kind != b.Kind) = true by simpa using h1), if_pos (show a.Kind ≠ b.Kind from h1)]
   unfold SGN
   simp only [decide_eq_true_eq]
   split
   · rfl
   · rw [if_pos (by omega)]
def SPK (s : Span) : Bool := KOK s.From && KOK s.To && decide (ICM s.From s.To ≤ 0)
def INS (a b c : Item) : Bool := KOK a && KOK b && KOK c && decide (ICM a c ≤ 0) && decide (ICM c b ≤ 0)
theorem impl_SpanOk (s : Span) (h : ok_Span s) : impl_SpanOk.f s = some (SPK s) := by
 unfold impl_SpanOk.f SPK
 rw [impl_KeyOk _ h.1.2.2.1, Option.bind_some]
 cases hf : KOK s.From with
 | false => rfl
 | true =>
  rw [if_pos rfl, impl_KeyOk _ h.2.2.2.1, Option.bind_some, Option.bind_some]
  cases ht : KOK s.To with
  | false => rfl
  | true => rw [if_pos rfl, impl_compareItems _ _ h.1 h.2]; rfl
theorem spec_SpanOk (s : Span) (h : ok_Span s) : spec_SpanOk.f s = some (SPK s) := by
 unfold spec_SpanOk.f SPK
 rw [spec_KeyOk _ h.1.2.2.1, Option.bind_some]
 cases hf : KOK s.From with
 | false => rfl
 | true =>
  rw [if_pos rfl, spec_KeyOk _ h.2.2.2.1, Option.bind_some, Option.bind_some]
  cases ht : KOK s.To with
  | false => rfl
  | true => rw [if_pos rfl, spec_ItemCompare _ _ h.1 h.2 (kok_iok hf) (kok_iok ht)]; rfl
theorem impl_InSpan (a b c : Item) (ha : ok_Item a) (hb : ok_Item b) (hc : ok_Item c) : impl_InSpan.f a b c = some (INS a b c) := by
 unfold impl_InSpan.f INS
 rw [impl_KeyOk _ ha.2.2.1, Option.bind_some]
 cases h1 : KOK a with
 | false => rfl
 | true =>
  rw [if_pos rfl, impl_KeyOk _ hb.2.2.1, Option.bind_some, Option.bind_some]
  cases h2 : KOK b with
  | false => rfl
  | true =>
   rw [if_pos rfl, impl_KeyOk _ hc.2.2.1, Option.bind_some, Option.bind_some]
   cases h3 : KOK c with
   | false => rfl
   | true =>
    rw [if_pos rfl, impl_compareItems _ _ ha hc, Option.bind_some, Option.bind_some]
    cases h4 : decide (ICM a c ≤ 0) with
    | false => rfl
    | true => rw [if_pos rfl, impl_compareItems _ _ hc hb]; rfl
theorem spec_InSpan (a b c : Item) (ha : ok_Item a) (hb : ok_Item b) (hc : ok_Item c) : spec_InSpan.f a b c = some (INS a b c) := by
 unfold spec_InSpan.f INS
 rw [spec_KeyOk _ ha.2.2.1, Option.bind_some]
 cases h1 : KOK a with
 | false => rfl
 | true =>
  rw [if_pos rfl, spec_KeyOk _ hb.2.2.1, Option.bind_some, Option.bind_some]
  cases h2 : KOK b with
  | false => rfl
  | true =>
   rw [if_pos rfl, spec_KeyOk _ hc.2.2.1, Option.bind_some, Option.bind_some]
   cases h3 : KOK c with
   | false => rfl
   | true =>
    rw [if_pos rfl, spec_ItemCompare _ _ ha hc (kok_iok h1) (kok_iok h3), Option.bind_some, Option.bind_some]
    cases h4 : decide (ICM a c ≤ 0) with
    | false => rfl
    | true => rw [if_pos rfl, spec_ItemCompare _ _ hc hb (kok_iok h3) (kok_iok h2)]; rfl
end Go.Proofs.YtbkiaccollbjnaaGreat
set_option linter.unusedVariables false
set_option linter.unusedSimpArgs false
set_option linter.unusedSectionVars false
namespace Go.Proofs.YtbkiaccollbjnaaGreat
open Go V Ieee
def IXF {α : Type} (g : α → Bool) : List α → Int → Int
 | [], _ => -1
 | x :: xs, i => if g x = true then i else IXF g xs (i + 1)
theorem ixf_out {α : Type} (g : α → Bool) : ∀ (xs : List α) (i : Int), (IXF g xs i = -1 ∧ xs.any g = false) ∨ ∃ (k : Nat) (hk : k < xs.length), IXF g xs i = i + k ∧ g xs[k] = true ∧ xs.any g = true ∧ ∀ j (hj : j < k), g (xs[j]'(by omega)) = false
 | [], i => .inl ⟨rfl, rfl⟩
 | x :: xs, i => by
  unfold IXF
  cases hx : g x with
  | true => exact .inr ⟨0, by simp, by simp, by simpa using hx, by simp [hx], fun j hj => by omega⟩
  | false =>
   rw [if_neg (by decide)]
   rcases ixf_out g xs (i + 1) with ⟨h1, h2⟩ | ⟨k, hk, h1, h2, h3, h4⟩
   · exact .inl ⟨h1, by simp [hx, h2]⟩
   · refine .inr ⟨k + 1, by simpa using hk, by omega, by simpa using h2, by simp [h3], fun j hj => ?_⟩
     cases j with
     | zero => simpa using hx
     | succ j => simpa using h4 j (by omega)
theorem ixf_any {α : Type} (g : α → Bool) (xs : List α) : decide (IXF g xs 0 ≥ 0) = xs.any g := by
 rcases ixf_out g xs 0 with ⟨h1, h2⟩ | ⟨k, hk, h1, _, h2, _⟩
 · rw [h1, h2]; rfl
 · rw [h2]; exact decide_eq_true (by omega)
theorem iter_ixf {α : Type} {body : Int → Option (Int ⊕ Int)} (xs : List α) (g : α → Bool) (hb : ∀ (k : Nat) (hk : k < xs.length), body (k : Int) = if g xs[k] = true then some (.inr (k : Int)) else some (.inl ((k : Int) + 1))) (hn : body (xs.length : Int) = some (.inr (-1))) : iter body 0 = some (IXF g xs 0) := by
 have key : ∀ (m k : Nat), k + m = xs.length → iter body (k : Int) = some (IXF g (xs.drop k) (k : Int)) := by
  intro m
  induction m with
  | zero =>
   intro k hk
   have : k = xs.length := by omega
   subst this
   rw [List.drop_length, iter_r hn]; rfl
  | succ m ih =>
   intro k hk
   have hlt : k < xs.length := by omega
   have h := hb k hlt
   rw [List.drop_eq_getElem_cons hlt]
   unfold IXF
   cases hg : g xs[k] with
   | true => rw [hg, if_pos rfl] at h; rw [iter_r h, if_pos rfl]
   | false =>
    rw [hg, if_neg (by decide)] at h
    rw [iter_l h, if_neg (by decide)]
    have := ih (k + 1) (by omega)
    rw [show ((k + 1 : Nat) : Int) = (k : Int) + 1 by omega] at this
    exact this
 have := key xs.length 0 (by omega)
 rwa [List.drop_zero] at this
theorem idxItem (l : List Item) (hl : l.length ≤ 1000000000) (f : Item → Option Bool) (g : Item → Bool) (h : ∀ x ∈ l, f x = some (g x)) : slices_IndexFunc_impl_Item_impl_Item.f l f = some (IXF g l 0) := by
 unfold slices_IndexFunc_impl_Item_impl_Item.f
 refine iter_ixf l g (fun k hk => ?_) ?_
 · unfold slices_IndexFunc_impl_Item_impl_Item.b0
   rw [if_pos (by simp; omega), if_pos ⟨by omega, by omega⟩, at_nat _ k hk]
   rw [h _ (List.getElem_mem hk), Option.bind_some, w64 (by omega) (by omega)]
 · unfold slices_IndexFunc_impl_Item_impl_Item.b0
   rw [if_neg (by simp)]; rfl
theorem cntItem (l : List Item) (hl : l.length ≤ 1000000000) (f : Item → Option Bool) (g : Item → Bool) (h : ∀ x ∈ l, f x = some (g x)) : slices_ContainsFunc_impl_Item_impl_Item.f l f = some (l.any g) := by
 unfold slices_ContainsFunc_impl_Item_impl_Item.f
 rw [idxItem l hl f g h, Option.bind_some, ixf_any]
theorem allItem (l : List Item) (hl : l.length ≤ 1000000000) (f : Item → Option Bool) (g : Item → Bool) (h : ∀ x ∈ l, f x = some (g x)) : impl_areAll_impl_Item.f l f = some (l.all g) := by
 unfold impl_areAll_impl_Item.f
 rw [cntItem l hl _ (fun x => !g x) (fun x hx => by unfold impl_areAll_impl_Item_1.f; rw [h x hx]; rfl), Option.bind_some]
 simp [List.any_eq_not_all_not]
theorem idxSpan (l : List Span) (hl : l.length ≤ 1000000000) (f : Span → Option Bool) (g : Span → Bool) (h : ∀ x ∈ l, f x = some (g x)) : slices_IndexFunc_impl_Span_impl_Span.f l f = some (IXF g l 0) := by
 unfold slices_IndexFunc_impl_Span_impl_Span.f
 refine iter_ixf l g (fun k hk => ?_) ?_
 · unfold slices_IndexFunc_impl_Span_impl_Span.b0
   rw [if_pos (by simp; omega), if_pos ⟨by omega, by omega⟩, at_nat _ k hk]
   rw [h _ (List.getElem_mem hk), Option.bind_some, w64 (by omega) (by omega)]
 · unfold slices_IndexFunc_impl_Span_impl_Span.b0
   rw [if_neg (by simp)]; rfl
theorem cntSpan (l : List Span) (hl : l.length ≤ 1000000000) (f : Span → Option Bool) (g : Span → Bool) (h : ∀ x ∈ l, f x = some (g x)) : slices_ContainsFunc_impl_Span_impl_Span.f l f = some (l.any g) := by
 unfold slices_ContainsFunc_impl_Span_impl_Span.f
 rw [idxSpan l hl f g h, Option.bind_some, ixf_any]
theorem allSpan (l : List Span) (hl : l.length ≤ 1000000000) (f : Span → Option Bool) (g : Span → Bool) (h : ∀ x ∈ l, f x = some (g x)) : impl_areAll_impl_Span.f l f = some (l.all g) := by
 unfold impl_areAll_impl_Span.f
 rw [cntSpan l hl _ (fun x => !g x) (fun x hx => by unfold impl_areAll_impl_Span_1.f; rw [h x hx]; rfl), Option.bind_some]
 simp [List.any_eq_not_all_not]
theorem mset_any {m : MD} (h : ∀ p ∈ m, p.2 = true) (k : Int) : mget m k = decide (k ∈ m.map (·.1)) := by
 rw [mget_all h]
 induction m with
 | nil => rfl
 | cons p m ih =>
  rw [List.any_cons, ih fun q hq => h q (by simp [hq])]
  by_cases hk : k = p.1 <;> simp [hk]
theorem runL_diff {α : Type} (key : α → Int) : ∀ (xs : List α) (m : MD), (∀ p ∈ m, p.2 = true) → (m.map (·.1)).Nodup →
    runL (fun (m : MD) x => if mget m (key x) = true then .inr false else .inl (mset m (key x) true)) (fun _ => true) xs m = decide ((m.map (·.1) ++ xs.map key).Nodup)
  | [], m, h, hn => by unfold runL; simpa using hn
  | x :: xs, m, h, hn => by
    unfold runL
    rw [mset_any h]
    by_cases hk : key x ∈ m.map (·.1)
    · rw [if_pos (by simpa using hk)]
      refine (decide_eq_false fun hd => ?_).symm
      rw [List.nodup_append] at hd
      exact hd.2.2 _ hk (key x) (by simp) rfl
    · rw [if_neg (by simpa using hk)]
      have hnew : mset m (key x) true = m ++ [(key x, true)] := by
        refine mset_new ?_ _
        rw [← mget_all h, mset_any h]; exact decide_eq_false hk
      simp only []
      rw [hnew, runL_diff key xs _ (fun p hp => by
        rcases List.mem_append.1 hp with hp | hp
        · exact h p hp
        · simp at hp; rw [hp]) (by
        rw [List.map_append, List.nodup_append]
        exact ⟨hn, by simp, fun a ha b hb hab => by simp at hb; subst hb; subst hab; exact hk ha⟩)]
      congr 1
      simp
end Go.Proofs.YtbkiaccollbjnaaGreat
set_option linter.unusedVariables false
set_option linter.unusedSimpArgs false
set_option linter.unusedSectionVars false
namespace Go.Proofs.YtbkiaccollbjnaaGreat
open Go V Ieee
def okDd (d : Deed) : Prop := ok_Deed d ∧ d.Reads.length ≤ 1048576 ∧ d.Writes.length ≤ 1048576
def DO1 (d : Deed) : Bool := decide (d.Begun ≥ 1) && decide (d.Ended > d.Begun) && decide ((d.Reads.length : Int) ≤ 200) && d.Reads.all SPK && decide ((d.Writes.length : Int) ≤ 200) && d.Writes.all KOK
def TMS (l : List Deed) : List Int := l.flatMap fun d => [d.Begun, d.Ended]
def DKK (l : List Deed) : Bool := decide (l.length ≤ 100) && l.all DO1 && decide ((TMS l).Nodup)
theorem impl_isDeed (d : Deed) (h : okDd d) : impl_isDeed.f d = some (DO1 d) := by
 unfold impl_isDeed.f DO1
 rw [allSpan _ (by have := h.2.1; omega) _ SPK (fun s hs => impl_SpanOk s (h.1.2.2.2.1.2 s hs)), allItem _ (by have := h.2.2; omega) _ KOK (fun s hs => impl_KeyOk s (h.1.2.2.2.2.2 s hs).2.2.1)]
 cases hb : (decide (d.Begun ≥ (1 : Int)) && decide (d.Ended > d.Begun) && decide ((d.Reads.length : Int) ≤ (200 : Int))) with
 | false => rfl
 | true =>
  rw [if_pos rfl, Option.bind_some, Option.bind_some]
  cases hs : (d.Reads.all SPK && decide ((d.Writes.length : Int) ≤ (200 : Int))) with
  | false => rw [Bool.and_assoc true, hs]; rfl
  | true => rw [if_pos rfl, Bool.and_assoc true, hs]; rfl
theorem diffInt (l : List Int) (hl : l.length ≤ 1000000000) : impl_areDifferent_int.f l impl_DeedsOk_1.f = some (decide l.Nodup) := by
 unfold impl_areDifferent_int.f
 have := iter_runL (body := impl_areDifferent_int.b0 l impl_DeedsOk_1.f) l (fun (m : MD) (k : Nat) => ((k : Int), m)) (fun (m : MD) x => if mget m x = true then .inr false else .inl (mset m x true)) (fun _ => true) (fun _ _ => True) (fun s k hk _ => ⟨?_, fun _ _ => trivial⟩) (fun s _ => ?_) [] trivial
 · refine this.trans ?_
   rw [runL_diff (fun x => x) l [] (fun p hp => by cases hp) (by simp)]
   simp
 · unfold impl_areDifferent_int.b0 impl_DeedsOk_1.f
   simp only []
   rw [if_pos (by simp; omega), if_pos ⟨by omega, by omega⟩, at_nat _ k hk, Option.bind_some]
   cases mget s l[k] with
   | true => rfl
   | false => rw [if_neg (by decide), Option.bind_some, w64 (by omega) (by omega)]; rfl
 · unfold impl_areDifferent_int.b0
   simp only []
   rw [if_neg (by simp)]; rfl
theorem idxDeed (l : List Deed) (hl : l.length ≤ 1000000000) (f : Deed → Option Bool) (g : Deed → Bool) (h : ∀ x ∈ l, f x = some (g x)) : impl_areAll_impl_Deed.f l f = some (l.all g) := by
 unfold impl_areAll_impl_Deed.f slices_ContainsFunc_impl_Deed_impl_Deed.f slices_IndexFunc_impl_Deed_impl_Deed.f
 have := iter_ixf (body := slices_IndexFunc_impl_Deed_impl_Deed.b0 l (fun x0 => impl_areAll_impl_Deed_1.f x0 f)) l (fun x => !g x) (fun k hk => by
  unfold slices_IndexFunc_impl_Deed_impl_Deed.b0 impl_areAll_impl_Deed_1.f
  rw [if_pos (by simp; omega), if_pos ⟨by omega, by omega⟩, at_nat _ k hk]
  simp only [h _ (List.getElem_mem hk), Option.bind_some]
  rw [w64 (by omega) (by omega)]) (by
  unfold slices_IndexFunc_impl_Deed_impl_Deed.b0
  rw [if_neg (by simp)]; rfl)
 rw [this, Option.bind_some, ixf_any, Option.bind_some]
 simp [List.any_eq_not_all_not]
theorem runL_tms : ∀ (l : List Deed) (ts : List Int), runL (O := Bool) (fun (ts : List Int) d => .inl (ts ++ [d.Begun, d.Ended])) (fun ts => decide ts.Nodup) l ts = decide ((ts ++ TMS l).Nodup)
 | [], ts => by unfold runL; simp [TMS]
 | d :: l, ts => by
  unfold runL
  simp only []
  rw [runL_tms l]
  congr 2
  simp [TMS]
theorem impl_DeedsOk (l : List Deed) (h : ∀ d ∈ l, okDd d) : impl_DeedsOk.f l = some (DKK l) := by
 unfold impl_DeedsOk.f DKK
 by_cases hl : l.length ≤ 100
 · rw [if_neg (by simp; omega), idxDeed l (by omega) _ DO1 (fun d hd => impl_isDeed d (h d hd)), Option.bind_some, Option.bind_some, decide_eq_true hl]
   cases ha : l.all DO1 with
   | false => rfl
   | true =>
    rw [if_neg (by decide)]
    have := iter_runL (body := impl_DeedsOk.b0 l) l (fun (ts : List Int) (k : Nat) => (ts, (k : Int))) (fun ts d => .inl (ts ++ [d.Begun, d.Ended])) (fun ts => decide ts.Nodup) (fun ts k => ts.length = 2 * k) (fun s k hk hI => ⟨?_, fun s' hs' => ?_⟩) (fun s hI => ?_) [] rfl
    · refine this.trans ?_
      rw [runL_tms]; simp
    · unfold impl_DeedsOk.b0
      simp only []
      rw [if_pos (by simp; omega), if_pos ⟨by omega, by omega⟩, at_nat _ k hk, if_pos (by simp [Lim]; omega), w64 (by omega) (by omega)]; rfl
    · simp only [Sum.inl.injEq] at hs'
      rw [← hs', List.length_append, hI]; simp; omega
    · unfold impl_DeedsOk.b0
      simp only []
      rw [if_neg (by simp), diffInt _ (by omega)]; rfl
 · rw [if_pos (by simp; omega), decide_eq_false hl]; rfl
def specD : List Deed → List Int → Bool
 | [], _ => true
 | d :: l, ts => DO1 d && !(ts.any fun t => t == d.Begun || t == d.Ended) && specD l (ts ++ [d.Begun, d.Ended])
theorem specD_eq : ∀ (l : List Deed) (ts : List Int), ts.Nodup → specD l ts = (l.all DO1 && decide ((ts ++ TMS l).Nodup))
 | [], ts, h => by simp [specD, TMS, h]
 | d :: l, ts, h => by
  unfold specD
  rw [List.all_cons]
  cases hd : DO1 d with
  | false => rfl
  | true =>
   have hne : d.Begun ≠ d.Ended := by
    simp only [DO1, Bool.and_eq_true, decide_eq_true_eq] at hd
    omega
   have e : ts ++ TMS (d :: l) = (ts ++ [d.Begun, d.Ended]) ++ TMS l := by simp [TMS]
   rw [e]
   cases hany : ts.any (fun t => t == d.Begun || t == d.Ended) with
   | true =>
    have hno : ¬ ((ts ++ [d.Begun, d.Ended]) ++ TMS l).Nodup := fun hn => by
     obtain ⟨t, ht, he⟩ := List.any_eq_true.1 hany
     have h2 := (List.nodup_append.1 (List.nodup_append.1 hn).1).2.2 t ht
     simp only [Bool.or_eq_true, beq_iff_eq] at he
     rcases he with he | he
     · exact h2 _ (by simp) he
     · exact h2 d.Ended (by simp) he
    rw [decide_eq_false hno]; simp
   | false =>
    have hn2 : (ts ++ [d.Begun, d.Ended]).Nodup := by
     refine List.nodup_append.2 ⟨h, by simp [hne], fun a ha b hb hab => ?_⟩
     have := List.any_eq_false.1 hany a ha
     simp only [Bool.or_eq_true, beq_iff_eq, not_or] at this
     subst hab
     simp at hb
     rcases hb with hb | hb
     · exact this.1 hb
     · exact this.2 hb
    rw [specD_eq l _ hn2]; simp
theorem spec_DeedsOk (l : List Deed) (h : ∀ d ∈ l, okDd d) : spec_DeedsOk.f l = some (DKK l) := by
 unfold spec_DeedsOk.f DKK
 by_cases hl : l.length ≤ 100
 · rw [if_neg (by simp; omega), decide_eq_true hl, Bool.true_and]
   have hr : ∀ (xs : List Deed) (ts : List Int), runL (σ := List Int) (fun ts d => if DO1 d && !(ts.any fun t => t == d.Begun || t == d.Ended) then .inl (ts ++ [d.Begun, d.Ended]) else .inr false) (fun _ => true) xs ts = specD xs ts := by
    intro xs
    induction xs with
    | nil => intro ts; rfl
    | cons d xs ih =>
     intro ts
     unfold runL specD
     cases hc : DO1 d && !(ts.any fun t => t == d.Begun || t == d.Ended) with
     | false => rfl
     | true => rw [if_pos rfl]; simpa using ih _
   have := iter_runL (body := spec_DeedsOk.b0 l) l (fun (ts : List Int) (k : Nat) => (ts, (k : Int))) (fun ts d => if DO1 d && !(ts.any fun t => t == d.Begun || t == d.Ended) then .inl (ts ++ [d.Begun, d.Ended]) else .inr false) (fun _ => true) (fun ts k => ts.length = 2 * k) (fun s k hk hI => ⟨?_, fun s' hs' => ?_⟩) (fun s hI => ?_) [] rfl
   · refine this.trans ?_
     rw [hr, specD_eq _ _ (by simp)]; simp
   · have hd := h _ (List.getElem_mem hk)
     generalize hdd : l[k] = d at hd
     have hrd := hd.2.1
     have hwr := hd.2.2
     have h3 : iter (spec_DeedsOk.b3 l (s, (k : Int))) (0 : Int) = some (if s.any (fun t => t == d.Begun || t == d.Ended) = true then .inr false else .inl (s ++ [d.Begun, d.Ended], (k : Int) + 1)) := by
      refine iter_test s _ _ _ (fun j hj => ?_) ?_
      · unfold spec_DeedsOk.b3
        simp only []
        rw [if_pos (show decide ((j : Int) < (s.length : Int)) = true by simp; omega), if_pos (show 0 ≤ (j : Int) ∧ (j : Int) < (s.length : Int) by omega), at_nat _ j hj, at_nat _ k hk, hdd]
        cases h1 : s[j] == d.Begun with
        | true => rfl
        | false =>
         rw [if_neg (by simp), if_pos (show 0 ≤ (j : Int) ∧ (j : Int) < (s.length : Int) by omega), Option.bind_some, Bool.false_or]
         cases h2 : s[j] == d.Ended with
         | true => rfl
         | false => rw [if_neg (by simp), if_neg (by simp), w64 (by omega) (by omega)]
      · unfold spec_DeedsOk.b3
        simp only []
        rw [if_neg (by simp), at_nat _ k hk, hdd, if_pos (by simp [Lim]; omega), if_pos (by simp [Lim]; omega), w64 (by omega) (by omega)]
        simp
     have h2 : iter (spec_DeedsOk.b2 l (s, (k : Int))) (0 : Int) = some (if d.Writes.any (fun x => !KOK x) = true then .inr false else if s.any (fun t => t == d.Begun || t == d.Ended) = true then .inr false else .inl (s ++ [d.Begun, d.Ended], (k : Int) + 1)) := by
      refine iter_test d.Writes _ _ _ (fun j hj => ?_) ?_
      · unfold spec_DeedsOk.b2
        simp only []
        rw [at_nat _ k hk, hdd, if_pos (show decide ((j : Int) < (d.Writes.length : Int)) = true by simp; omega), if_pos (show 0 ≤ (j : Int) ∧ (j : Int) < (d.Writes.length : Int) by omega), at_nat _ j hj, spec_KeyOk _ (hd.1.2.2.2.2.2 _ (List.getElem_mem hj)).2.2.1, Option.bind_some, w64 (by omega) (by omega)]
      · unfold spec_DeedsOk.b2
        simp only []
        rw [at_nat _ k hk, hdd, if_neg (by simp), h3]; rfl
     have h1 : iter (spec_DeedsOk.b1 l (s, (k : Int))) (0 : Int) = some (if d.Reads.any (fun x => !SPK x) = true then .inr false else if d.Writes.any (fun x => !KOK x) = true then .inr false else if s.any (fun t => t == d.Begun || t == d.Ended) = true then .inr false else .inl (s ++ [d.Begun, d.Ended], (k : Int) + 1)) := by
      refine iter_test d.Reads _ _ _ (fun j hj => ?_) ?_
      · unfold spec_DeedsOk.b1
        simp only []
        rw [at_nat _ k hk, hdd, if_pos (show decide ((j : Int) < (d.Reads.length : Int)) = true by simp; omega), if_pos (show 0 ≤ (j : Int) ∧ (j : Int) < (d.Reads.length : Int) by omega), at_nat _ j hj]
        rw [spec_SpanOk _ (hd.1.2.2.2.1.2 _ (List.getElem_mem hj)), Option.bind_some, w64 (by omega) (by omega)]
      · unfold spec_DeedsOk.b1
        simp only []
        rw [at_nat _ k hk, hdd, if_neg (by simp), h2]; rfl
     unfold spec_DeedsOk.b0
     simp only []
     rw [if_pos (by simp; omega), if_pos ⟨by omega, by omega⟩, h1, at_nat _ k hk, hdd]
     have ea : d.Reads.all SPK = !d.Reads.any (fun x => !SPK x) := by simp [List.any_eq_not_all_not]
     have eb : d.Writes.all KOK = !d.Writes.any (fun x => !KOK x) := by simp [List.any_eq_not_all_not]
     unfold DO1
     rw [ea, eb]
     by_cases c1 : d.Begun ≥ 1 ∧ d.Ended > d.Begun ∧ (d.Reads.length : Int) ≤ 200 ∧ (d.Writes.length : Int) ≤ 200
     · rw [if_neg (by simp; omega), decide_eq_true c1.1, decide_eq_true c1.2.1, decide_eq_true c1.2.2.1, decide_eq_true c1.2.2.2]
       cases d.Reads.any (fun x => !SPK x) <;> cases d.Writes.any (fun x => !KOK x) <;> cases s.any (fun t => t == d.Begun || t == d.Ended) <;> rfl
     · rw [if_pos (by simp; omega)]
       have : (decide (d.Begun ≥ 1) && decide (d.Ended > d.Begun) && decide ((d.Reads.length : Int) ≤ 200) && decide ((d.Writes.length : Int) ≤ 200)) = false := by
        cases hb : (decide (d.Begun ≥ 1) && decide (d.Ended > d.Begun) && decide ((d.Reads.length : Int) ≤ 200) && decide ((d.Writes.length : Int) ≤ 200)) with
        | false => rfl
        | true =>
         simp only [Bool.and_eq_true, decide_eq_true_eq] at hb
         exact absurd ⟨hb.1.1.1, hb.1.1.2, hb.1.2, hb.2⟩ c1
       revert this
       cases decide (d.Begun ≥ 1) <;> cases decide (d.Ended > d.Begun) <;> cases decide ((d.Reads.length : Int) ≤ 200) <;> cases decide ((d.Writes.length : Int) ≤ 200) <;> cases d.Reads.any (fun x => !SPK x) <;> cases d.Writes.any (fun x => !KOK x) <;> cases s.any (fun t => t == d.Begun || t == d.Ended) <;> intro this <;> first | rfl | cases this
   · split at hs'
     · simp only [Sum.inl.injEq] at hs'
       rw [← hs', List.length_append, hI]; simp; omega
     · cases hs'
   · unfold spec_DeedsOk.b0
     simp only []
     rw [if_neg (by simp)]; rfl
 · rw [if_pos (by simp; omega), decide_eq_false hl]; rfl
end Go.Proofs.YtbkiaccollbjnaaGreat
set_option linter.unusedVariables false
set_option linter.unusedSimpArgs false
set_option linter.unusedSectionVars false
namespace Go.Proofs.YtbkiaccollbjnaaGreat
open Go V Ieee
def HAS (ws : List Item) (k : Item) : Bool := ws.any fun a => ICM a k == 0
def RDS (d : Deed) (k : Item) : Bool := d.Reads.any fun s => INS s.From s.To k
def EDG (a b : Deed) : Bool := (decide (a.Ended < b.Ended) && a.Writes.any (HAS b.Writes)) || (decide (a.Ended < b.Begun) && a.Writes.any (RDS b)) || (decide (b.Ended > a.Begun) && b.Writes.any (RDS a))
structure VD (d : Deed) : Prop where
 ok : okDd d
 v : DO1 d = true
theorem VD.w {d : Deed} (h : VD d) : ∀ x ∈ d.Writes, ok_Item x ∧ KOK x = true := fun x hx => by
 have := h.v
 simp only [DO1, Bool.and_eq_true] at this
 exact ⟨h.ok.1.2.2.2.2.2 x hx, List.all_eq_true.1 this.2 x hx⟩
theorem VD.r {d : Deed} (h : VD d) : ∀ x ∈ d.Reads, ok_Span x := h.ok.1.2.2.2.1.2
theorem VD.wl {d : Deed} (h : VD d) : d.Writes.length ≤ 200 := by
 have := h.v
 simp only [DO1, Bool.and_eq_true, decide_eq_true_eq] at this
 omega
theorem VD.rl {d : Deed} (h : VD d) : d.Reads.length ≤ 200 := by
 have := h.v
 simp only [DO1, Bool.and_eq_true, decide_eq_true_eq] at this
 omega
theorem impl_writes (d : Deed) (k : Item) (h : VD d) (hk : ok_Item k) : impl_Deed_writes.f d k = some (HAS d.Writes k) := by
 unfold impl_Deed_writes.f
 rw [cntItem _ (by have := h.wl; omega) _ (fun a => ICM a k == 0) (fun x hx => by unfold impl_Deed_writes_1.f; rw [impl_compareItems _ _ (h.w x hx).1 hk]; rfl)]; rfl
theorem impl_readsKey (d : Deed) (k : Item) (h : VD d) (hk : ok_Item k) : impl_Deed_readsKey.f d k = some (RDS d k) := by
 unfold impl_Deed_readsKey.f
 rw [cntSpan _ (by have := h.rl; omega) _ (fun s => INS s.From s.To k) (fun x hx => by
  unfold impl_Deed_readsKey_1.f impl_Span_has.f
  rw [impl_InSpan _ _ _ (h.r x hx).1 (h.r x hx).2 hk]; rfl)]; rfl
theorem impl_isAhead (a b : Deed) (ha : VD a) (hb : VD b) : impl_isAhead.f a b = some (EDG a b) := by
 unfold impl_isAhead.f EDG
 rw [cntItem _ (by have := ha.wl; omega) _ (HAS b.Writes) (fun x hx => impl_writes b x hb (ha.w x hx).1), cntItem _ (by have := ha.wl; omega) _ (RDS b) (fun x hx => impl_readsKey b x hb (ha.w x hx).1), cntItem _ (by have := hb.wl; omega) _ (RDS a) (fun x hx => impl_readsKey a x ha (hb.w x hx).1)]
 cases decide (a.Ended < b.Ended) <;> cases decide (a.Ended < b.Begun) <;> cases decide (b.Ended > a.Begun) <;> cases a.Writes.any (HAS b.Writes) <;> cases a.Writes.any (RDS b) <;> cases b.Writes.any (RDS a) <;> rfl
theorem spec_has (ws : List Item) (k : Item) (hl : ws.length ≤ 1048576) (hw : ∀ x ∈ ws, ok_Item x ∧ KOK x = true) (hk : ok_Item k) (vk : KOK k = true) : spec_l13has.f ws k = some (HAS ws k) := by
 unfold spec_l13has.f HAS
 refine (iter_test ws (fun a => ICM a k == 0) true false (fun j hj => ?_) ?_).trans ?_
 · unfold spec_l13has.b0
   rw [if_pos (show decide ((j : Int) < (ws.length : Int)) = true by simp; omega), if_pos (show 0 ≤ (j : Int) ∧ (j : Int) < (ws.length : Int) by omega), at_nat _ j hj, spec_ItemCompare _ _ (hw _ (List.getElem_mem hj)).1 hk (kok_iok (hw _ (List.getElem_mem hj)).2) (kok_iok vk), Option.bind_some, w64 (by omega) (by omega)]
 · unfold spec_l13has.b0
   rw [if_neg (by simp)]; rfl
 · cases ws.any (fun a => ICM a k == 0) <;> rfl
theorem spec_reads (d : Deed) (k : Item) (h : VD d) (hk : ok_Item k) : spec_l14reads.f d k = some (RDS d k) := by
 have hl := h.rl
 unfold spec_l14reads.f RDS
 refine (iter_test d.Reads (fun s => INS s.From s.To k) true false (fun j hj => ?_) ?_).trans ?_
 · unfold spec_l14reads.b0
   rw [if_pos (show decide ((j : Int) < (d.Reads.length : Int)) = true by simp; omega), if_pos (show 0 ≤ (j : Int) ∧ (j : Int) < (d.Reads.length : Int) by omega), if_pos (show 0 ≤ (j : Int) ∧ (j : Int) < (d.Reads.length : Int) by omega), at_nat _ j hj, spec_InSpan _ _ _ (h.r _ (List.getElem_mem hj)).1 (h.r _ (List.getElem_mem hj)).2 hk, Option.bind_some, w64 (by omega) (by omega)]
 · unfold spec_l14reads.b0
   rw [if_neg (by simp)]; rfl
 · cases d.Reads.any (fun s => INS s.From s.To k) <;> rfl
theorem anyOr {α : Type} (f g : α → Bool) (l : List α) : l.any (fun x => f x || g x) = (l.any f || l.any g) := by
 induction l with
 | nil => rfl
 | cons x l ih =>
  simp only [List.any_cons, ih]
  cases f x <;> cases g x <;> cases l.any f <;> rfl
theorem spec_edge (a b : Deed) (ha : VD a) (hb : VD b) : spec_l14edge.f a b = some (EDG a b) := by
 have hal := ha.wl
 have hbl := hb.wl
 unfold spec_l14edge.f
 have h1 : iter (spec_l14edge.b1 a b) (0 : Int) = some (if b.Writes.any (fun x => decide (b.Ended > a.Begun) && RDS a x) = true then true else false) := by
  refine iter_test b.Writes _ _ _ (fun j hj => ?_) ?_
  · unfold spec_l14edge.b1
    rw [if_pos (show decide ((j : Int) < (b.Writes.length : Int)) = true by simp; omega), if_pos (show 0 ≤ (j : Int) ∧ (j : Int) < (b.Writes.length : Int) by omega), at_nat _ j hj, spec_reads a _ ha (hb.w _ (List.getElem_mem hj)).1, w64 (by omega) (by omega)]
    cases decide (b.Ended > a.Begun) <;> cases RDS a b.Writes[j] <;> rfl
  · unfold spec_l14edge.b1
    rw [if_neg (by simp)]; rfl
 have h0 : iter (spec_l14edge.b0 a b) (0 : Int) = some (if a.Writes.any (fun x => (decide (a.Ended < b.Ended) && HAS b.Writes x) || (decide (a.Ended < b.Begun) && RDS b x)) = true then true else if b.Writes.any (fun x => decide (b.Ended > a.Begun) && RDS a x) = true then true else false) := by
  refine iter_test a.Writes _ _ _ (fun j hj => ?_) ?_
  · unfold spec_l14edge.b0
    have hw := ha.w _ (List.getElem_mem hj)
    rw [if_pos (show decide ((j : Int) < (a.Writes.length : Int)) = true by simp; omega), if_pos (show 0 ≤ (j : Int) ∧ (j : Int) < (a.Writes.length : Int) by omega), if_pos (show 0 ≤ (j : Int) ∧ (j : Int) < (a.Writes.length : Int) by omega), at_nat _ j hj, spec_reads b _ hb hw.1, spec_has _ _ (by omega) hb.w hw.1 hw.2, w64 (by omega) (by omega)]
    cases decide (a.Ended < b.Ended) <;> cases decide (a.Ended < b.Begun) <;> cases HAS b.Writes a.Writes[j] <;> cases RDS b a.Writes[j] <;> rfl
  · unfold spec_l14edge.b0
    rw [if_neg (by simp), h1]; rfl
 rw [h0]
 unfold EDG
 have e1 : a.Writes.any (fun x => (decide (a.Ended < b.Ended) && HAS b.Writes x) || (decide (a.Ended < b.Begun) && RDS b x)) = ((decide (a.Ended < b.Ended) && a.Writes.any (HAS b.Writes)) || (decide (a.Ended < b.Begun) && a.Writes.any (RDS b))) := by
  rw [anyOr]
  cases decide (a.Ended < b.Ended) <;> cases decide (a.Ended < b.Begun) <;> simp
 have e2 : b.Writes.any (fun x => decide (b.Ended > a.Begun) && RDS a x) = (decide (b.Ended > a.Begun) && b.Writes.any (RDS a)) := by
  cases decide (b.Ended > a.Begun) <;> simp
 rw [e1, e2]
 cases ((decide (a.Ended < b.Ended) && a.Writes.any (HAS b.Writes)) || (decide (a.Ended < b.Begun) && a.Writes.any (RDS b))) <;> cases (decide (b.Ended > a.Begun) && b.Writes.any (RDS a)) <;> rfl
section
variable (l : List Deed)
def AB (a b : Nat) : Bool := decide (a ≠ b) && EDG (at_ l (a : Int)) (at_ l (b : Int))
def AHp (b k : Nat) : List Int := ((List.range k).filter fun a => AB l a b).map fun a : Nat => (a : Int)
def AH : List (List Int) := (List.range l.length).map fun b => AHp l b l.length
theorem ahp_succ (b k : Nat) : AHp l b (k + 1) = if AB l k b = true then AHp l b k ++ [(k : Int)] else AHp l b k := by
 unfold AHp
 rw [List.range_succ, List.filter_append, List.map_append]
 cases h : AB l k b <;> simp [h]
theorem ahp_len (b k : Nat) : (AHp l b k).length ≤ k := by
 unfold AHp
 rw [List.length_map]
 exact Nat.le_trans (List.length_filter_le _ _) (by simp)
def AHs (b k : Nat) : List (List Int) := (List.range l.length).map fun j => if j < b then AHp l j l.length else if j = b then AHp l j k else []
theorem ahs_len (b k : Nat) : (AHs l b k).length = l.length := by simp [AHs]
theorem ahs_at (b k : Nat) (hb : b < l.length) : at_ (AHs l b k) (b : Int) = AHp l b k := by
 rw [at_nat _ b (by rw [ahs_len]; exact hb)]; simp [AHs]
theorem ahs_set (b k : Nat) (hb : b < l.length) : (AHs l b k).set b (AHp l b (k + 1)) = AHs l b (k + 1) := by
 apply List.ext_getElem?
 intro j
 by_cases hj : j = b
 · subst hj
   rw [List.getElem?_set_self (by rw [ahs_len]; exact hb)]
   simp [AHs, hb]
 · rw [List.getElem?_set_ne (by omega)]
   simp only [AHs, List.getElem?_map]
   by_cases hjl : j < l.length
   · rw [List.getElem?_range hjl]; simp [hj]
   · rw [List.getElem?_eq_none (by simp; omega)]; rfl
theorem ahs_same (b k : Nat) (hb : b < l.length) (h : AB l k b = false) : AHs l b k = AHs l b (k + 1) := by
 rw [← ahs_set l b k hb, ahp_succ, h]
 simp only [Bool.false_eq_true, if_false]
 rw [← ahs_at l b k hb, at_nat _ b (by rw [ahs_len]; exact hb), List.set_getElem_self]
theorem ahs_next (b : Nat) : AHs l b l.length = AHs l (b + 1) 0 := by
 unfold AHs
 refine List.map_congr_left fun j hj => ?_
 by_cases h1 : j < b
 · rw [if_pos h1, if_pos (by omega)]
 · by_cases h2 : j = b
   · subst h2; rw [if_neg h1, if_pos rfl, if_pos (by omega)]
   · rw [if_neg h1, if_neg h2, if_neg (by omega)]
     by_cases h3 : j = b + 1
     · rw [if_pos h3]; rfl
     · rw [if_neg h3]
theorem ahs_start : AHs l 0 0 = List.replicate l.length [] := by
 apply List.ext_getElem?
 intro j
 simp only [AHs, List.getElem?_map]
 by_cases hjl : j < l.length
 · rw [List.getElem?_range hjl, List.getElem?_replicate, if_pos hjl]
   by_cases h : j = 0
   · subst h; rfl
   · simp [h]
 · rw [List.getElem?_eq_none (by simp; omega), List.getElem?_replicate, if_neg hjl]; rfl
theorem ahs_end : AHs l l.length 0 = AH l := by
 unfold AHs AH
 refine List.map_congr_left fun j hj => ?_
 rw [if_pos (List.mem_range.1 hj)]
variable (hv : ∀ d ∈ l, VD d) (hl : l.length ≤ 100)
include hv hl
theorem impl_ahead : impl_ahead.f l = some (AH l) := by
 unfold impl_ahead.f
 rw [if_pos ⟨by omega, by simp only [Lim]; omega⟩]
 have hin : ∀ b, b < l.length → iter (impl_ahead.b1 l (AHs l b 0, (b : Int))) (AHs l b 0, (0 : Int)) = some (.inl (AHs l (b + 1) 0, ((b + 1 : Nat) : Int))) := fun b hb => by
  have := iter_for (body := impl_ahead.b1 l (AHs l b 0, (b : Int))) l.length (fun k => (AHs l b k, (k : Int))) (.inl (AHs l (b + 1) 0, ((b + 1 : Nat) : Int))) (fun k hk => ?_) ?_
  · exact this
  · unfold impl_ahead.b1
    simp only []
    rw [if_pos (show decide ((k : Int) < (l.length : Int)) = true by simp; omega)]
    have hm : ∀ j (hj : j < l.length), at_ l (j : Int) ∈ l := fun j hj => by rw [at_nat _ j hj]; exact List.getElem_mem _
    have hlen := ahp_len l b k
    by_cases hkb : k = b
    · subst hkb
      rw [if_neg (by simp), Option.bind_some, if_neg (by decide), Option.bind_some, ahs_same l k k hk (by simp [AB]), w64 (by omega) (by omega)]; rfl
    · rw [if_pos (show ((k : Int) != (b : Int)) = true by simp; omega), if_pos (show 0 ≤ (k : Int) ∧ (k : Int) < (l.length : Int) by omega), if_pos (show 0 ≤ (b : Int) ∧ (b : Int) < (l.length : Int) by omega), impl_isAhead _ _ (hv _ (hm k hk)) (hv _ (hm b hb)), Option.bind_some, Option.bind_some]
      have hab : AB l k b = EDG (at_ l (k : Int)) (at_ l (b : Int)) := by simp [AB, hkb]
      cases he : EDG (at_ l (k : Int)) (at_ l (b : Int)) with
      | false =>
       rw [he] at hab
       rw [if_neg (by decide), Option.bind_some, ahs_same l b k hb hab, w64 (by omega) (by omega)]; rfl
      | true =>
       rw [he] at hab
       rw [if_pos rfl, if_pos (by rw [ahs_len]; omega), ahs_at l b k hb, if_pos (by simp [Lim]; omega), if_pos (by rw [ahs_len]; omega), Option.bind_some, w64 (by omega) (by omega)]
       have hst : (AHs l b k).set (b : Int).toNat (AHp l b k ++ [(k : Int)]) = AHs l b (k + 1) := by
        rw [← ahs_set l b k hb, ahp_succ, hab, if_pos rfl]; simp
       rw [hst]; rfl
  · unfold impl_ahead.b1
    simp only []
    rw [if_neg (by simp), w64 (by omega) (by omega), ahs_next]; rfl
 have := iter_for (body := impl_ahead.b0 l) l.length (fun b => (AHs l b 0, (b : Int))) (AH l) (fun b hb => ?_) ?_
 · have e : List.replicate ((l.length : Int)).toNat ([] : List Int) = AHs l 0 0 := by rw [ahs_start]; simp
   rw [e]; exact this
 · unfold impl_ahead.b0
   simp only []
   rw [if_pos (show decide ((b : Int) < (l.length : Int)) = true by simp; omega), hin b hb]
 · unfold impl_ahead.b0
   simp only []
   rw [if_neg (by simp), ahs_end]; rfl
def EP (a k : Nat) : List A2Int := ((List.range k).filter fun b => AB l a b).map fun b : Nat => A2Int.mk (a : Int) (b : Int)
def EDs (m : Nat) : List A2Int := (List.range m).flatMap fun a => EP l a l.length
omit hv hl in
theorem ep_succ (a k : Nat) : EP l a (k + 1) = if AB l a k = true then EP l a k ++ [A2Int.mk (a : Int) (k : Int)] else EP l a k := by
 unfold EP
 rw [List.range_succ, List.filter_append, List.map_append]
 cases h : AB l a k <;> simp [h]
omit hv hl in
theorem ep_len (a k : Nat) : (EP l a k).length ≤ k := by
 unfold EP
 rw [List.length_map]
 exact Nat.le_trans (List.length_filter_le _ _) (by simp)
omit hv hl in
theorem eds_succ (m : Nat) : EDs l (m + 1) = EDs l m ++ EP l m l.length := by
 unfold EDs
 rw [List.range_succ, List.flatMap_append]; simp
omit hv in
theorem eds_len (m : Nat) : (EDs l m).length ≤ 100 * m := by
 induction m with
 | zero => simp [EDs]
 | succ m ih =>
  rw [eds_succ, List.length_append]
  have := ep_len l m l.length
  omega
end
end Go.Proofs.YtbkiaccollbjnaaGreat
set_option linter.unusedVariables false
set_option linter.unusedSimpArgs false
set_option linter.unusedSectionVars false
namespace Go.Proofs.YtbkiaccollbjnaaGreat
open Go V Ieee
section
variable (l : List Deed) (hv : ∀ d ∈ l, VD d) (hl : l.length ≤ 100)
include hv hl
theorem spec_edges_loop : iter (spec_GraphEdges.b0 l) (([] : List A2Int), (0 : Int)) = some (EDs l l.length) := by
 have hin : ∀ a, a < l.length → iter (spec_GraphEdges.b1 l (EDs l a, (a : Int))) (EDs l a, (0 : Int)) = some (.inl (EDs l (a + 1), ((a + 1 : Nat) : Int))) := fun a ha => by
  have hel := eds_len l hl a
  have := iter_for (body := spec_GraphEdges.b1 l (EDs l a, (a : Int))) l.length (fun k => (EDs l a ++ EP l a k, (k : Int))) (.inl (EDs l (a + 1), ((a + 1 : Nat) : Int))) (fun k hk => ?_) ?_
  · have e : EP l a 0 = [] := rfl
    rw [e, List.append_nil] at this
    exact this
  · unfold spec_GraphEdges.b1
    simp only []
    rw [if_pos (show decide ((k : Int) < (l.length : Int)) = true by simp; omega)]
    have hm : ∀ j (hj : j < l.length), at_ l (j : Int) ∈ l := fun j hj => by rw [at_nat _ j hj]; exact List.getElem_mem _
    have hlen := ep_len l a k
    by_cases hkb : a = k
    · subst hkb
      rw [if_neg (by simp), Option.bind_some, if_neg (by decide), Option.bind_some, ep_succ, show AB l a a = false by simp [AB], w64 (by omega) (by omega)]; rfl
    · rw [if_pos (show ((a : Int) != (k : Int)) = true by simp; omega), if_pos (show 0 ≤ (a : Int) ∧ (a : Int) < (l.length : Int) by omega), if_pos (show 0 ≤ (k : Int) ∧ (k : Int) < (l.length : Int) by omega), spec_edge _ _ (hv _ (hm a ha)) (hv _ (hm k hk)), Option.bind_some, Option.bind_some]
      have hab : AB l a k = EDG (at_ l (a : Int)) (at_ l (k : Int)) := by simp [AB, hkb]
      rw [ep_succ, hab]
      cases he : EDG (at_ l (a : Int)) (at_ l (k : Int)) with
      | false => rw [if_neg (by decide), if_neg (by decide), Option.bind_some, w64 (by omega) (by omega)]; rfl
      | true => rw [if_pos rfl, if_pos rfl, if_pos (by simp [Lim]; omega), Option.bind_some, w64 (by omega) (by omega), List.append_assoc]; rfl
  · unfold spec_GraphEdges.b1
    simp only []
    rw [if_neg (by simp), w64 (by omega) (by omega), eds_succ]; rfl
 have := iter_for (body := spec_GraphEdges.b0 l) l.length (fun a => (EDs l a, (a : Int))) (EDs l l.length) (fun a ha => ?_) ?_
 · exact this
 · unfold spec_GraphEdges.b0
   simp only []
   rw [if_pos (show decide ((a : Int) < (l.length : Int)) = true by simp; omega), hin a ha]
 · unfold spec_GraphEdges.b0
   simp only []
   rw [if_neg (by simp)]; rfl
end
section
variable (l : List Deed)
end
section
variable (l : List Deed) (hv : ∀ d ∈ l, VD d) (hl : l.length ≤ 100)
include hl
end
end Go.Proofs.YtbkiaccollbjnaaGreat
set_option linter.unusedVariables false
set_option linter.unusedSimpArgs false
set_option linter.unusedSectionVars false
namespace Go.Proofs.YtbkiaccollbjnaaGreat
open Go V Ieee
theorem dkk_v (l : List Deed) (hd : ∀ d ∈ l, okDd d) (h : DKK l = true) : (∀ d ∈ l, VD d) ∧ l.length ≤ 100 := by
 simp only [DKK, Bool.and_eq_true, decide_eq_true_eq] at h
 exact ⟨fun d hm => ⟨hd d hm, List.all_eq_true.1 h.1.2 d hm⟩, h.1.1⟩
section
variable (l : List Deed)
theorem mem_ahp {a b : Nat} (ha : a < l.length) (h : AB l a b = true) : (a : Int) ∈ AHp l b l.length :=
 List.mem_map.2 ⟨a, List.mem_filter.2 ⟨List.mem_range.2 ha, h⟩, rfl⟩
theorem ahp_ab {x : Int} {b : Nat} (h : x ∈ AHp l b l.length) : ∃ a : Nat, x = a ∧ a < l.length ∧ AB l a b = true := by
 obtain ⟨a, ha, e⟩ := List.mem_map.1 h
 obtain ⟨h1, h2⟩ := List.mem_filter.1 ha
 exact ⟨a, e.symm, List.mem_range.1 h1, h2⟩
theorem mem_eds {e : A2Int} (h : e ∈ EDs l l.length) : ∃ a b : Nat, a < l.length ∧ b < l.length ∧ AB l a b = true ∧ e = A2Int.mk (a : Int) (b : Int) := by
 obtain ⟨a, ha, he⟩ := List.mem_flatMap.1 h
 obtain ⟨b, hb, e'⟩ := List.mem_map.1 he
 obtain ⟨h1, h2⟩ := List.mem_filter.1 hb
 exact ⟨a, b, List.mem_range.1 ha, List.mem_range.1 h1, h2, e'.symm⟩
theorem eds_mem {a b : Nat} (ha : a < l.length) (hb : b < l.length) (h : AB l a b = true) : A2Int.mk (a : Int) (b : Int) ∈ EDs l l.length :=
 List.mem_flatMap.2 ⟨a, List.mem_range.2 ha, List.mem_map.2 ⟨b, List.mem_filter.2 ⟨List.mem_range.2 hb, h⟩, rfl⟩⟩
end
end Go.Proofs.YtbkiaccollbjnaaGreat
set_option linter.unusedVariables false
set_option linter.unusedSimpArgs false
set_option linter.unusedSectionVars false
namespace Go.Proofs.YtbkiaccollbjnaaGreat
open Go V Ieee
theorem sorted_uniq {α : Type} {le : α → α → Bool} (ha : ∀ a b, le a b = true → le b a = true → a = b) : ∀ {l1 l2 : List α}, l1.Pairwise (fun a b => le a b = true) → l2.Pairwise (fun a b => le a b = true) → l1.Perm l2 → l1 = l2
 | [], l2, _, _, h => by rw [List.nil_perm.1 h]
 | a :: l1, [], _, _, h => by have := h.length_eq; simp at this
 | a :: l1, b :: l2, h1, h2, h => by
  obtain ⟨h3, h4⟩ := List.pairwise_cons.1 h1
  obtain ⟨h5, h6⟩ := List.pairwise_cons.1 h2
  have e : a = b := by
   have ma : a ∈ b :: l2 := h.mem_iff.1 (by simp)
   have mb : b ∈ a :: l1 := h.mem_iff.2 (by simp)
   rcases List.mem_cons.1 ma with e | ma
   · exact e
   · rcases List.mem_cons.1 mb with e | mb
     · exact e.symm
     · exact ha a b (h3 b mb) (h5 a ma)
  subst e
  rw [sorted_uniq ha h4 h6 (List.perm_cons a |>.1 h)]
theorem nodup_perm {α : Type} [DecidableEq α] {l1 l2 : List α} (h1 : l1.Nodup) (h2 : l2.Nodup) (h : ∀ a, a ∈ l1 ↔ a ∈ l2) : l1.Perm l2 := by
 rw [List.perm_iff_count]
 intro a
 rw [h1.count, h2.count]
 by_cases hm : a ∈ l1
 · rw [if_pos hm, if_pos ((h a).1 hm)]
 · rw [if_neg hm, if_neg (fun h' => hm ((h a).2 h'))]
theorem nodup_flat {α β : Type} {f : α → List β} (g : β → α) (hf : ∀ a, (f a).Nodup) (hg : ∀ a, ∀ b ∈ f a, g b = a) : ∀ {l : List α}, l.Nodup → (l.flatMap f).Nodup
 | [], _ => by simp
 | a :: l, h => by
  obtain ⟨h1, h2⟩ := List.nodup_cons.1 h
  rw [List.flatMap_cons, List.nodup_append]
  refine ⟨hf a, nodup_flat g hf hg h2, fun x hx y hy e => ?_⟩
  subst e
  obtain ⟨b, hb, hxb⟩ := List.mem_flatMap.1 hy
  have := hg a x hx
  rw [hg b x hxb] at this
  subst this
  exact h1 hb
section
variable (l : List Deed)
def E1 (m : Nat) : List A2Int := (List.range m).flatMap fun b => (AHp l b l.length).map fun a => A2Int.mk a (b : Int)
theorem mem_e1 (e : A2Int) : e ∈ E1 l l.length ↔ ∃ a b : Nat, a < l.length ∧ b < l.length ∧ AB l a b = true ∧ e = A2Int.mk (a : Int) (b : Int) := by
 constructor
 · intro h
   obtain ⟨b, hb, he⟩ := List.mem_flatMap.1 h
   obtain ⟨x, hx, e'⟩ := List.mem_map.1 he
   obtain ⟨a, rfl, ha, hab⟩ := ahp_ab l hx
   exact ⟨a, b, ha, List.mem_range.1 hb, hab, e'.symm⟩
 · rintro ⟨a, b, ha, hb, hab, rfl⟩
   exact List.mem_flatMap.2 ⟨b, List.mem_range.2 hb, List.mem_map.2 ⟨(a : Int), mem_ahp l ha hab, rfl⟩⟩
theorem cast_nodup (xs : List Nat) (h : xs.Nodup) : (xs.map fun a : Nat => (a : Int)).Nodup := by
 rw [List.nodup_iff_pairwise_ne] at *
 rw [List.pairwise_map]
 exact h.imp fun hne e => hne (by omega)
theorem e1_nodup : (E1 l l.length).Nodup := by
 refine nodup_flat (g := fun e => e.e1.toNat) (fun b => ?_) (fun b e he => ?_) List.nodup_range
 · rw [List.nodup_iff_pairwise_ne, List.pairwise_map]
   have := cast_nodup ((List.range l.length).filter fun a => AB l a b) (List.nodup_range.filter _)
   rw [List.nodup_iff_pairwise_ne] at this
   exact this.imp fun hne e => hne (by injection e)
 · obtain ⟨x, _, rfl⟩ := List.mem_map.1 he
   simp
theorem eds_pair : (EDs l l.length).Pairwise (fun x y => x.e0 < y.e0 ∨ x.e0 = y.e0 ∧ x.e1 < y.e1) := by
 unfold EDs
 have key : ∀ xs : List Nat, xs.Pairwise (· < ·) → (xs.flatMap fun a => EP l a l.length).Pairwise (fun x y => x.e0 < y.e0 ∨ x.e0 = y.e0 ∧ x.e1 < y.e1) := by
  intro xs
  induction xs with
  | nil => intro _; simp
  | cons a xs ih =>
   intro h
   obtain ⟨h1, h2⟩ := List.pairwise_cons.1 h
   rw [List.flatMap_cons, List.pairwise_append]
   refine ⟨?_, ih h2, fun x hx y hy => ?_⟩
   · unfold EP
     rw [List.pairwise_map]
     exact (List.pairwise_lt_range.filter _).imp fun hlt => Or.inr ⟨rfl, Int.ofNat_lt.2 hlt⟩
   · obtain ⟨b, hb, hy⟩ := List.mem_flatMap.1 hy
     obtain ⟨c, _, rfl⟩ := List.mem_map.1 hx
     obtain ⟨d, _, rfl⟩ := List.mem_map.1 hy
     have := h1 b hb
     exact Or.inl (by show (a : Int) < (b : Int); omega)
 exact key _ List.pairwise_lt_range
theorem e1_perm : (E1 l l.length).Perm (EDs l l.length) := by
 refine nodup_perm (e1_nodup l) ?_ fun e => ?_
 · rw [List.nodup_iff_pairwise_ne]
   exact (eds_pair l).imp fun h e => by subst e; rcases h with h | h <;> omega
 · rw [mem_e1]
   constructor
   · rintro ⟨a, b, ha, hb, hab, rfl⟩
     exact eds_mem l ha hb hab
   · exact mem_eds l
end
end Go.Proofs.YtbkiaccollbjnaaGreat
set_option linter.unusedVariables false
set_option linter.unusedSimpArgs false
set_option linter.unusedSectionVars false
namespace Go.Proofs.YtbkiaccollbjnaaGreat
open Go V
def Ok {α : Type} (m : Option α) (P : α → Prop) : Prop := ∃ r, m = some r ∧ P r
section
variable {α β S O : Type} {P : α → Prop} {Q : β → Prop}
theorem Ok.ret {x : α} (h : P x) : Ok (some x) P := ⟨x, rfl, h⟩
theorem Ok.eq {m : Option α} {x : α} (e : m = some x) (h : P x) : Ok m P := ⟨x, e, h⟩
theorem Ok.bind {m : Option α} {k : α → Option β} (h : Ok m P) (hk : ∀ r, P r → Ok (k r) Q) : Ok (m.bind k) Q := by
 obtain ⟨r, rfl, hp⟩ := h
 exact hk r hp
theorem Ok.mono {P' : α → Prop} {m : Option α} (h : Ok m P) (hk : ∀ r, P r → P' r) : Ok m P' := by
 obtain ⟨r, e, hp⟩ := h
 exact ⟨r, e, hk r hp⟩
theorem Ok.ite {c : Bool} {m n : Option α} (h1 : c = true → Ok m P) (h2 : c = false → Ok n P) : Ok (if c = true then m else n) P := by
 cases c with
 | true => exact h1 rfl
 | false => exact h2 rfl
theorem Ok.grd {c : Prop} [Decidable c] {m n : Option α} (hc : c) (h : Ok m P) : Ok (if c then m else n) P := by rw [if_pos hc]; exact h
theorem Ok.out {m : Option O} {R : S → Prop} {Q : O → Prop} (h : Ok m Q) : Ok (m.bind fun o => some (Sum.inr o)) (Sum.elim R Q) := by
 obtain ⟨r, rfl, hp⟩ := h
 exact ⟨_, rfl, hp⟩
theorem Ok.iter {body : S → Option (S ⊕ O)} {Q : O → Prop} (Inv : S → Prop) (μ : S → Nat) (h : ∀ s, Inv s → Ok (body s) (Sum.elim (fun s' => Inv s' ∧ μ s' < μ s) Q)) : ∀ s, Inv s → Ok (iter body s) Q := by
 have key : ∀ n s, μ s < n → Inv s → Ok (V.iter body s) Q := by
  intro n
  induction n with
  | zero => intro s hs; omega
  | succ n ih =>
   intro s hs hi
   obtain ⟨r, e, hr⟩ := h s hi
   rw [iter_eq, e]
   cases r with
   | inl s' => exact ih s' (by have := hr.2; omega) hr.1
   | inr o => exact ⟨o, rfl, hr⟩
 intro s hi
 exact key _ s (Nat.lt_succ_self _) hi
end
end Go.Proofs.YtbkiaccollbjnaaGreat
set_option linter.unusedVariables false
set_option linter.unusedSimpArgs false
set_option linter.unusedSectionVars false
namespace Go.Proofs.YtbkiaccollbjnaaGreat
open Go V Ieee
theorem le_iff (x y : A2Int) : pairLe x y = true ↔ ¬ (y.e0 < x.e0 ∨ y.e0 = x.e0 ∧ y.e1 < x.e1) := by
 unfold pairLe
 rw [pair_lt, Bool.not_eq_true', decide_eq_false_iff_not]
theorem sort_edges (l : List Deed) : (E1 l l.length).mergeSort pairLe = EDs l l.length := by
 refine sorted_uniq (le := pairLe) (fun p q h1 h2 => ?_) (List.pairwise_mergeSort (fun a b c h1 h2 => ?_) (fun a b => ?_) _) ?_ ((List.mergeSort_perm _ _).trans (e1_perm l))
 · rw [le_iff] at h1 h2
   obtain ⟨a, b⟩ := p
   obtain ⟨c, d⟩ := q
   simp only [] at h1 h2
   have e1 : a = c := by omega
   have e2 : b = d := by omega
   rw [e1, e2]
 · rw [le_iff] at *
   omega
 · rw [Bool.or_eq_true, le_iff, le_iff]
   omega
 · exact (eds_pair l).imp fun h => by rw [le_iff]; omega
theorem e1_succ (l : List Deed) (m : Nat) : E1 l (m + 1) = E1 l m ++ (AHp l m l.length).map fun a => A2Int.mk a (m : Int) := by
 unfold E1
 rw [List.range_succ, List.flatMap_append]
 simp
theorem e1_len (l : List Deed) (hl : l.length ≤ 100) : ∀ m, (E1 l m).length ≤ 100 * m
 | 0 => by simp [E1]
 | m + 1 => by
  have h1 := e1_len l hl m
  have h2 := ahp_len l m l.length
  rw [e1_succ, List.length_append, List.length_map]
  omega
theorem impl_edges (l : List Deed) (hd : ∀ d ∈ l, okDd d) (hk : DKK l = true) : impl_GraphEdges.f l = some (EDs l l.length) := by
 obtain ⟨hv, hl⟩ := dkk_v l hd hk
 unfold impl_GraphEdges.f
 rw [impl_DeedsOk l hd, Option.bind_some, hk, if_neg (by decide), impl_ahead l hv hl, Option.bind_some]
 have hal : (AH l).length = l.length := by simp [AH]
 have key : Ok (iter (impl_GraphEdges.b0 (AH l)) (([] : List A2Int), (0 : Int))) fun r => r = EDs l l.length := by
  refine Ok.iter (fun s => ∃ b : Nat, s.2 = (b : Int) ∧ b ≤ l.length ∧ s.1 = E1 l b) (fun s => l.length - s.2.toNat) (fun s hs => ?_) _ ⟨0, rfl, by omega, rfl⟩
  obtain ⟨out, s2⟩ := s
  obtain ⟨b, hb, hbl, ho⟩ := hs
  simp only [] at hb ho
  subst hb; subst ho
  unfold impl_GraphEdges.b0
  simp only []
  rw [hal]
  have hE := e1_len l hl b
  refine Ok.ite (fun hc => ?_) fun hc => Ok.out ?_
  · have hb : b < l.length := by simpa using hc
    refine Ok.grd (by omega) ?_
    have hat : at_ (AH l) (b : Int) = AHp l b l.length := by
     rw [at_nat _ b (by omega)]; simp [AH]
    have hlen := ahp_len l b l.length
    refine Ok.iter (fun (s : List A2Int × Int) => ∃ j : Nat, s.2 = (j : Int) ∧ j ≤ (AHp l b l.length).length ∧ s.1 = E1 l b ++ ((AHp l b l.length).take j).map fun a => A2Int.mk a (b : Int)) (fun s => (AHp l b l.length).length - s.2.toNat) (fun s hs => ?_) _ ⟨0, rfl, by omega, by simp⟩
    obtain ⟨out, s2⟩ := s
    obtain ⟨j, hj, hjl, ho⟩ := hs
    simp only [] at hj ho
    subst hj; subst ho
    unfold impl_GraphEdges.b1
    simp only []
    rw [hat]
    refine Ok.ite (fun hc => ?_) fun hc => Ok.out ?_
    · have hj : j < (AHp l b l.length).length := by simpa using hc
      refine Ok.grd (by omega) (Ok.grd (by simp only [Lim, List.length_append, List.length_map, List.length_take, List.length_singleton]; omega) (Ok.ret ⟨⟨j + 1, by rw [w64 (by omega) (by omega)]; simp, by omega, ?_⟩, ?_⟩))
      · simp only []
        rw [at_nat _ j hj, List.take_succ_eq_append_getElem hj, List.map_append, List.append_assoc]; rfl
      · simp only []
        rw [w64 (by omega) (by omega)]
        omega
    · have hje : j = (AHp l b l.length).length := by simp at hc; omega
      subst hje
      refine Ok.ret ⟨⟨b + 1, by rw [w64 (by omega) (by omega)]; simp, by omega, ?_⟩, ?_⟩
      · simp only []
        rw [e1_succ, List.take_length]
      · simp only []
        rw [w64 (by omega) (by omega)]
        omega
  · have hbe : b = l.length := by simp at hc; omega
    subst hbe
    unfold slices_SortFunc_2_int_2_int.f
    rw [if_pos (by omega), Option.bind_some, sort_edges]
    exact Ok.ret rfl
 obtain ⟨r, e, rfl⟩ := key
 exact e
theorem impl_GraphEdges (l : List Deed) (hd : ∀ d ∈ l, okDd d) : impl_GraphEdges.f l = some (if DKK l = true then EDs l l.length else []) := by
 cases hk : DKK l with
 | true => rw [impl_edges l hd hk, if_pos rfl]
 | false =>
  unfold impl_GraphEdges.f
  rw [impl_DeedsOk l hd, hk, Option.bind_some, if_pos (show (!false) = true from rfl), if_neg (by decide)]
theorem spec_GraphEdges (l : List Deed) (hd : ∀ d ∈ l, okDd d) : spec_GraphEdges.f l = some (if DKK l = true then EDs l l.length else []) := by
 unfold spec_GraphEdges.f
 cases hk : DKK l with
 | true =>
  obtain ⟨hv, hl⟩ := dkk_v l hd hk
  rw [spec_DeedsOk l hd, hk, Option.bind_some, if_neg (by decide), spec_edges_loop l hv hl, if_pos rfl]
 | false => rw [spec_DeedsOk l hd, hk, Option.bind_some, if_pos (show (!false) = true from rfl), if_neg (by decide)]
end Go.Proofs.YtbkiaccollbjnaaGreat
set_option linter.unusedVariables false
set_option linter.unusedSimpArgs false
set_option linter.unusedSectionVars false
namespace Go.Proofs.YtbkiaccollbjnaaGreat
open Go V Ieee
theorem szByteS (a : List Int) (n : Int) (hl : a.length ≤ maxLen) (h0 : 0 ≤ n) (h1 : n ≤ 1048576) : Sz (laws_szByteS.f a n) n a.length := by
 simp only [maxLen] at hl
 unfold laws_szByteS.f
 rw [w64 (by omega) (by omega)]
 by_cases hneg : n - (a.length : Int) < 0
 · rw [if_pos (by simpa using hneg)]; exact ⟨-1, rfl, by omega, fun h => by omega⟩
 · rw [if_neg (by simpa using hneg)]; exact ⟨_, rfl, by omega, fun h => rfl⟩
theorem szItem (a : Item) (n : Int) (ha : ok_Item a) (h0 : 0 ≤ n) (h1 : n ≤ 1048576) : Sz (laws_szItem.f a n) n a.T.length := by
 unfold laws_szItem.f
 obtain ⟨r, er, hr, hr2⟩ := szByteS a.T n ha.2.2.2.1 h0 h1
 rw [er, Option.bind_some]
 by_cases hn : r < 0
 · rw [if_pos (by simpa using hn)]; exact ⟨-1, rfl, by omega, fun h => by omega⟩
 · rw [if_neg (by simpa using hn)]; exact ⟨r, rfl, hr, hr2⟩
theorem toByteS (a : List Int) (h : a.length ≤ 1048576) : laws_toByteS.f a = some a := by
 unfold laws_toByteS.f
 rw [if_pos ⟨by omega, by simp only [Lim]; omega⟩]
 refine toS_gen a 0 (fun l k hk hl => ?_) (fun l => ?_)
 · unfold laws_toByteS.b0
   simp only []
   rw [if_pos (by simp; omega), if_pos ⟨by omega, by omega⟩, if_pos ⟨by omega, by omega⟩, at_nat _ k hk, w64 (by omega) (by omega)]; rfl
 · unfold laws_toByteS.b0
   simp only []
   rw [if_neg (by simp)]; rfl
theorem toItem (a : Item) (h : a.T.length ≤ 1048576) : laws_toItem.f a = some a := by
 unfold laws_toItem.f
 rw [toByteS _ h]; rfl
theorem eqByteS (a : List Int) (h : a.length ≤ 1048576) : laws_eqByteS.f a a = some true := by
 unfold laws_eqByteS.f
 have := eqS_gen (body := laws_eqByteS.b0 a a) a a (fun k hk _ => by
  unfold laws_eqByteS.b0
  rw [if_pos (by simp; omega), if_pos ⟨by omega, by omega⟩, if_pos ⟨by omega, by omega⟩, at_nat _ k hk, w64 (by omega) (by omega)]
  simp) (by
  unfold laws_eqByteS.b0
  rw [if_neg (by simp)]; rfl)
 rw [this]; simp
theorem sameFloat (x : Nat) : laws_sameFloat.f x x = some true := by
 unfold laws_sameFloat.f
 have hbe : ∀ b : Bool, (b == b) = true := fun b => by cases b <;> rfl
 cases hb : fcmp .f64 x x != some .eq with
 | true => rfl
 | false =>
  have he : (fcmp .f64 x x == some .eq) = true := by
   have : (fcmp .f64 x x != some .eq) = !(fcmp .f64 x x == some .eq) := rfl
   rw [this] at hb
   cases hq : (fcmp .f64 x x == some .eq) with
   | true => rfl
   | false => rw [hq] at hb; cases hb
  rw [if_neg (by decide), he, hbe]
  split <;> rfl
theorem eqItem (a : Item) (h : a.T.length ≤ 1048576) : laws_eqItem.f a a = some true := by
 unfold laws_eqItem.f
 rw [if_neg (by simp), if_neg (by simp), sameFloat, Option.bind_some, if_neg (by decide), eqByteS _ h]; rfl
theorem wsum_one (a : List Int) : wsum (fun _ => 1) a = a.length := by
 induction a with
 | nil => rfl
 | cons x l ih => rw [wsum_cons, ih, List.length_cons]; omega
end Go.Proofs.YtbkiaccollbjnaaGreat
set_option linter.unusedVariables false
set_option linter.unusedSimpArgs false
set_option linter.unusedSectionVars false
namespace Go.Proofs.YtbkiaccollbjnaaGreat
open Go V Ieee
def zI (a : Item) : Nat := a.T.length
def zSp (s : Span) : Nat := s.From.T.length + s.To.T.length
theorem szSpan (s : Span) (n : Int) (hs : ok_Span s) (h0 : 0 ≤ n) (h1 : n ≤ 1048576) : Sz (laws_szSpan.f s n) n (zSp s) := by
 unfold laws_szSpan.f zSp
 obtain ⟨r, er, hr, hr2⟩ := szItem s.From n hs.1 h0 h1
 rw [er, Option.bind_some]
 by_cases hn : r < 0
 · rw [if_pos (by simpa using hn)]; exact ⟨-1, rfl, by omega, fun h => by omega⟩
 · rw [if_neg (by simpa using hn)]
   obtain ⟨q, eq, hq, hq2⟩ := szItem s.To r hs.2 (by omega) (by omega)
   rw [eq, Option.bind_some]
   by_cases hm : q < 0
   · rw [if_pos (by simpa using hm)]; exact ⟨-1, rfl, by omega, fun h => by omega⟩
   · rw [if_neg (by simpa using hm)]
     refine ⟨q, rfl, by omega, fun h => ?_⟩
     have := hr2 (by omega)
     have := hq2 h
     omega
theorem szSpanS (a : List Span) (n : Int) (hl : a.length ≤ maxLen) (he : ∀ b ∈ a, ok_Span b) (h0 : 0 ≤ n) (h1 : n ≤ 1048576) : Sz (laws_szSpanS.f a n) n (a.length + wsum zSp a) := by
 unfold laws_szSpanS.f
 have hl' := hl
 simp only [maxLen] at hl'
 refine szS_gen a n hl h0 h1 (fun k x hk x0 x1 => ?_) (fun x => ?_)
 · obtain ⟨r, er, hr, hr2⟩ := szSpan a[k] x (he _ (List.getElem_mem hk)) x0 x1
   refine ⟨r, hr, hr2, ?_⟩
   unfold laws_szSpanS.b0
   simp only []
   rw [if_pos (by simp; omega), if_pos ⟨by omega, by omega⟩, at_nat _ k hk]
   rw [er, Option.bind_some, w64 (by omega) (by omega)]
   by_cases hn : r < 0
   · rw [if_pos (by simpa using hn), if_pos hn]
   · rw [if_neg (by simpa using hn), if_neg hn]
 · unfold laws_szSpanS.b0
   simp only []
   rw [if_neg (by simp)]; rfl
theorem szItemS (a : List Item) (n : Int) (hl : a.length ≤ maxLen) (he : ∀ b ∈ a, ok_Item b) (h0 : 0 ≤ n) (h1 : n ≤ 1048576) : Sz (laws_szItemS.f a n) n (a.length + wsum zI a) := by
 unfold laws_szItemS.f
 have hl' := hl
 simp only [maxLen] at hl'
 refine szS_gen a n hl h0 h1 (fun k x hk x0 x1 => ?_) (fun x => ?_)
 · obtain ⟨r, er, hr, hr2⟩ := szItem a[k] x (he _ (List.getElem_mem hk)) x0 x1
   refine ⟨r, hr, hr2, ?_⟩
   unfold laws_szItemS.b0
   simp only []
   rw [if_pos (by simp; omega), if_pos ⟨by omega, by omega⟩, at_nat _ k hk]
   rw [er, Option.bind_some, w64 (by omega) (by omega)]
   by_cases hn : r < 0
   · rw [if_pos (by simpa using hn), if_pos hn]
   · rw [if_neg (by simpa using hn), if_neg hn]
 · unfold laws_szItemS.b0
   simp only []
   rw [if_neg (by simp)]; rfl
def lgI (a : Item) : Prop := a.T.length ≤ 1048576
def lgS (s : Span) : Prop := lgI s.From ∧ lgI s.To
theorem toSpan (s : Span) (h : lgS s) : laws_toSpan.f s = some s := by
 unfold laws_toSpan.f
 rw [toItem _ h.1, Option.bind_some, toItem _ h.2]; rfl
theorem eqSpan (s : Span) (h : lgS s) : laws_eqSpan.f s s = some true := by
 unfold laws_eqSpan.f
 rw [eqItem _ h.1, Option.bind_some, if_neg (by decide), eqItem _ h.2]; rfl
theorem toSpanS (a : List Span) (h : a.length ≤ 1048576) (he : ∀ b ∈ a, lgS b) : laws_toSpanS.f a = some a := by
 unfold laws_toSpanS.f
 rw [if_pos ⟨by omega, by simp only [Lim]; omega⟩]
 refine toS_gen a _ (fun l k hk hl => ?_) (fun l => ?_)
 · unfold laws_toSpanS.b0
   simp only []
   rw [if_pos (by simp; omega), if_pos ⟨by omega, by omega⟩, at_nat _ k hk]
   rw [toSpan _ (he _ (List.getElem_mem hk)), Option.bind_some, if_pos ⟨by omega, by omega⟩, w64 (by omega) (by omega)]; rfl
 · unfold laws_toSpanS.b0
   simp only []
   rw [if_neg (by simp)]; rfl
theorem toItemS (a : List Item) (h : a.length ≤ 1048576) (he : ∀ b ∈ a, lgI b) : laws_toItemS.f a = some a := by
 unfold laws_toItemS.f
 rw [if_pos ⟨by omega, by simp only [Lim]; omega⟩]
 refine toS_gen a _ (fun l k hk hl => ?_) (fun l => ?_)
 · unfold laws_toItemS.b0
   simp only []
   rw [if_pos (by simp; omega), if_pos ⟨by omega, by omega⟩, at_nat _ k hk]
   rw [toItem _ (he _ (List.getElem_mem hk)), Option.bind_some, if_pos ⟨by omega, by omega⟩, w64 (by omega) (by omega)]; rfl
 · unfold laws_toItemS.b0
   simp only []
   rw [if_neg (by simp)]; rfl
theorem eqSpanS (a : List Span) (h : a.length ≤ 1048576) (he : ∀ b ∈ a, lgS b) : laws_eqSpanS.f a a = some true := by
 unfold laws_eqSpanS.f
 have := eqS_gen (body := laws_eqSpanS.b0 a a) a a (fun k hk _ => by
  unfold laws_eqSpanS.b0
  rw [if_pos (by simp; omega), if_pos ⟨by omega, by omega⟩, if_pos ⟨by omega, by omega⟩, at_nat _ k hk]
  rw [eqSpan _ (he _ (List.getElem_mem hk)), w64 (by omega) (by omega)]
  simp) (by
  unfold laws_eqSpanS.b0
  rw [if_neg (by simp)]; rfl)
 rw [this]; simp
theorem eqItemS (a : List Item) (h : a.length ≤ 1048576) (he : ∀ b ∈ a, lgI b) : laws_eqItemS.f a a = some true := by
 unfold laws_eqItemS.f
 have := eqS_gen (body := laws_eqItemS.b0 a a) a a (fun k hk _ => by
  unfold laws_eqItemS.b0
  rw [if_pos (by simp; omega), if_pos ⟨by omega, by omega⟩, if_pos ⟨by omega, by omega⟩, at_nat _ k hk]
  rw [eqItem _ (he _ (List.getElem_mem hk)), w64 (by omega) (by omega)]
  simp) (by
  unfold laws_eqItemS.b0
  rw [if_neg (by simp)]; rfl)
 rw [this]; simp
theorem markS1 {α : Type} {mb : List α × Int × Int → Option ((List α × Int × Int) ⊕ (Int × List α))} {wt : α → Nat} (P : α → Prop) (Q : α → α → Prop) (hQ : ∀ a, Q a a) (a : List α) (hP : ∀ y ∈ a, P y) (x : Int) (h0 : 0 ≤ x) (h1 : x + (wsum wt a : Int) ≤ 100000000000)
    (hm : ∀ (l : List α) (x : Int) (k : Nat) (hk : k < l.length), l.length = a.length → P l[k] → 0 ≤ x → x + (wt l[k] : Int) ≤ 100000000000 → ∃ e', mb (l, x, (k : Int)) = some (.inl (l.set k e', x + (wt l[k] : Int), (k : Int) + 1)) ∧ Q l[k] e')
    (hmn : ∀ l x, l.length = a.length → mb (l, x, (l.length : Int)) = some (.inr (x, l))) :
    ∃ a', iter mb (a, x, (0 : Int)) = some (x + (wsum wt a : Int), a') ∧ a'.length = a.length := by
  have key : ∀ (m i : Nat) (x : Int) (l : List α), i + m = l.length → l.length = a.length → (∀ y ∈ l.drop i, P y) → 0 ≤ x → x + (wsum wt (l.drop i) : Int) ≤ 100000000000 →
      ∃ l', iter mb (l, x, (i : Int)) = some (x + (wsum wt (l.drop i) : Int), l') ∧ l'.length = l.length := by
    intro m
    induction m with
    | zero =>
      intro i x l hi hla hPl hx0 hx1
      have : i = l.length := by omega
      subst this
      rw [List.drop_length]
      refine ⟨l, ?_, rfl⟩
      rw [iter_r (hmn l x hla)]; simp [wsum]
    | succ m ih =>
      intro i x l hi hla hPl hx0 hx1
      have hk : i < l.length := by omega
      have hd : l.drop i = l[i] :: l.drop (i + 1) := List.drop_eq_getElem_cons hk
      rw [hd] at hPl
      rw [hd, wsum_cons] at hx1 ⊢
      obtain ⟨e', hmb, _⟩ := hm l x i hk hla (hPl _ List.mem_cons_self) hx0 (by omega)
      have e : (i : Int) + 1 = ((i + 1 : Nat) : Int) := by omega
      have hds : (l.set i e').drop (i + 1) = l.drop (i + 1) := List.drop_set_of_lt (by omega)
      obtain ⟨l', h1', h2'⟩ := ih (i + 1) (x + (wt l[i] : Int)) (l.set i e') (by rw [List.length_set]; omega) (by rw [List.length_set]; exact hla) (by rw [hds]; exact fun y hy => hPl y (List.mem_cons_of_mem _ hy)) (by omega) (by rw [hds]; omega)
      rw [hds] at h1'
      rw [List.length_set] at h2'
      have hsum : x + (wt l[i] : Int) + (wsum wt (l.drop (i + 1)) : Int) = x + ((wt l[i] + wsum wt (l.drop (i + 1)) : Nat) : Int) := by omega
      exact ⟨l', by rw [iter_l hmb, e, h1', hsum], h2'⟩
  obtain ⟨l', h1', h2'⟩ := key a.length 0 x a (by omega) rfl (by rw [List.drop_zero]; exact hP) h0 (by rw [List.drop_zero]; exact h1)
  rw [List.drop_zero] at h1'
  exact ⟨l', h1', h2'⟩
theorem markByteS1 (a : List Int) (x : Int) (h0 : 0 ≤ x) (h1 : x + (a.length : Int) ≤ 100000000000) : ∃ a', laws_markByteS.f a x = some (x + (a.length : Int), a') ∧ a'.length = a.length := by
 have := markS1 (mb := laws_markByteS.b0) (wt := fun _ => 1) (fun _ => True) (fun _ _ => True) (fun _ => trivial) a (fun _ _ => trivial) x h0 (by rw [wsum_one]; exact h1)
  (fun l y k hk hla _ hy hy1 => by
   refine ⟨IntKind.wrap .u8 y, ?_, trivial⟩
   unfold laws_markByteS.b0
   simp only []
   rw [if_pos (by simp; omega), if_pos ⟨by omega, by omega⟩, w64 (by omega) (by omega), w64 (by omega) (by omega)]; rfl)
  (fun l y hla => by
   unfold laws_markByteS.b0
   simp only []
   rw [if_neg (by simp)]; rfl)
 rw [wsum_one] at this
 exact this
def wI (a : Item) : Nat := 3 + a.T.length
def wSp (s : Span) : Nat := wI s.From + wI s.To
theorem markItemS (a : List Item) (x : Int) (hl : a.length ≤ 1048576) (h0 : 0 ≤ x) (h1 : x + (wsum wI a : Int) ≤ 100000000000) : ∃ a', laws_markItemS.f a x = some (x + (wsum wI a : Int), a') ∧ a'.length = a.length :=
 markS1 (mb := laws_markItemS.b0) (wt := wI) (fun _ => True) (fun _ _ => True) (fun _ => trivial) a (fun _ _ => trivial) x h0 h1
  (fun l y k hk hla _ hy hy1 => by
   unfold wI at hy1 ⊢
   obtain ⟨e', em, _⟩ := markByteS1 (l[k]).T (y + 1 + 1 + 1) (by omega) (by omega)
   refine ⟨Item.mk y (y + 1) (FloatKind.f64.nearest (y + 1 + 1)) e', ?_, trivial⟩
   unfold laws_markItemS.b0
   simp only []
   rw [if_pos (by simp; omega), if_pos ⟨by omega, by omega⟩, if_pos ⟨by omega, by rw [List.length_set]; omega⟩, Option.bind_some, if_pos ⟨by omega, by simp; omega⟩, Option.bind_some, if_pos ⟨by omega, by simp; omega⟩]
   simp only [Int.toNat_natCast, at_set _ _ _ (show k < _ by simpa using hk), at_nat l k hk, List.set_set, at_set _ _ _ hk]
   simp only [show IntKind.wrap .i64 (y + 1) = y + 1 from w64 (by omega) (by omega), show IntKind.wrap .i64 (y + 1 + 1) = y + 1 + 1 from w64 (by omega) (by omega), show IntKind.wrap .i64 (y + 1 + 1 + 1) = y + 1 + 1 + 1 from w64 (by omega) (by omega)]
   rw [em, Option.bind_some, w64 (by omega) (by omega)]
   congr 3
   congr 1
   omega)
  (fun l y hla => by
   unfold laws_markItemS.b0
   simp only []
   rw [if_neg (by simp)]; rfl)
theorem markSpanS (a : List Span) (x : Int) (hl : a.length ≤ 1048576) (h0 : 0 ≤ x) (h1 : x + (wsum wSp a : Int) ≤ 100000000000) : ∃ a', laws_markSpanS.f a x = some (x + (wsum wSp a : Int), a') ∧ a'.length = a.length :=
 markS1 (mb := laws_markSpanS.b0) (wt := wSp) (fun _ => True) (fun _ _ => True) (fun _ => trivial) a (fun _ _ => trivial) x h0 h1
  (fun l y k hk hla _ hy hy1 => by
   unfold wSp wI at hy1 ⊢
   obtain ⟨e1, em1, _⟩ := markByteS1 (l[k]).From.T (y + 1 + 1 + 1) (by omega) (by omega)
   obtain ⟨e2, em2, _⟩ := markByteS1 (l[k]).To.T (y + 1 + 1 + 1 + ((l[k]).From.T.length : Int) + 1 + 1 + 1) (by omega) (by omega)
   refine ⟨Span.mk (Item.mk y (y + 1) (FloatKind.f64.nearest (y + 1 + 1)) e1) (Item.mk (y + 1 + 1 + 1 + ((l[k]).From.T.length : Int)) (y + 1 + 1 + 1 + ((l[k]).From.T.length : Int) + 1) (FloatKind.f64.nearest (y + 1 + 1 + 1 + ((l[k]).From.T.length : Int) + 1 + 1)) e2), ?_, trivial⟩
   unfold laws_markSpanS.b0
   simp only []
   rw [if_pos (by simp; omega), if_pos ⟨by omega, by omega⟩, Option.bind_some, if_pos ⟨by omega, by simp; omega⟩, Option.bind_some, if_pos ⟨by omega, by simp; omega⟩, Option.bind_some, if_pos ⟨by omega, by simp; omega⟩]
   simp only [Int.toNat_natCast, at_nat l k hk, List.set_set, at_set _ _ _ hk, List.length_set]
   simp only [show IntKind.wrap .i64 (y + 1) = y + 1 from w64 (by omega) (by omega), show IntKind.wrap .i64 (y + 1 + 1) = y + 1 + 1 from w64 (by omega) (by omega), show IntKind.wrap .i64 (y + 1 + 1 + 1) = y + 1 + 1 + 1 from w64 (by omega) (by omega)]
   rw [em1, Option.bind_some, Option.bind_some]
   simp only [at_set _ _ _ hk, List.set_set, List.length_set]
   rw [if_pos ⟨by omega, by omega⟩, Option.bind_some, if_pos ⟨by omega, by simp; omega⟩, Option.bind_some, if_pos ⟨by omega, by simp; omega⟩, Option.bind_some, if_pos ⟨by omega, by simp; omega⟩]
   simp only [Int.toNat_natCast, List.set_set, at_set _ _ _ hk, List.length_set]
   simp only [show IntKind.wrap .i64 (y + 1 + 1 + 1 + ((l[k]).From.T.length : Int) + 1) = y + 1 + 1 + 1 + ((l[k]).From.T.length : Int) + 1 from w64 (by omega) (by omega), show IntKind.wrap .i64 (y + 1 + 1 + 1 + ((l[k]).From.T.length : Int) + 1 + 1) = y + 1 + 1 + 1 + ((l[k]).From.T.length : Int) + 1 + 1 from w64 (by omega) (by omega), show IntKind.wrap .i64 (y + 1 + 1 + 1 + ((l[k]).From.T.length : Int) + 1 + 1 + 1) = y + 1 + 1 + 1 + ((l[k]).From.T.length : Int) + 1 + 1 + 1 from w64 (by omega) (by omega)]
   rw [em2, Option.bind_some, Option.bind_some, w64 (by omega) (by omega)]
   congr 3
   congr 1
   omega)
  (fun l y hla => by
   unfold laws_markSpanS.b0
   simp only []
   rw [if_neg (by simp)]; rfl)
theorem wI_le (l : List Item) : wsum wI l ≤ 4 * (l.length + wsum zI l) := wsum_le wI zI 4 l fun x _ => by unfold wI zI; omega
theorem wSp_le (l : List Span) : wsum wSp l ≤ 7 * (l.length + wsum zSp l) := wsum_le wSp zSp 7 l fun x _ => by unfold wSp wI zSp; omega
theorem lgI_of (l : List Item) (h : wsum zI l ≤ 1048576) : ∀ b ∈ l, lgI b := fun b hb => by have h1 : zI b ≤ 1048576 := Nat.le_trans (wsum_mem zI l b hb) h; exact h1
theorem lgS_of (l : List Span) (h : wsum zSp l ≤ 1048576) : ∀ b ∈ l, lgS b := fun b hb => by have h1 : zSp b ≤ 1048576 := Nat.le_trans (wsum_mem zSp l b hb) h; unfold zSp at h1; unfold lgS lgI; omega
end Go.Proofs.YtbkiaccollbjnaaGreat
set_option linter.unusedVariables false
set_option linter.unusedSimpArgs false
set_option linter.unusedSectionVars false
namespace Go.Proofs.YtbkiaccollbjnaaGreat
open Go V Ieee
def zDd (d : Deed) : Nat := (d.Reads.length + wsum zSp d.Reads) + (d.Writes.length + wsum zI d.Writes)
theorem szDeed (d : Deed) (n : Int) (hs : ok_Deed d) (h0 : 0 ≤ n) (h1 : n ≤ 1048576) : Sz (laws_szDeed.f d n) n (zDd d) := by
 unfold laws_szDeed.f zDd
 obtain ⟨r, er, hr, hr2⟩ := szSpanS d.Reads n hs.2.2.2.1.1 hs.2.2.2.1.2 h0 h1
 rw [er, Option.bind_some]
 by_cases hn : r < 0
 · rw [if_pos (by simpa using hn)]; exact ⟨-1, rfl, by omega, fun h => by omega⟩
 · rw [if_neg (by simpa using hn)]
   obtain ⟨q, eq, hq, hq2⟩ := szItemS d.Writes r hs.2.2.2.2.1 hs.2.2.2.2.2 (by omega) (by omega)
   rw [eq, Option.bind_some]
   by_cases hm : q < 0
   · rw [if_pos (by simpa using hm)]; exact ⟨-1, rfl, by omega, fun h => by omega⟩
   · rw [if_neg (by simpa using hm)]
     refine ⟨q, rfl, by omega, fun h => ?_⟩
     have := hr2 (by omega)
     have := hq2 h
     omega
theorem szDeedS (a : List Deed) (n : Int) (hl : a.length ≤ maxLen) (he : ∀ b ∈ a, ok_Deed b) (h0 : 0 ≤ n) (h1 : n ≤ 1048576) : Sz (laws_szDeedS.f a n) n (a.length + wsum zDd a) := by
 unfold laws_szDeedS.f
 have hl' := hl
 simp only [maxLen] at hl'
 refine szS_gen a n hl h0 h1 (fun k x hk x0 x1 => ?_) (fun x => ?_)
 · obtain ⟨r, er, hr, hr2⟩ := szDeed a[k] x (he _ (List.getElem_mem hk)) x0 x1
   refine ⟨r, hr, hr2, ?_⟩
   unfold laws_szDeedS.b0
   simp only []
   rw [if_pos (by simp; omega), if_pos ⟨by omega, by omega⟩, at_nat _ k hk]
   rw [er, Option.bind_some, w64 (by omega) (by omega)]
   by_cases hn : r < 0
   · rw [if_pos (by simpa using hn), if_pos hn]
   · rw [if_neg (by simpa using hn), if_neg hn]
 · unfold laws_szDeedS.b0
   simp only []
   rw [if_neg (by simp)]; rfl
def lgD (d : Deed) : Prop := zDd d ≤ 1048576
theorem toDeed (d : Deed) (h : lgD d) : laws_toDeed.f d = some d := by
 unfold lgD zDd at h
 unfold laws_toDeed.f
 rw [toSpanS _ (by omega) (lgS_of _ (by omega)), Option.bind_some, toItemS _ (by omega) (lgI_of _ (by omega))]; rfl
theorem eqDeed (d : Deed) (h : lgD d) : laws_eqDeed.f d d = some true := by
 unfold lgD zDd at h
 unfold laws_eqDeed.f
 rw [if_neg (by simp), if_neg (by simp), if_neg (by simp), eqSpanS _ (by omega) (lgS_of _ (by omega)), Option.bind_some, if_neg (by decide), eqItemS _ (by omega) (lgI_of _ (by omega))]; rfl
theorem toDeedS (a : List Deed) (h : a.length ≤ 1048576) (he : ∀ b ∈ a, lgD b) : laws_toDeedS.f a = some a := by
 unfold laws_toDeedS.f
 rw [if_pos ⟨by omega, by simp only [Lim]; omega⟩]
 refine toS_gen a _ (fun l k hk hl => ?_) (fun l => ?_)
 · unfold laws_toDeedS.b0
   simp only []
   rw [if_pos (by simp; omega), if_pos ⟨by omega, by omega⟩, at_nat _ k hk]
   rw [toDeed _ (he _ (List.getElem_mem hk)), Option.bind_some, if_pos ⟨by omega, by omega⟩, w64 (by omega) (by omega)]; rfl
 · unfold laws_toDeedS.b0
   simp only []
   rw [if_neg (by simp)]; rfl
theorem eqDeedS (a : List Deed) (h : a.length ≤ 1048576) (he : ∀ b ∈ a, lgD b) : laws_eqDeedS.f a a = some true := by
 unfold laws_eqDeedS.f
 have := eqS_gen (body := laws_eqDeedS.b0 a a) a a (fun k hk _ => by
  unfold laws_eqDeedS.b0
  rw [if_pos (by simp; omega), if_pos ⟨by omega, by omega⟩, if_pos ⟨by omega, by omega⟩, at_nat _ k hk]
  rw [eqDeed _ (he _ (List.getElem_mem hk)), w64 (by omega) (by omega)]
  simp) (by
  unfold laws_eqDeedS.b0
  rw [if_neg (by simp)]; rfl)
 rw [this]; simp
def wDd (d : Deed) : Nat := 3 + wsum wSp d.Reads + wsum wI d.Writes
theorem markDeedS (a : List Deed) (x : Int) (hl : a.length ≤ 1048576) (he : ∀ d ∈ a, lgD d) (h0 : 0 ≤ x) (h1 : x + (wsum wDd a : Int) ≤ 100000000000) : ∃ a', laws_markDeedS.f a x = some (x + (wsum wDd a : Int), a') ∧ a'.length = a.length :=
 markS1 (mb := laws_markDeedS.b0) (wt := wDd) lgD (fun _ _ => True) (fun _ => trivial) a he x h0 h1
  (fun l y k hk hla hp hy hy1 => by
   unfold lgD zDd at hp
   unfold wDd at hy1 ⊢
   obtain ⟨e1, em1, _⟩ := markSpanS (l[k]).Reads (y + 1 + 1 + 1) (by omega) (by omega) (by omega)
   obtain ⟨e2, em2, _⟩ := markItemS (l[k]).Writes (y + 1 + 1 + 1 + (wsum wSp (l[k]).Reads : Int)) (by omega) (by omega) (by omega)
   refine ⟨Deed.mk y (y + 1) (y + 1 + 1) e1 e2, ?_, trivial⟩
   unfold laws_markDeedS.b0
   simp only []
   rw [if_pos (by simp; omega), if_pos ⟨by omega, by omega⟩, Option.bind_some, if_pos ⟨by omega, by simp; omega⟩, Option.bind_some, if_pos ⟨by omega, by simp; omega⟩, Option.bind_some, if_pos ⟨by omega, by simp; omega⟩]
   simp only [Int.toNat_natCast, at_nat l k hk, List.set_set, at_set _ _ _ hk, List.length_set]
   simp only [show IntKind.wrap .i64 (y + 1) = y + 1 from w64 (by omega) (by omega), show IntKind.wrap .i64 (y + 1 + 1) = y + 1 + 1 from w64 (by omega) (by omega), show IntKind.wrap .i64 (y + 1 + 1 + 1) = y + 1 + 1 + 1 from w64 (by omega) (by omega)]
   rw [em1, Option.bind_some, Option.bind_some]
   simp only [at_set _ _ _ hk, List.set_set, List.length_set]
   rw [if_pos ⟨by omega, by omega⟩, em2, Option.bind_some, Option.bind_some, w64 (by omega) (by omega)]
   congr 3
   congr 1
   omega)
  (fun l y hla => by
   unfold laws_markDeedS.b0
   simp only []
   rw [if_neg (by simp)]; rfl)
theorem wDd_le (l : List Deed) : wsum wDd l ≤ 7 * (l.length + wsum zDd l) := wsum_le wDd zDd 7 l fun x _ => by
 have h1 := wSp_le x.Reads
 have h2 := wI_le x.Writes
 unfold wDd zDd; omega
end Go.Proofs.YtbkiaccollbjnaaGreat
