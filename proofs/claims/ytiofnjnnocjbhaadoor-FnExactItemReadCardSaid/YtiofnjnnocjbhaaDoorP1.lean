import Derived.Test.YtiofnjnnocjbhaaDoorG1
import Derived.Test.YtiofnjnnocjbhaaDoorGs
import Derived.Lib.ItoaNum
import Derived.Lib.ItoaLen
import Derived.Lib.AtoiAll
import Derived.Lib.Bytealg
import Derived.Lib.AtoiAllCases
set_option linter.unusedVariables false
set_option linter.unusedSimpArgs false
namespace Go.Proofs.YtiofnjnnocjbhaaDoor
open Go V
theorem w64 {n : Int} (h0 : -9223372036854775808 ≤ n) (h1 : n ≤ 9223372036854775807) : IntKind.i64.wrap n = n := by
 rw [IntKind.wrap_i64]; omega
theorem i64_of {n : Int} (h : InK .i64 n) : -9223372036854775808 ≤ n ∧ n ≤ 9223372036854775807 := by
 simpa [InK, IntKind.min, IntKind.max, IntKind.signed, IntKind.bits] using h
theorem u8_of {n : Int} (h : InK .u8 n) : 0 ≤ n ∧ n ≤ 255 := by
 simpa [InK, IntKind.min, IntKind.max, IntKind.signed, IntKind.bits] using h
theorem i64_ok {n : Int} (h0 : -9223372036854775808 ≤ n) (h1 : n ≤ 9223372036854775807) : InK .i64 n := by
 simp [InK, IntKind.min, IntKind.max, IntKind.signed, IntKind.bits]; omega
theorem u8_ok {n : Int} (h0 : 0 ≤ n) (h1 : n ≤ 255) : InK .u8 n := by
 simp [InK, IntKind.min, IntKind.max, IntKind.signed, IntKind.bits]; omega
theorem u8n {b : Int} (h : InK .u8 b) : b = ((b.toNat : Nat) : Int) ∧ b.toNat < 256 := by have := u8_of h; omega
theorem fdiv_nat (a b : Nat) : Int.fdiv (a : Int) (b : Int) = ((a / b : Nat) : Int) := by
 rw [Int.fdiv_eq_ediv_of_nonneg _ (by omega)]; rfl
theorem ishr_nat (k : IntKind) (a b : Nat) (h : b ≤ k.bits) : ishr k (a : Int) (b : Int) = ((a / 2 ^ b : Nat) : Int) := by
 unfold ishr
 rw [Int.toNat_natCast, Nat.min_eq_left h]
 have : (2 : Int) ^ b = ((2 ^ b : Nat) : Int) := by simp
 rw [this, fdiv_nat]
theorem ofInt_nat (w a : Nat) (h : a < 2 ^ w) : (BitVec.ofInt w (a : Int)).toNat = a := by
 rw [BitVec.ofInt_natCast, BitVec.toNat_ofNat, Nat.mod_eq_of_lt h]
theorem wu64 (a : Nat) (h : a < 18446744073709551616) : IntKind.wrap .u64 ((a : Nat) : Int) = (a : Int) := by rw [IntKind.wrap_u64]; omega
theorem ior_u64 (a b : Nat) (ha : a < 18446744073709551616) (hb : b < 18446744073709551616) : ior .u64 (a : Int) (b : Int) = ((a ||| b : Nat) : Int) := by
 unfold ior
 rw [BitVec.toNat_or, ofInt_nat _ a ha, ofInt_nat _ b hb]
 exact wu64 _ (Nat.or_lt_two_pow (n := 64) ha hb)
theorem iand_u64 (a b : Nat) (ha : a < 18446744073709551616) (hb : b < 18446744073709551616) : iand .u64 (a : Int) (b : Int) = ((a &&& b : Nat) : Int) := by
 unfold iand
 rw [BitVec.toNat_and, ofInt_nat _ a ha, ofInt_nat _ b hb]
 exact wu64 _ (Nat.and_lt_two_pow (n := 64) _ hb)
theorem or_add (k n b : Nat) (h : b < 2 ^ k) : (n * 2 ^ k) ||| b = n * 2 ^ k + b := by
 have := Nat.two_pow_add_eq_or_of_lt (i := k) (b := b) h n
 rw [Nat.mul_comm n]
 exact this.symm
def rin (a b c : Int) : Bool := decide (b ≤ a) && decide (a ≤ c)
theorem iter_for {S O : Type} {body : S → Option (S ⊕ O)} (n : Nat) (st : Nat → S) (o : O) (h : ∀ k, k < n → body (st k) = some (.inl (st (k + 1)))) (hn : body (st n) = some (.inr o)) : iter body (st 0) = some o := by
 have key : ∀ m, m ≤ n → iter body (st (n - m)) = some o := by
  intro m
  induction m with
  | zero => intro _; rw [iter_eq, Nat.sub_zero, hn]; rfl
  | succ m ih =>
   intro hm
   rw [iter_eq, h (n - (m + 1)) (by omega)]
   simp only [Option.bind_some]
   rw [show n - (m + 1) + 1 = n - m by omega]
   exact ih (by omega)
 have := key n (Nat.le_refl _)
 rwa [Nat.sub_self] at this
theorem iter_l {S O : Type} {body : S → Option (S ⊕ O)} {s s' : S} (h : body s = some (.inl s')) : iter body s = iter body s' := by rw [iter_eq, h]; rfl
theorem iter_r {S O : Type} {body : S → Option (S ⊕ O)} {s : S} {o : O} (h : body s = some (.inr o)) : iter body s = some o := by rw [iter_eq, h]; rfl
theorem iter_all {body : Int → Option (Int ⊕ Bool)} (n : Nat) (t : Nat → Bool) (h : ∀ k, k < n → body k = if t k = true then some (.inl ((k : Int) + 1)) else some (.inr false)) (hn : body n = some (.inr true)) : iter body 0 = some ((List.range n).all t) := by
 have key : ∀ m, m ≤ n → iter body ((n - m : Nat) : Int) = some ((List.range' (n - m) m).all t) := by
  intro m
  induction m with
  | zero => intro _; rw [iter_eq, Nat.sub_zero, hn]; rfl
  | succ m ih =>
   intro hm
   rw [iter_eq, h (n - (m + 1)) (by omega), List.range'_succ, List.all_cons]
   cases ht : t (n - (m + 1)) with
   | false => simp
   | true =>
    simp only [if_true, Option.bind_some, Bool.true_and]
    have e := ih (by omega)
    rw [show n - (m + 1) + 1 = n - m by omega, ← e]
    congr 1
    omega
 have := key n (Nat.le_refl _)
 rw [Nat.sub_self] at this
 rw [List.range_eq_range']
 exact this
theorem at_nat {α : Type} [Inhabited α] (xs : List α) (k : Nat) (h : k < xs.length) : at_ xs (k : Int) = xs[k] := by
 rw [at_eq xs k (by simpa using h)]; simp
theorem all_eq {α : Type} [DecidableEq α] (a b : List α) (h : a.length = b.length) : ((List.range a.length).all fun k => decide (a[k]? = b[k]?)) = decide (a = b) := by
  by_cases e : a = b
  · subst e; simp
  · have : ¬ ∀ k, k < a.length → a[k]? = b[k]? := fun hk => e (List.ext_getElem? fun k => by
      by_cases hl : k < a.length
      · exact hk k hl
      · rw [List.getElem?_eq_none (by omega), List.getElem?_eq_none (by omega)])
    simp only [e, decide_false]
    cases hb : (List.range a.length).all fun k => decide (a[k]? = b[k]?) with
    | false => rfl
    | true =>
      exact absurd (fun k hk => by
        have := List.all_eq_true.1 hb k (List.mem_range.2 hk)
        simpa using this) this
theorem eqS_gen {α : Type} [DecidableEq α] [Inhabited α] {body : Int → Option (Int ⊕ Bool)} (a b : List α) (hb : ∀ k : Nat, (h1 : k < a.length) → (h2 : k < b.length) → body (k : Int) = if decide (a[k] = b[k]) = true then some (.inl ((k : Int) + 1)) else some (.inr false))
    (hn : body (a.length : Int) = some (.inr true)) : (if ((a.length : Int) != (b.length : Int)) = true then some false else iter body 0) = some (decide (a = b)) := by
  by_cases hl : a.length = b.length
  · have hne : ((a.length : Int) != (b.length : Int)) = false := by simp [hl]
    rw [hne, if_neg (by decide), ← all_eq a b hl]
    refine iter_all a.length _ (fun k hk => ?_) hn
    rw [hb k hk (by omega), List.getElem?_eq_getElem hk, List.getElem?_eq_getElem (by omega)]
    simp
  · have hne : ((a.length : Int) != (b.length : Int)) = true := by simp; omega
    rw [hne, if_pos rfl]
    have : a ≠ b := fun e => hl (by rw [e])
    simp [this]
theorem toS_gen {α : Type} {body : List α × Int → Option ((List α × Int) ⊕ List α)} (a : List α) (z : α) (hb : ∀ (l : List α) (k : Nat) (h1 : k < a.length), l.length = a.length → body (l, (k : Int)) = some (.inl (l.set k a[k], (k : Int) + 1)))
    (hn : ∀ l : List α, body (l, (a.length : Int)) = some (.inr l)) : iter body (List.replicate ((a.length : Int)).toNat z, (0 : Int)) = some a := by
  have hst : (List.replicate ((a.length : Int)).toNat z, (0 : Int)) = (a.take 0 ++ List.replicate (a.length - 0) z, ((0 : Nat) : Int)) := by simp
  rw [hst]
  have e : (some a : Option (List α)) = some (a.take a.length ++ List.replicate (a.length - a.length) z) := by simp
  rw [e]
  refine iter_for a.length (fun k => (a.take k ++ List.replicate (a.length - k) z, (k : Int))) _ (fun k hk => ?_) (hn _)
  rw [hb _ k hk (by rw [List.length_append, List.length_take, List.length_replicate]; omega)]
  have hset : (a.take k ++ List.replicate (a.length - k) z).set k a[k] = a.take (k + 1) ++ List.replicate (a.length - (k + 1)) z := by
    rw [List.set_append, if_neg (by simp; omega)]
    have : (a.take k).length = k := by simp; omega
    rw [this, Nat.sub_self, show a.length - k = (a.length - (k + 1)) + 1 by omega, List.replicate_succ, List.set_cons_zero, List.take_succ_eq_append_getElem hk, List.append_assoc]
    rfl
  rw [hset]
  simp
def wsum {α : Type} (wt : α → Nat) (l : List α) : Nat := (l.map wt).sum
theorem wsum_cons {α : Type} (wt : α → Nat) (x : α) (l : List α) : wsum wt (x :: l) = wt x + wsum wt l := rfl
theorem markS_gen {α : Type} {mb : List α × Int × Int → Option ((List α × Int × Int) ⊕ (Int × List α))} {hb : List α → Int × Int → Option ((Int × Int) ⊕ Int)} {wt : α → Nat} (HE : α → Int → Nat → Prop) (a : List α) (x : Int) (h0 : 0 ≤ x) (h1 : x + (wsum wt a : Int) ≤ 100000000000)
    (hm : ∀ (l : List α) (x : Int) (k : Nat) (hk : k < l.length), l.length = a.length → 0 ≤ x → x + (wt l[k] : Int) ≤ 100000000000 → ∃ e', mb (l, x, (k : Int)) = some (.inl (l.set k e', x + (wt l[k] : Int), (k : Int) + 1)) ∧ HE e' x (wt l[k]))
    (hmn : ∀ l x, l.length = a.length → mb (l, x, (l.length : Int)) = some (.inr (x, l)))
    (hh : ∀ (l : List α) (x : Int) (k n : Nat) (hk : k < l.length), l.length = a.length → HE l[k] x n → 0 ≤ x → x + (n : Int) ≤ 100000000000 → hb l (x, (k : Int)) = some (.inl (x + (n : Int), (k : Int) + 1)))
    (hhn : ∀ l x, l.length = a.length → hb l (x, (l.length : Int)) = some (.inr x)) :
    ∃ a', iter mb (a, x, (0 : Int)) = some (x + (wsum wt a : Int), a') ∧ a'.length = a.length ∧ iter (hb a') (x, (0 : Int)) = some (x + (wsum wt a : Int)) := by
  have key : ∀ (m i : Nat) (x : Int) (l : List α), i + m = l.length → l.length = a.length → 0 ≤ x → x + (wsum wt (l.drop i) : Int) ≤ 100000000000 →
      ∃ l', iter mb (l, x, (i : Int)) = some (x + (wsum wt (l.drop i) : Int), l') ∧ l'.length = l.length ∧ (∀ j, j < i → l'[j]? = l[j]?) ∧ iter (hb l') (x, (i : Int)) = some (x + (wsum wt (l.drop i) : Int)) := by
    intro m
    induction m with
    | zero =>
      intro i x l hi hla hx0 hx1
      have : i = l.length := by omega
      subst this
      rw [List.drop_length]
      refine ⟨l, ?_, rfl, fun _ _ => rfl, ?_⟩
      · rw [iter_r (hmn l x hla)]; simp [wsum]
      · rw [iter_r (hhn l x hla)]; simp [wsum]
    | succ m ih =>
      intro i x l hi hla hx0 hx1
      have hk : i < l.length := by omega
      have hd : l.drop i = l[i] :: l.drop (i + 1) := List.drop_eq_getElem_cons hk
      rw [hd, wsum_cons] at hx1 ⊢
      obtain ⟨e', hmb, hE⟩ := hm l x i hk hla hx0 (by omega)
      have e : (i : Int) + 1 = ((i + 1 : Nat) : Int) := by omega
      have hds : (l.set i e').drop (i + 1) = l.drop (i + 1) := List.drop_set_of_lt (by omega)
      obtain ⟨l', h1', h2', h3', h4'⟩ := ih (i + 1) (x + (wt l[i] : Int)) (l.set i e') (by rw [List.length_set]; omega) (by rw [List.length_set]; exact hla) (by omega) (by rw [hds]; omega)
      rw [hds] at h1' h4'
      rw [List.length_set] at h2'
      have hi' : i < l'.length := by omega
      have hli : l'[i] = e' := by
        have := h3' i (by omega)
        rw [List.getElem?_eq_getElem hi', List.getElem?_set_self hk] at this
        exact Option.some.inj this
      have hsum : x + (wt l[i] : Int) + (wsum wt (l.drop (i + 1)) : Int) = x + ((wt l[i] + wsum wt (l.drop (i + 1)) : Nat) : Int) := by omega
      refine ⟨l', ?_, h2', fun j hj => ?_, ?_⟩
      · rw [iter_l hmb, e, h1', hsum]
      · rw [h3' j (by omega), List.getElem?_set_ne (by omega)]
      · rw [iter_l (hh l' x i (wt l[i]) hi' (by omega) (by rw [hli]; exact hE) hx0 (by omega)), e, h4', hsum]
  obtain ⟨l', h1', h2', _, h4'⟩ := key a.length 0 x a (by omega) rfl h0 (by rw [List.drop_zero]; exact h1)
  rw [List.drop_zero] at h1' h4'
  exact ⟨l', h1', h2', h4'⟩
end Go.Proofs.YtiofnjnnocjbhaaDoor
set_option linter.unusedVariables false
set_option linter.unusedSimpArgs false
set_option linter.unusedSectionVars false
namespace Go.Proofs.YtiofnjnnocjbhaaDoor
open Go V Ieee
theorem iter_pass {S O : Type} {body : S → Option (S ⊕ O)} {s : S} {m : Option O} (h : body s = m.bind fun o => some (Sum.inr o)) : iter body s = m := by
 rw [iter_eq, h]
 cases m <;> rfl
def wd (M e : Nat) : Nat := D.word false (e * 4503599627370496 + M)
theorem wd_eq (M e : Nat) : wd M e = e * 4503599627370496 + M := rfl
theorem wd_v {M e : Nat} (h1 : M < 9007199254740992) (h2 : e = 0 ∨ 4503599627370496 ≤ M) (h3 : e ≤ 2045) : IsV (wd M e) false (M * pw e) := ⟨M, e, h1, h2, h3, rfl, rfl⟩
theorem rep_of {M : Nat} (h1 : M < 9007199254740992) : ∀ e, e ≤ 2045 → Rep (M * pw e) := by
 intro e
 induction e generalizing M with
 | zero => intro _; exact ⟨M, 0, h1, .inl rfl, by omega, rfl⟩
 | succ e ih =>
  intro he
  by_cases hm : 4503599627370496 ≤ M
  · exact ⟨M, e + 1, h1, .inr hm, he, rfl⟩
  · have := ih (M := 2 * M) (by omega) (by omega)
    rwa [show 2 * M * pw e = M * pw (e + 1) by rw [pw_succ, Nat.mul_comm 2 M, Nat.mul_assoc, Nat.mul_comm 2]] at this
theorem v0 : IsV 0 false 0 := ⟨0, 0, by decide, .inl rfl, by omega, by simp, rfl⟩
theorem v1 : IsV 4607182418800017408 false (4503599627370496 * pw 1022) := ⟨4503599627370496, 1022, by decide, .inr (Nat.le_refl _), by omega, rfl, rfl⟩
theorem v2 : IsV 4611686018427387904 false (4503599627370496 * pw 1023) := ⟨4503599627370496, 1023, by decide, .inr (Nat.le_refl _), by omega, rfl, rfl⟩
theorem vM : IsV 9218868437227405311 false (9007199254740991 * pw 2045) := ⟨9007199254740991, 2045, by decide, .inr (by decide), by omega, rfl, rfl⟩
section
variable {a b u v : Nat} (ha : IsV a false u) (hb : IsV b false v)
include ha hb
theorem cmp_v : fcmp .f64 a b = some (compare u v) := by
 have h := order_v ha hb
 rw [signed_f, signed_f, Nat.pow_zero, Nat.mul_one, Nat.mul_one] at h
 show D.order a b = _
 rw [h]
 show some (compareOfLessAndEq (u : Int) (v : Int)) = some (compareOfLessAndEq u v)
 unfold compareOfLessAndEq
 by_cases h1 : u < v
 · rw [if_pos h1, if_pos (by omega)]
 · rw [if_neg h1, if_neg (by omega)]
   by_cases h2 : u = v
   · rw [if_pos h2, if_pos (by omega)]
   · rw [if_neg h2, if_neg (by omega)]
theorem cmp_lt : (fcmp .f64 a b == some .lt) = decide (u < v) := by
 rw [cmp_v ha hb]
 by_cases h : u < v
 · simp [Nat.compare_eq_lt.2 h, h]
 · have : compare u v ≠ .lt := fun hc => h (Nat.compare_eq_lt.1 hc)
   simp [this, h]
theorem cmp_gt : (fcmp .f64 a b == some .gt) = decide (v < u) := by
 rw [cmp_v ha hb]
 by_cases h : v < u
 · simp [Nat.compare_eq_gt.2 h, h]
 · have : compare u v ≠ .gt := fun hc => h (Nat.compare_eq_gt.1 hc)
   simp [this, h]
theorem cmp_eq : (fcmp .f64 a b == some .eq) = decide (u = v) := by
 rw [cmp_v ha hb]
 by_cases h : u = v
 · simp [Nat.compare_eq_eq.2 h, h]
 · have : compare u v ≠ .eq := fun hc => h (Nat.compare_eq_eq.1 hc)
   simp [this, h]
end
theorem far_half {a u : Nat} (h : IsV a false (u * 2)) (hu : Rep u) : IsV (far .quo a 4611686018427387904) false u := by
 obtain ⟨w', hw, hv⟩ := div_pow (j := 1) c_two (by simpa [pw] using h) hu
 have : far .quo a 4611686018427387904 = w' := by show (D.div a _).getD _ = _; rw [hw]; rfl
 rwa [this]
theorem far_dbl {a u : Nat} (h : IsV a false u) (hu : Rep (u * 2)) : IsV (far .mul a 4611686018427387904) false (u * 2) := by
 obtain ⟨w', hw, hv⟩ := mul_pow_ (j := 1) c_two h (by simpa using hu)
 have : far .mul a 4611686018427387904 = w' := by show (D.mul a _).getD _ = _; rw [hw]; rfl
 rw [this]; simpa using hv
theorem far_big {a u : Nat} (h : IsV a false u) (hu : Rep (u * pw 52)) : IsV (far .mul a 4841369599423283200) false (u * pw 52) := by
 obtain ⟨w', hw, hv⟩ := mul_pow_ (j := 52) c_big h hu
 have : far .mul a 4841369599423283200 = w' := by show (D.mul a _).getD _ = _; rw [hw]; rfl
 rwa [this]
theorem far_sub1 {a v : Nat} (h : IsV a false (U1 + v)) (hv : Rep v) : IsV (far .sub a 4607182418800017408) false v := by
 obtain ⟨w', hw, hv⟩ := sub_one h hv
 have : far .sub a 4607182418800017408 = w' := by show (D.sub a _).getD _ = _; rw [hw]; rfl
 rwa [this]
theorem f2i_v {a n : Nat} (h : IsV a false (n * pw 1074)) (hn : n < 18446744073709551616) : floatToIntVal .f64 a .u64 = some (n : Int) := by
 unfold floatToIntVal
 have := toInt_p h
 show (match (D.read a).toInt .zero with | some n => _ | none => _) = _
 rw [this]
 simp only []
 rw [if_pos]
 simp [IntKind.min, IntKind.max, IntKind.signed, IntKind.bits]; omega
section
variable (S E : Nat) (A : Nat)
theorem bits_num (s E K : Nat) (hs : s ≤ 1) (hE : E < 2048) (hK : K < 4503599627370496) : ior .u64 (ior .u64 ((s * 9223372036854775808 : Nat) : Int) (ishl .u64 (IntKind.wrap .u64 (IntKind.wrap .i64 (E : Int))) 52)) (K : Int) = ((s * 9223372036854775808 + E * 4503599627370496 + K : Nat) : Int) := by
 rw [w64 (by omega) (by omega), wu64 E (by omega)]
 have h1 : ishl .u64 (E : Int) 52 = ((E * 4503599627370496 : Nat) : Int) := by
  unfold ishl
  show IntKind.wrap .u64 ((E : Int) * 2 ^ 52) = _
  have : (E : Int) * 2 ^ 52 = ((E * 4503599627370496 : Nat) : Int) := by rw [show (2 : Int) ^ 52 = 4503599627370496 by decide]; omega
  rw [this, wu64 _ (by omega)]
 rw [h1, ior_u64 _ _ (by omega) (by omega)]
 have h2 : s * 9223372036854775808 ||| E * 4503599627370496 = s * 9223372036854775808 + E * 4503599627370496 := by
  have := or_add 63 s (E * 4503599627370496) (by show _ < 9223372036854775808; omega)
  exact this
 rw [h2, ior_u64 _ _ (by omega) (by omega)]
 have h3 := or_add 52 (s * 2048 + E) K (by show _ < 4503599627370496; omega)
 have e : (s * 2048 + E) * 2 ^ 52 = s * 9223372036854775808 + E * 4503599627370496 := by
  rw [show (2 : Nat) ^ 52 = 4503599627370496 by decide]; omega
 rw [e] at h3
 rw [h3]
theorem bits_sub (s K : Nat) (hs : s ≤ 1) (hK : K < 4503599627370496) : ior .u64 ((s * 9223372036854775808 : Nat) : Int) (K : Int) = ((s * 9223372036854775808 + K : Nat) : Int) := by
 rw [ior_u64 _ _ (by omega) (by omega)]
 have h3 := or_add 63 s K (by show _ < 9223372036854775808; omega)
 rw [show (s * 2 ^ 63 : Nat) = s * 9223372036854775808 from rfl] at h3
 rw [h3]
end
theorem p_lt {M e : Nat} (k k' : Nat) (h : M < 9007199254740992) (he : e ≤ k) (hk : k' = k + 1) : M * pw e < 4503599627370496 * pw k' := by
 have h1 : M * pw e < 9007199254740992 * pw e := Nat.mul_lt_mul_of_pos_right h (pw_pos e)
 have h2 : 9007199254740992 * pw e ≤ 9007199254740992 * pw k := Nat.mul_le_mul_left _ (pw_le he)
 have h3 : 4503599627370496 * (pw k * 2) = 9007199254740992 * pw k := by
  generalize pw k = q
  omega
 rw [hk, pw_succ, h3]
 exact Nat.lt_of_lt_of_le h1 h2
theorem p_ge {M e k : Nat} (h : 4503599627370496 ≤ M) (he : k ≤ e) : 4503599627370496 * pw k ≤ M * pw e :=
 Nat.mul_le_mul h (pw_le he)
theorem fb_one (s M : Nat) (A : Nat) (c : Int) (E : Nat) (hs : s ≤ 1) (h1 : M < 9007199254740992) (h2 : 4503599627370496 ≤ M) (hE : E < 2048) (hc : c + 1023 = (E : Int)) : iter (spec_FloatBits.b1 (((s * 9223372036854775808 : Nat) : Int), A)) (wd M 1022, c) = some ((s * 9223372036854775808 + E * 4503599627370496 + (M - 4503599627370496) : Nat) : Int) := by
 have hv := wd_v h1 (.inr h2) (show 1022 ≤ 2045 by omega)
 have hlt := cmp_lt hv v1
 have hnl : ¬ M * pw 1022 < 4503599627370496 * pw 1022 := Nat.not_lt.2 (p_ge h2 (Nat.le_refl _))
 rw [decide_eq_false hnl] at hlt
 have hsum : M * pw 1022 = U1 + (M - 4503599627370496) * pw 1022 := by
  rw [U1_eq, ← Nat.add_mul, show 4503599627370496 + (M - 4503599627370496) = M by omega]
 have hK : M - 4503599627370496 < 9007199254740992 := by omega
 rw [hsum] at hv
 have hs1 := far_sub1 hv (rep_of hK 1022 (by omega))
 have hb := far_big hs1 (by rw [Nat.mul_assoc, ← pw_add]; exact rep_of hK _ (by omega))
 rw [Nat.mul_assoc, ← pw_add] at hb
 have hi := f2i_v hb (by omega)
 refine iter_r ?_
 unfold spec_FloatBits.b1
 simp only [hlt, hi, Bool.false_and, Bool.false_eq_true, if_false, Option.bind_some]
 rw [hc, bits_num s E _ hs hE (by omega)]
theorem fb_up (s M : Nat) (A : Nat) (hs : s ≤ 1) (h1 : M < 9007199254740992) (h2 : 4503599627370496 ≤ M) : ∀ (j i : Nat), i + j ≤ 1022 → iter (spec_FloatBits.b1 (((s * 9223372036854775808 : Nat) : Int), A)) (wd M (1022 - j), -(i : Int)) = some ((s * 9223372036854775808 + (1023 - i - j) * 4503599627370496 + (M - 4503599627370496) : Nat) : Int) := by
 intro j
 induction j with
 | zero => intro i hi; exact fb_one s M A _ _ hs h1 h2 (by omega) (by omega)
 | succ j ih =>
  intro i hi
  have hv := wd_v h1 (.inr h2) (show 1022 - (j + 1) ≤ 2045 by omega)
  have hlt := cmp_lt hv v1
  have hl : M * pw (1022 - (j + 1)) < 4503599627370496 * pw 1022 := p_lt 1021 1022 h1 (by omega) rfl
  rw [decide_eq_true hl] at hlt
  have he : M * pw (1022 - (j + 1)) * 2 = M * pw (1022 - j) := by
   rw [Nat.mul_assoc, ← pw_succ, show 1022 - (j + 1) + 1 = 1022 - j by omega]
  have hd := far_dbl hv (by rw [he]; exact rep_of h1 _ (by omega))
  rw [he] at hd
  have hw := hd.eq (wd_v h1 (.inr h2) (show 1022 - j ≤ 2045 by omega))
  have hstep : spec_FloatBits.b1 (((s * 9223372036854775808 : Nat) : Int), A) (wd M (1022 - (j + 1)), -(i : Int)) = some (.inl (wd M (1022 - j), -((i + 1 : Nat) : Int))) := by
   unfold spec_FloatBits.b1
   simp only [hlt, Bool.true_and]
   rw [if_pos (by simp; omega), hw, w64 (by omega) (by omega), show -(i : Int) - 1 = -((i + 1 : Nat) : Int) by omega]
  rw [iter_l hstep, ih (i + 1) (by omega), show 1023 - (i + 1) - j = 1023 - i - (j + 1) by omega]
theorem fb_sub (s M : Nat) (A : Nat) (hs : s ≤ 1) (h1 : M < 4503599627370496) : ∀ (j i a : Nat), i + j = 1022 → IsV a false (M * pw i) → iter (spec_FloatBits.b1 (((s * 9223372036854775808 : Nat) : Int), A)) (a, -(i : Int)) = some ((s * 9223372036854775808 + M : Nat) : Int) := by
 intro j
 induction j with
 | zero =>
  intro i a hi hv
  have hlt := cmp_lt hv v1
  have hl : M * pw i < 4503599627370496 * pw 1022 := by
   rw [show i = 1022 by omega]
   exact Nat.mul_lt_mul_of_pos_right h1 (pw_pos _)
  rw [decide_eq_true hl] at hlt
  have hb := far_big hv (by rw [Nat.mul_assoc, ← pw_add]; exact rep_of (by omega) _ (by omega))
  rw [Nat.mul_assoc, ← pw_add, show i + 52 = 1074 by omega] at hb
  have hi2 := f2i_v hb (by omega)
  refine iter_r ?_
  unfold spec_FloatBits.b1
  have hc : decide (-(i : Int) > -1022) = false := by simp; omega
  simp only [hlt, hc, hi2, Bool.true_and, Bool.false_eq_true, if_false, if_true, Option.bind_some]
  rw [bits_sub s M hs h1]
 | succ j ih =>
  intro i a hi hv
  have hlt := cmp_lt hv v1
  have hl : M * pw i < 4503599627370496 * pw 1022 := p_lt 1021 1022 (by omega) (by omega) rfl
  rw [decide_eq_true hl] at hlt
  have he : M * pw i * 2 = M * pw (i + 1) := by rw [Nat.mul_assoc, ← pw_succ]
  have hd := far_dbl hv (by rw [he]; exact rep_of (by omega) _ (by omega))
  rw [he] at hd
  have hstep : spec_FloatBits.b1 (((s * 9223372036854775808 : Nat) : Int), A) (a, -(i : Int)) = some (.inl (far .mul a 4611686018427387904, -((i + 1 : Nat) : Int))) := by
   unfold spec_FloatBits.b1
   simp only [hlt, Bool.true_and]
   rw [if_pos (by simp; omega), w64 (by omega) (by omega), show -(i : Int) - 1 = -((i + 1 : Nat) : Int) by omega]
  rw [iter_l hstep, ih (i + 1) _ (by omega) hd]
theorem fb_pass {y : Int × Nat} {a u : Nat} {c : Int} (hv : IsV a false u) (hu : u < 4503599627370496 * pw 1023) : iter (spec_FloatBits.b0 y) (a, c) = iter (spec_FloatBits.b1 y) (a, c) := by
 refine iter_pass ?_
 unfold spec_FloatBits.b0
 have h1 := cmp_gt hv v2
 have h2 := cmp_eq hv v2
 rw [decide_eq_false (by omega)] at h1
 rw [decide_eq_false (by omega)] at h2
 simp only [h1, h2, Bool.or_self, Bool.false_eq_true, if_false]
theorem fb_down (y : Int × Nat) (M : Nat) (h1 : M < 9007199254740992) (h2 : 4503599627370496 ≤ M) : ∀ (n e : Nat) (c : Int), e = 1022 + n → e ≤ 2045 → 0 ≤ c → c ≤ 10000 - n → iter (spec_FloatBits.b0 y) (wd M e, c) = iter (spec_FloatBits.b1 y) (wd M 1022, c + n) := by
 intro n
 induction n with
 | zero =>
  intro e c he _ _ _
  have : e = 1022 := by omega
  subst this
  rw [fb_pass (wd_v h1 (.inr h2) (by omega)) (p_lt 1022 1023 h1 (by omega) rfl)]
  simp
 | succ n ih =>
  intro e c he he2 hc0 hc1
  obtain ⟨e, rfl⟩ : ∃ e', e = e' + 1 := ⟨e - 1, by omega⟩
  have hv := wd_v h1 (.inr h2) he2
  have g1 := cmp_gt hv v2
  have g2 := cmp_eq hv v2
  have hge : 4503599627370496 * pw 1023 ≤ M * pw (e + 1) := p_ge h2 (by omega)
  have hor : (fcmp .f64 (wd M (e + 1)) 4611686018427387904 == some .gt || fcmp .f64 (wd M (e + 1)) 4611686018427387904 == some .eq) = true := by
   rw [g1, g2, Bool.or_eq_true, decide_eq_true_eq, decide_eq_true_eq]
   generalize 4503599627370496 * pw 1023 = q at hge ⊢
   omega
  have hv2 : IsV (wd M (e + 1)) false (M * pw e * 2) := by rw [Nat.mul_assoc, ← pw_succ]; exact hv
  have hw := (far_half hv2 (rep_of h1 _ (by omega))).eq (wd_v h1 (.inr h2) (by omega))
  have hstep : spec_FloatBits.b0 y (wd M (e + 1), c) = some (.inl (wd M e, c + 1)) := by
   unfold spec_FloatBits.b0
   simp only [hor, if_true]
   rw [hw, w64 (by omega) (by omega)]
  rw [iter_l hstep, ih e (c + 1) (by omega) (by omega) (by omega) (by omega), show c + 1 + (n : Int) = c + ((n + 1 : Nat) : Int) by omega]
theorem xor_sign (r : Nat) (h : r < 9223372036854775808) : Op.negFloat .f64 (9223372036854775808 + r) = r := by
 show (9223372036854775808 + r) ^^^ 2 ^ 63 = r
 have e : 9223372036854775808 + r = 2 ^ 63 ||| r := by
  have := Nat.two_pow_add_eq_or_of_lt (i := 63) (b := r) h 1
  simpa using this
 have e2 : 2 ^ 63 ||| r = 2 ^ 63 ^^^ r := by
  apply Nat.eq_of_testBit_eq
  intro i
  rw [Nat.testBit_or, Nat.testBit_xor]
  by_cases hi : i = 63
  · subst hi
    have : r.testBit 63 = false := Nat.testBit_lt_two_pow h
    rw [this]; simp
  · have : (2 ^ 63).testBit i = false := by rw [Nat.testBit_two_pow]; simp; omega
    rw [this]; simp
 rw [e, e2, Nat.xor_comm (2 ^ 63) r, Nat.xor_assoc, Nat.xor_self, Nat.xor_zero]
theorem fin_word {x : Nat} (hx : x < 18446744073709551616) (h : x % 9223372036854775808 < 9218868437227405312) : ∃ s M e, s ≤ 1 ∧ M < 9007199254740992 ∧ (e = 0 ∨ 4503599627370496 ≤ M) ∧ e ≤ 2045 ∧ x = s * 9223372036854775808 + wd M e := by
 refine ⟨x / 9223372036854775808, ?_⟩
 by_cases hr : x % 9223372036854775808 < 4503599627370496
 · exact ⟨x % 9223372036854775808, 0, by omega, by omega, .inl rfl, by omega, by rw [wd_eq]; omega⟩
 · refine ⟨4503599627370496 + x % 9223372036854775808 % 4503599627370496, x % 9223372036854775808 / 4503599627370496 - 1, by omega, by omega, .inr (by omega), by omega, ?_⟩
   rw [wd_eq]; omega
theorem fb_loops (s M e : Nat) (A : Nat) (hs : s ≤ 1) (h1 : M < 9007199254740992) (h2 : e = 0 ∨ 4503599627370496 ≤ M) (h3 : e ≤ 2045) : iter (spec_FloatBits.b0 (((s * 9223372036854775808 : Nat) : Int), A)) (wd M e, (0 : Int)) = some ((s * 9223372036854775808 + wd M e : Nat) : Int) := by
 by_cases hm : 4503599627370496 ≤ M
 · by_cases he : 1022 ≤ e
   · rw [fb_down _ M h1 hm (e - 1022) e 0 (by omega) h3 (by omega) (by omega)]
     rw [fb_one s M A _ (e + 1) hs h1 hm (by omega) (by omega), wd_eq, show s * 9223372036854775808 + (e + 1) * 4503599627370496 + (M - 4503599627370496) = s * 9223372036854775808 + (e * 4503599627370496 + M) by omega]
   · rw [fb_pass (wd_v h1 (.inr hm) h3) (p_lt 1022 1023 h1 (by omega) rfl)]
     have := fb_up s M A hs h1 hm (1022 - e) 0 (by omega)
     rw [show 1022 - (1022 - e) = e by omega] at this
     rw [show (0 : Int) = -((0 : Nat) : Int) by simp, this, wd_eq, show s * 9223372036854775808 + (1023 - 0 - (1022 - e)) * 4503599627370496 + (M - 4503599627370496) = s * 9223372036854775808 + (e * 4503599627370496 + M) by omega]
 · have he : e = 0 := by omega
   subst he
   have hv := wd_v h1 (.inl rfl) h3
   rw [fb_pass hv (p_lt 1022 1023 h1 (by omega) rfl)]
   have h0 : M * pw 0 = M * pw 0 := rfl
   have := fb_sub s M A hs (by omega) 1022 0 (wd M 0) (by omega) hv
   rw [show (0 : Int) = -((0 : Nat) : Int) by simp, this, wd_eq, show 0 * 4503599627370496 + M = M by omega]
theorem nan_word {x : Nat} (h : okF x) (hn : isN x = true) : x = nanB := by rw [← h.1, cn_nan hn]
theorem fb_nan : spec_FloatBits.f 9221120237041090560 = some 9221120237041090560 := by
 unfold spec_FloatBits.f
 rw [if_pos (by decide)]
theorem fb_inf : spec_FloatBits.f 9218868437227405312 = some 9218868437227405312 := by
 have h1 : (fcmp .f64 9218868437227405312 9218868437227405312 != some .eq) = false := by decide
 have h2 : (fcmp .f64 9218868437227405312 0 == some .lt) = false := by decide
 have h3 : (fcmp .f64 9218868437227405312 0 == some .eq) = false := by decide
 have h4 : (fcmp .f64 9218868437227405312 9218868437227405311 == some .gt) = true := by decide
 unfold spec_FloatBits.f
 simp only [h1, h2, h3, h4, Bool.false_eq_true, if_false, if_true, Option.bind_some]
 rfl
theorem fb_ninf : spec_FloatBits.f 18442240474082181120 = some 18442240474082181120 := by
 have h1 : (fcmp .f64 18442240474082181120 18442240474082181120 != some .eq) = false := by decide
 have h2 : (fcmp .f64 18442240474082181120 0 == some .lt) = true := by decide
 have h0 : fneg 18442240474082181120 = 9218868437227405312 := by decide
 have h3 : (fcmp .f64 9218868437227405312 0 == some .eq) = false := by decide
 have h4 : (fcmp .f64 9218868437227405312 9218868437227405311 == some .gt) = true := by decide
 unfold spec_FloatBits.f
 simp only [h1, h2, h0, h3, h4, Bool.false_eq_true, if_false, if_true, Option.bind_some]
 rfl
theorem fb_zero : spec_FloatBits.f 0 = some 0 := by
 have h1 : (fcmp .f64 0 0 != some .eq) = false := by decide
 have h2 : (fcmp .f64 0 0 == some .lt) = false := by decide
 have h3 : (fcmp .f64 0 0 == some .eq) = true := by decide
 have h4 : (fcmp .f64 (far .quo 4607182418800017408 0) 0 == some .lt) = false := by decide
 unfold spec_FloatBits.f
 simp only [h1, h2, h3, h4, Bool.false_eq_true, if_false, if_true, Option.bind_some]
theorem fb_nzero : spec_FloatBits.f 9223372036854775808 = some 9223372036854775808 := by
 have h1 : (fcmp .f64 9223372036854775808 9223372036854775808 != some .eq) = false := by decide
 have h2 : (fcmp .f64 9223372036854775808 0 == some .lt) = false := by decide
 have h3 : (fcmp .f64 9223372036854775808 0 == some .eq) = true := by decide
 have h4 : (fcmp .f64 (far .quo 4607182418800017408 9223372036854775808) 0 == some .lt) = true := by decide
 have h5 : (fcmp .f64 (fneg 9223372036854775808) 0 == some .eq) = true := by decide
 unfold spec_FloatBits.f
 simp only [h1, h2, h3, h4, h5, Bool.false_eq_true, if_false, if_true, Option.bind_some]
theorem ifF {α : Type} {b : Bool} {x y : α} (h : b = false) : (if b = true then x else y) = y := by subst h; rfl
theorem ifT {α : Type} {b : Bool} {x y : α} (h : b = true) : (if b = true then x else y) = x := by subst h; rfl
theorem cmp_self {w u : Nat} {s : Bool} (hw : IsV w s u) : (fcmp .f64 w w != some .eq) = false := by
 have : fcmp .f64 w w = some .eq := by
  show D.order w w = _
  rw [order_v hw hw]
  show (some (compareOfLessAndEq _ _)) = some _
  unfold compareOfLessAndEq
  rw [if_neg (Int.lt_irrefl _), if_pos rfl]
 rw [this]; rfl
theorem cmp_le {M e : Nat} (h1 : M < 9007199254740992) (h3 : e ≤ 2045) : ¬ 9007199254740991 * pw 2045 < M * pw e := by
 have : M * pw e ≤ 9007199254740991 * pw 2045 := Nat.mul_le_mul (by omega) (pw_le h3)
 exact Nat.not_lt.2 this
section
variable {M e : Nat} (h1 : M < 9007199254740992) (h2 : e = 0 ∨ 4503599627370496 ≤ M) (h3 : e ≤ 2045) (hM : 0 < M)
include h1 h2 h3
theorem wd_lt : wd M e < 9218868437227405312 := by rw [wd_eq]; omega
theorem wd_max : (fcmp .f64 (wd M e) 9218868437227405311 == some .gt) = false := by
 rw [cmp_gt (wd_v h1 h2 h3) vM, decide_eq_false (cmp_le h1 h3)]
theorem wd_neg : IsV (9223372036854775808 + wd M e) true (M * pw e) := ⟨M, e, h1, h2, h3, rfl, by rw [wd_eq]; rfl⟩
include hM
theorem wd_pos : 0 < M * pw e := Nat.mul_pos hM (pw_pos e)
theorem wd_ne0 : (fcmp .f64 (wd M e) 0 == some .eq) = false := by
 have := wd_pos h1 h2 h3 hM
 rw [cmp_eq (wd_v h1 h2 h3) v0, decide_eq_false (Nat.ne_of_gt this)]
theorem wd_nl : (fcmp .f64 (wd M e) 0 == some .lt) = false := by
 rw [cmp_lt (wd_v h1 h2 h3) v0, decide_eq_false (Nat.not_lt_zero _)]
theorem wd_gt : (fcmp .f64 (wd M e) 0 == some .gt) = true := by
 have := wd_pos h1 h2 h3 hM
 rw [cmp_gt (wd_v h1 h2 h3) v0, decide_eq_true this]
theorem neg_cmp : fcmp .f64 (9223372036854775808 + wd M e) 0 = some .lt := by
 have hp := wd_pos h1 h2 h3 hM
 have ho := order_v (wd_neg h1 h2 h3) v0
 rw [signed_t, signed_f, Nat.pow_zero, Nat.mul_one, Nat.zero_mul] at ho
 show D.order _ _ = _
 rw [ho]
 show (some (compareOfLessAndEq _ _)) = some _
 unfold compareOfLessAndEq
 generalize M * pw e = q at hp
 rw [if_pos (show (-((q : Nat) : Int)) < ((0 : Nat) : Int) by omega)]
theorem neg_neg' : fneg (9223372036854775808 + wd M e) = wd M e := by
 have hl := wd_lt h1 h2 h3
 unfold fneg
 have hn : isN (9223372036854775808 + wd M e) = false := by
  unfold isN
  generalize wd M e = q at hl
  simp; omega
 rw [hn, cond_false]
 exact xor_sign _ (by omega)
theorem fb_plus : spec_FloatBits.f (wd M e) = some ((wd M e : Nat) : Int) := by
 have hl := fb_loops 0 M e (wd M e) (by omega) h1 h2 h3
 have e0 : 0 * 9223372036854775808 + wd M e = wd M e := by rw [Nat.zero_mul, Nat.zero_add]
 have eS : ((0 * 9223372036854775808 : Nat) : Int) = 0 := by omega
 rw [e0, eS] at hl
 unfold spec_FloatBits.f
 rw [ifF (cmp_self (wd_v h1 h2 h3)), ifF (wd_nl h1 h2 h3 hM), ifF (wd_ne0 h1 h2 h3 hM), Option.bind_some, Option.bind_some, ifF rfl, Option.bind_some, ifF (wd_ne0 h1 h2 h3 hM), ifF (wd_max h1 h2 h3)]
 exact hl
theorem fb_minus : spec_FloatBits.f (9223372036854775808 + wd M e) = some ((9223372036854775808 + wd M e : Nat) : Int) := by
 have hl := fb_loops 1 M e (wd M e) (by omega) h1 h2 h3
 have eS : ((1 * 9223372036854775808 : Nat) : Int) = 9223372036854775808 := by omega
 rw [eS, Nat.one_mul] at hl
 have h4 : (fcmp .f64 (9223372036854775808 + wd M e) 0 == some .lt) = true := by rw [neg_cmp h1 h2 h3 hM]; rfl
 unfold spec_FloatBits.f
 rw [ifF (cmp_self (wd_neg h1 h2 h3)), ifT h4, Option.bind_some, ifT rfl, Option.bind_some, neg_neg' h1 h2 h3 hM, ifF (wd_ne0 h1 h2 h3 hM), ifF (wd_max h1 h2 h3)]
 exact hl
end
theorem word_cases {x : Nat} (h : okF x) (P : Nat → Prop) (hnan : P nanB) (hi : P 9218868437227405312) (hni : P 18442240474082181120) (h0 : P 0) (hn0 : P 9223372036854775808)
    (hp : ∀ M e, M < 9007199254740992 → (e = 0 ∨ 4503599627370496 ≤ M) → e ≤ 2045 → 0 < M → P (wd M e)) (hm : ∀ M e, M < 9007199254740992 → (e = 0 ∨ 4503599627370496 ≤ M) → e ≤ 2045 → 0 < M → P (9223372036854775808 + wd M e)) : P x := by
  cases hn : isN x with
  | true => rw [nan_word h hn]; exact hnan
  | false =>
    have hx := h.2
    have hr : x % 9223372036854775808 ≤ 9218868437227405312 := by
      unfold isN at hn
      have := of_decide_eq_false hn
      omega
    by_cases hi' : x % 9223372036854775808 = 9218868437227405312
    · rcases (show x = 9218868437227405312 ∨ x = 18442240474082181120 by omega) with rfl | rfl
      · exact hi
      · exact hni
    · obtain ⟨s, M, e, hs, h1, h2, h3, rfl⟩ := fin_word hx (by omega)
      by_cases hM : M = 0
      · subst hM
        have he : e = 0 := by omega
        subst he
        rcases (show s = 0 ∨ s = 1 by omega) with rfl | rfl
        · exact h0
        · exact hn0
      · rcases (show s = 0 ∨ s = 1 by omega) with rfl | rfl
        · rw [Nat.zero_mul, Nat.zero_add]; exact hp M e h1 h2 h3 (by omega)
        · rw [Nat.one_mul]; exact hm M e h1 h2 h3 (by omega)
theorem spec_FloatBits (x : Nat) (h : okF x) : spec_FloatBits.f x = some (x : Int) :=
 word_cases h (fun x => spec_FloatBits.f x = some (x : Int)) fb_nan fb_inf fb_ninf fb_zero fb_nzero (fun M e h1 h2 h3 hM => fb_plus h1 h2 h3 hM) (fun M e h1 h2 h3 hM => fb_minus h1 h2 h3 hM)
end Go.Proofs.YtiofnjnnocjbhaaDoor
set_option linter.unusedVariables false
set_option linter.unusedSimpArgs false
set_option linter.unusedSectionVars false
namespace Go.Proofs.YtiofnjnnocjbhaaDoor
open Go V Ieee
def highP (n k : Nat) : List Int := (List.range k).map fun j : Nat => ((n / 2 ^ (56 - 8 * j) % 256 : Nat) : Int)
def highB (n : Nat) : List Int := highP n 8
theorem highP_succ (n k : Nat) : highP n (k + 1) = highP n k ++ [((n / 2 ^ (56 - 8 * k) % 256 : Nat) : Int)] := by simp [highP, List.range_succ]
theorem highP_len (n k : Nat) : (highP n k).length = k := by simp [highP]
theorem highB_u8 (n : Nat) : ∀ x ∈ highB n, InK .u8 x := by
 intro x hx
 simp only [highB, highP, List.mem_map] at hx
 obtain ⟨j, _, rfl⟩ := hx
 have := Nat.mod_lt (n / 2 ^ (56 - 8 * j)) (show 256 > 0 by omega)
 exact u8_ok (by omega) (by omega)
theorem wrap8 (q : Nat) : IntKind.wrap .u8 ((q : Nat) : Int) = ((q % 256 : Nat) : Int) := by rw [IntKind.wrap_u8]; omega
theorem impl_highFirst (n : Nat) : impl_highFirst.f (n : Int) = some (highB n) := by
 unfold impl_highFirst.f
 have hst : (([] : List Int), (56 : Int)) = (highP n 0, (56 : Int) - 8 * ((0 : Nat) : Int)) := rfl
 rw [hst]
 refine iter_for 8 (fun k => (highP n k, (56 : Int) - 8 * (k : Int))) _ (fun k hk => ?_) ?_
 · unfold impl_highFirst.b0
   simp only []
   have e1 : (56 : Int) - 8 * (k : Int) = ((56 - 8 * k : Nat) : Int) := by omega
   rw [if_pos (by simp; omega), if_pos (by omega), if_pos (by rw [highP_len]; simp [Lim]; omega), e1, ishr_nat .u64 n _ (by show 56 - 8 * k ≤ 64; omega), wrap8, highP_succ, w64 (by omega) (by omega)]
   rw [show ((56 - 8 * k : Nat) : Int) - 8 = (56 : Int) - 8 * ((k + 1 : Nat) : Int) by omega]
 · unfold impl_highFirst.b0
   simp only []
   rw [if_neg (by simp)]; rfl
theorem spec_l3high (n : Nat) (h : n < 18446744073709551616) : spec_l3high.f (n : Int) = some (highB n) := by
 unfold spec_l3high.f
 have hst : (([] : List Int), (7 : Int)) = (highP n 0, (7 : Int) - ((0 : Nat) : Int)) := rfl
 rw [hst]
 refine iter_for 8 (fun k => (highP n k, (7 : Int) - (k : Int))) _ (fun k hk => ?_) ?_
 · unfold spec_l3high.b0
   simp only []
   have e1 : IntKind.wrap .u64 (IntKind.wrap .i64 ((8 : Int) * ((7 : Int) - (k : Int)))) = ((56 - 8 * k : Nat) : Int) := by
    rw [w64 (by omega) (by omega), show (8 : Int) * ((7 : Int) - (k : Int)) = ((56 - 8 * k : Nat) : Int) by omega, wu64 _ (by omega)]
   have h2 : iand .u64 ((n / 2 ^ (56 - 8 * k) : Nat) : Int) (255 : Int) = (((n / 2 ^ (56 - 8 * k)) &&& 255 : Nat) : Int) := iand_u64 _ 255 (Nat.lt_of_le_of_lt (Nat.div_le_self _ _) h) (by omega)
   have h3 : (n / 2 ^ (56 - 8 * k)) &&& 255 = n / 2 ^ (56 - 8 * k) % 256 := Nat.and_two_pow_sub_one_eq_mod _ 8
   rw [e1, if_pos (by simp; omega), if_pos (by omega), if_pos (by rw [highP_len]; simp [Lim]; omega), ishr_nat .u64 n _ (by show 56 - 8 * k ≤ 64; omega), h2, h3, wrap8, Nat.mod_mod, highP_succ, w64 (by omega) (by omega)]
   rw [show (7 : Int) - (k : Int) - 1 = (7 : Int) - ((k + 1 : Nat) : Int) by omega]
 · unfold spec_l3high.b0
   simp only []
   rw [if_neg (by simp)]; rfl
end Go.Proofs.YtiofnjnnocjbhaaDoor
set_option linter.unusedVariables false
set_option linter.unusedSimpArgs false
set_option linter.unusedSectionVars false
namespace Go.Proofs.YtiofnjnnocjbhaaDoor
open Go V Ieee
def U8 (l : List Int) : Prop := ∀ x ∈ l, InK .u8 x
theorem str_data' (xs : List Int) : (str xs).data.toList = xs.map fun n => UInt8.ofNat n.toNat := by
 have key : ∀ (xs : List Int) (r : ByteArray), (xs.foldl (fun (r : ByteArray) n => r.push (UInt8.ofNat n.toNat)) r).data.toList = r.data.toList ++ xs.map fun n => UInt8.ofNat n.toNat := by
  intro xs
  induction xs with
  | nil => intro r; simp
  | cons x xs ih => intro r; rw [List.foldl_cons, ih]; simp
 have := key xs ByteArray.empty
 simpa [str] using this
theorem bts_str {xs : List Int} (h : U8 xs) : bts (str xs) = xs := by
 unfold bts
 rw [str_data', List.map_map]
 conv => rhs; rw [← List.map_id xs]
 apply List.map_congr_left
 intro x hx
 have hx' := u8n (h x hx)
 simp only [Function.comp, id]
 rw [UInt8.toNat_ofNat', Nat.mod_eq_of_lt (by omega)]
 omega
theorem bts_app (a b : ByteArray) : bts (a ++ b) = bts a ++ bts b := by
 unfold bts
 simp
theorem size_str {xs : List Int} (h : U8 xs) : (str xs).size = xs.length := by rw [← bts_len, bts_str h]
def hx (n : Nat) : Int := if n < 10 then ((48 + n : Nat) : Int) else ((87 + n : Nat) : Int)
def HX (b : List Int) : List Int := b.flatMap fun x => [hx (x.toNat / 16), hx (x.toNat % 16)]
theorem hx_u8 (n : Nat) (h : n < 16) : InK .u8 (hx n) := by
 unfold hx
 split <;> exact u8_ok (by omega) (by omega)
theorem HX_u8 {b : List Int} (h : U8 b) : U8 (HX b) := by
 intro x hx'
 simp only [HX, List.mem_flatMap] at hx'
 obtain ⟨y, hy, hx'⟩ := hx'
 have := u8n (h y hy)
 simp only [List.mem_cons, List.not_mem_nil, or_false] at hx'
 rcases hx' with rfl | rfl <;> exact hx_u8 _ (by omega)
theorem HX_len (b : List Int) : (HX b).length = 2 * b.length := by
 induction b with
 | nil => rfl
 | cons x b ih => simp only [HX, List.flatMap_cons, List.length_append, List.length_cons, List.length_nil] at ih ⊢; omega
theorem HX_succ (b : List Int) (k : Nat) (h : k < b.length) : HX (b.take (k + 1)) = HX (b.take k) ++ [hx (b[k].toNat / 16), hx (b[k].toNat % 16)] := by
 rw [List.take_succ_eq_append_getElem h]
 simp only [HX, List.flatMap_append, List.flatMap_cons, List.flatMap_nil, List.append_nil]
theorem dig_at (n : Nat) (h : n < 16) : at_ ([(48 : Int), (49 : Int), (50 : Int), (51 : Int), (52 : Int), (53 : Int), (54 : Int), (55 : Int), (56 : Int), (57 : Int), (97 : Int), (98 : Int), (99 : Int), (100 : Int), (101 : Int), (102 : Int)]) (n : Int) = hx n := by
 have : ∀ m : Fin 16, at_ ([(48 : Int), (49 : Int), (50 : Int), (51 : Int), (52 : Int), (53 : Int), (54 : Int), (55 : Int), (56 : Int), (57 : Int), (97 : Int), (98 : Int), (99 : Int), (100 : Int), (101 : Int), (102 : Int)]) ((m : Nat) : Int) = hx m := by decide
 exact this ⟨n, h⟩
theorem bts_dig : bts (⟨#[48, 49, 50, 51, 52, 53, 54, 55, 56, 57, 97, 98, 99, 100, 101, 102]⟩ : ByteArray) = [(48 : Int), (49 : Int), (50 : Int), (51 : Int), (52 : Int), (53 : Int), (54 : Int), (55 : Int), (56 : Int), (57 : Int), (97 : Int), (98 : Int), (99 : Int), (100 : Int), (101 : Int), (102 : Int)] := by decide
theorem shr4 (n : Nat) : ishr .u8 (n : Int) (4 : Int) = ((n / 16 : Nat) : Int) := ishr_nat .u8 n 4 (by show 4 ≤ 8; omega)
theorem and15 (n : Nat) (h : n < 256) : iand .u8 (n : Int) (15 : Int) = ((n % 16 : Nat) : Int) := by
 have : ∀ m : Fin 256, iand .u8 ((m : Nat) : Int) (15 : Int) = (((m : Nat) % 16 : Nat) : Int) := by decide +kernel
 exact this ⟨n, h⟩
theorem spec_l18hex (b : List Int) (h : U8 b) (hl : b.length ≤ 1048576) : spec_l18hex.f b = some (HX b) := by
 unfold spec_l18hex.f
 have hst : (([] : List Int), (0 : Int)) = (HX (b.take 0), ((0 : Nat) : Int)) := by simp [HX]
 rw [hst]
 refine iter_for b.length (fun k => (HX (b.take k), (k : Int))) _ (fun k hk => ?_) ?_
 · unfold spec_l18hex.b0
   simp only []
   have hu := u8n (h _ (List.getElem_mem hk))
   have hlen : (HX (b.take k)).length ≤ 2097152 := by rw [HX_len, List.length_take]; omega
   have e1 : at_ b (k : Int) = ((b[k].toNat : Nat) : Int) := by rw [at_nat b k hk]; exact hu.1
   have e2 : IntKind.wrap .u8 (Int.tdiv ((b[k].toNat : Nat) : Int) (16 : Int)) = ((b[k].toNat / 16 : Nat) : Int) := by
    have : Int.tdiv ((b[k].toNat : Nat) : Int) (16 : Int) = ((b[k].toNat / 16 : Nat) : Int) := rfl
    rw [this, wrap8]; omega
   have e3 : Int.tmod ((b[k].toNat : Nat) : Int) (16 : Int) = ((b[k].toNat % 16 : Nat) : Int) := rfl
   rw [e1, e2, e3, dig_at _ (by omega), dig_at _ (by omega)]
   rw [if_pos (by simp; omega), if_pos (by omega), if_pos ⟨by omega, by simp only [List.length_cons, List.length_nil]; omega⟩, if_pos (by simp [Lim]; omega), if_pos (by omega), if_pos ⟨by omega, by simp only [List.length_cons, List.length_nil]; omega⟩, if_pos (by simp [Lim]; omega)]
   rw [w64 (by omega) (by omega), List.append_assoc, HX_succ b k hk]
   rfl
 · unfold spec_l18hex.b0
   simp only []
   rw [if_neg (by simp), List.take_length]; rfl
theorem impl_hexText (b : List Int) (h : U8 b) (hl : b.length ≤ 1048576) : impl_hexText.f b = some (str (HX b)) := by
 unfold impl_hexText.f
 have hst : (([] : List Int), (0 : Int)) = (HX (b.take 0), ((0 : Nat) : Int)) := by simp [HX]
 rw [hst]
 refine iter_for b.length (fun k => (HX (b.take k), (k : Int))) _ (fun k hk => ?_) ?_
 · unfold impl_hexText.b0
   simp only []
   have hu := u8n (h _ (List.getElem_mem hk))
   have hlen : (HX (b.take k)).length ≤ 2097152 := by rw [HX_len, List.length_take]; omega
   have e1 : at_ b (k : Int) = ((b[k].toNat : Nat) : Int) := by rw [at_nat b k hk]; exact hu.1
   have hsz : ((⟨#[48, 49, 50, 51, 52, 53, 54, 55, 56, 57, 97, 98, 99, 100, 101, 102]⟩ : ByteArray).size : Int) = 16 := rfl
   rw [e1, shr4, and15 _ hu.2, bts_dig, dig_at _ (by omega), dig_at _ (by omega), hsz]
   rw [if_pos (by simp; omega), if_pos (by omega), if_pos (by omega), if_pos (by omega), if_pos (by simp [Lim]; omega), w64 (by omega) (by omega), HX_succ b k hk]
   rfl
 · unfold impl_hexText.b0
   simp only []
   rw [if_neg (by simp), List.take_length]; rfl
end Go.Proofs.YtiofnjnnocjbhaaDoor
set_option linter.unusedVariables false
set_option linter.unusedSimpArgs false
set_option linter.unusedSectionVars false
namespace Go.Proofs.YtiofnjnnocjbhaaDoor
open Go V Ieee
def DG (u : Nat) : List Int := (Lib.decDigits u).map fun b => (b.toNat : Int)
def IT (n : Int) : List Int := (Lib.itoa n).map fun b => (b.toNat : Int)
theorem bts_itoa (n : Int) : bts ⟨(Lib.itoa n).toArray⟩ = IT n := rfl
theorem DG_lt {u : Nat} (h : u < 10) : DG u = [((48 + u : Nat) : Int)] := by
 unfold DG
 rw [Lib.decDigits, dif_pos h]
 simp only [List.map_cons, List.map_nil, UInt8.toNat_ofNat']
 rw [Nat.mod_eq_of_lt (by omega)]
theorem DG_ge {u : Nat} (h : ¬ u < 10) : DG u = DG (u / 10) ++ [((48 + u % 10 : Nat) : Int)] := by
 unfold DG
 conv => lhs; rw [Lib.decDigits, dif_neg h]
 simp only [List.map_append, List.map_cons, List.map_nil, UInt8.toNat_ofNat']
 rw [Nat.mod_eq_of_lt (by omega)]
theorem IT_u8 (n : Int) : U8 (IT n) := by
 intro x hx
 simp only [IT, List.mem_map] at hx
 obtain ⟨b, _, rfl⟩ := hx
 have := b.toNat_lt
 exact u8_ok (by omega) (by omega)
theorem IT_len (n : Int) (h : InK .i64 n) : (IT n).length ≤ 21 := by
 have := i64_of h
 simp only [IT, List.length_map]
 exact Lib.itoa_length_le n this.1 this.2
theorem rev_loop (x : Int × List Int) (u : Nat) (hu : u < 10) (hx : x = ((u : Int), x.2)) (hl : x.2.length ≤ 1000) :
    iter (spec_l18digits.b1 x) (([] : List Int), IntKind.wrap .i64 (((x.2 ++ [(IntKind.wrap .u8 (IntKind.wrap .i64 ((48 : Int) + x.1)))]).length : Int) - (1 : Int))) = some ((x.2 ++ [((48 + u : Nat) : Int)]).reverse) := by
  obtain ⟨xa, xb⟩ := x
  simp only at hl
  obtain rfl : xa = (u : Int) := (Prod.mk.inj hx).1
  have e1 : IntKind.wrap .u8 (IntKind.wrap .i64 ((48 : Int) + (u : Int))) = ((48 + u : Nat) : Int) := by
    rw [w64 (by omega) (by omega), show (48 : Int) + (u : Int) = ((48 + u : Nat) : Int) by omega, wrap8]; omega
  have hb : spec_l18digits.b1 ((u : Int), xb) = fun x34 => (if (decide (x34.2 ≥ (0 : Int))) = true then (if 0 ≤ x34.2 ∧ x34.2 < ((xb ++ [((48 + u : Nat) : Int)]).length : Int) then (if x34.1.length + ([(at_ (xb ++ [((48 + u : Nat) : Int)]) x34.2)]).length ≤ Lim then (some (Sum.inl ((x34.1 ++ [(at_ (xb ++ [((48 + u : Nat) : Int)]) x34.2)]), (IntKind.wrap .i64 (x34.2 - (1 : Int)))))) else none) else none) else ((some x34.1).bind fun o => some (Sum.inr o))) := by
    funext y
    unfold spec_l18digits.b1
    simp only [e1]
  rw [hb]
  simp only [e1]
  generalize hB : xb ++ [((48 + u : Nat) : Int)] = B
  have hBl : B.length = xb.length + 1 := by rw [← hB]; simp
  have hst : (([] : List Int), IntKind.wrap .i64 ((B.length : Int) - 1)) = (B.reverse.take 0, (B.length : Int) - 1 - ((0 : Nat) : Int)) := by rw [w64 (by omega) (by omega)]; simp
  rw [hst]
  refine iter_for B.length (fun k => (B.reverse.take k, (B.length : Int) - 1 - (k : Int))) _ (fun k hk => ?_) ?_
  · simp only []
    have e2 : (B.length : Int) - 1 - (k : Int) = ((B.length - 1 - k : Nat) : Int) := by omega
    have hlt : B.length - 1 - k < B.length := by omega
    rw [e2, if_pos (by simp), if_pos (by omega), at_nat B _ hlt, if_pos (by simp [Lim]; omega), w64 (by omega) (by omega)]
    rw [List.take_succ_eq_append_getElem (by simpa using hk), List.getElem_reverse, show ((B.length - 1 - k : Nat) : Int) - 1 = (B.length : Int) - 1 - ((k + 1 : Nat) : Int) by omega]
  · simp only []
    rw [if_neg (by simp; omega)]
    simp [List.take_of_length_le]
theorem dig_loop : ∀ (k u : Nat) (back : List Int), u < 10 ^ k → (u : Int) ≤ 9223372036854775807 → back.length + k ≤ 1000 → iter spec_l18digits.b0 ((u : Int), back) = some (DG u ++ back.reverse)
  | 0, u, back, h, h2, hl => by
    obtain rfl : u = 0 := by simpa using h
    rw [DG_lt (by omega)]
    have hr := rev_loop ((0 : Nat), back) 0 (by omega) rfl (by simpa using hl)
    refine iter_pass ?_ |>.trans (hr.trans ?_)
    · unfold spec_l18digits.b0
      simp only []
      rw [if_neg (by simp), if_pos (by simp [Lim]; omega)]
    · simp
  | k + 1, u, back, h, h2, hl => by
    by_cases hu : u < 10
    · rw [DG_lt hu]
      have hr := rev_loop ((u : Nat), back) u hu rfl (by simp; omega)
      refine iter_pass ?_ |>.trans (hr.trans ?_)
      · unfold spec_l18digits.b0
        simp only []
        rw [if_neg (by simp; omega), if_pos (by simp [Lim]; omega)]
      · simp
    · have e1 : IntKind.wrap .u8 (IntKind.wrap .i64 ((48 : Int) + Int.tmod (u : Int) 10)) = ((48 + u % 10 : Nat) : Int) := by
        have : Int.tmod (u : Int) (10 : Int) = ((u % 10 : Nat) : Int) := rfl
        rw [this, w64 (by omega) (by omega), show (48 : Int) + ((u % 10 : Nat) : Int) = ((48 + u % 10 : Nat) : Int) by omega, wrap8]; omega
      have e2 : IntKind.wrap .i64 (Int.tdiv (u : Int) 10) = ((u / 10 : Nat) : Int) := by
        have : Int.tdiv (u : Int) (10 : Int) = ((u / 10 : Nat) : Int) := rfl
        rw [this, w64 (by omega) (by omega)]
      have hs : spec_l18digits.b0 ((u : Int), back) = some (.inl (((u / 10 : Nat) : Int), back ++ [((48 + u % 10 : Nat) : Int)])) := by
        unfold spec_l18digits.b0
        simp only [e1, e2]
        rw [if_pos (by simp; omega), if_pos (by simp [Lim]; omega)]
      rw [iter_l hs, dig_loop k (u / 10) _ (by rw [Nat.pow_succ] at h; omega) (by omega) (by simp; omega), DG_ge hu]
      simp
theorem b1_same : spec_l18digits0.b1 = spec_l18digits.b1 := by
 funext x y
 unfold spec_l18digits0.b1 spec_l18digits.b1
 rfl
theorem b0_same : spec_l18digits0.b0 = spec_l18digits.b0 := by
 funext x
 unfold spec_l18digits0.b0 spec_l18digits.b0
 rw [b1_same]
theorem digits0 (u : Nat) (h : (u : Int) ≤ 9223372036854775807) : spec_l18digits0.f (u : Int) = some (DG u) := by
 unfold spec_l18digits0.f
 rw [if_neg (by simp), if_neg (by simp), b0_same, dig_loop 19 u [] (by omega) h (by simp)]
 simp
theorem spec_l18digits (n : Int) (h : InK .i64 n) : spec_l18digits.f n = some (IT n) := by
 have hn := i64_of h
 unfold spec_l18digits.f
 by_cases hm : n = -9223372036854775808
 · subst hm
   rw [if_pos (by simp)]
   have : IT (-9223372036854775808) = 45 :: DG 9223372036854775808 := rfl
   rw [this]
   iterate 18 rw [DG_ge (by omega)]
   rw [DG_lt (by omega)]
   rfl
 · rw [if_neg (by simp [hm])]
   by_cases hs : n < 0
   · obtain ⟨u, rfl⟩ : ∃ u : Nat, n = -(u : Int) := ⟨n.natAbs, by omega⟩
     rw [if_pos (by simpa using hs), show IntKind.wrap .i64 (0 - -(u : Int)) = (u : Int) by rw [w64 (by omega) (by omega)]; omega, digits0 u (by omega), Option.bind_some]
     have e : IT (-(u : Int)) = 45 :: DG u := by unfold IT Lib.itoa; rw [if_pos hs]; simp [DG]
     have hl := IT_len _ h
     rw [e] at hl
     rw [if_pos (by simp at hl; simp [Lim]; omega), e]; rfl
   · obtain ⟨u, rfl⟩ := Int.eq_ofNat_of_zero_le (show 0 ≤ n by omega)
     rw [if_neg (by simp), dig_loop 19 u [] (by omega) (by omega) (by simp)]
     have e : IT (u : Int) = DG u := by unfold IT Lib.itoa; rw [if_neg hs]; simp [DG]
     rw [e]; simp
end Go.Proofs.YtiofnjnnocjbhaaDoor
set_option linter.unusedVariables false
set_option linter.unusedSimpArgs false
set_option linter.unusedSectionVars false
namespace Go.Proofs.YtiofnjnnocjbhaaDoor
open Go V Ieee
theorem wd_rng {M e : Nat} (h1 : M < 9007199254740992) (h3 : e ≤ 2045) (hM : 0 < M) : 0 < wd M e ∧ wd M e < 9218868437227405312 := by rw [wd_eq]; omega
theorem cmp_facts (x : Nat) (h : okF x) : (fcmp .f64 x x != some .eq) = decide (x = 9221120237041090560) ∧ (fcmp .f64 x 0 == some .eq) = decide (x = 0 ∨ x = 9223372036854775808) ∧
    (x ≠ 9221120237041090560 → (fcmp .f64 x 0 == some .gt) = decide (0 < x ∧ x < 9223372036854775808)) ∧ isN x = decide (x = 9221120237041090560) := by
  refine word_cases h (fun x => (fcmp .f64 x x != some .eq) = decide (x = 9221120237041090560) ∧ (fcmp .f64 x 0 == some .eq) = decide (x = 0 ∨ x = 9223372036854775808) ∧
    (x ≠ 9221120237041090560 → (fcmp .f64 x 0 == some .gt) = decide (0 < x ∧ x < 9223372036854775808)) ∧ isN x = decide (x = 9221120237041090560)) ?_ ?_ ?_ ?_ ?_ (fun M e h1 h2 h3 hM => ?_) (fun M e h1 h2 h3 hM => ?_)
  · exact ⟨by decide, by decide, fun h => absurd rfl h, by decide⟩
  · exact ⟨by decide, by decide, fun _ => by decide, by decide⟩
  · exact ⟨by decide, by decide, fun _ => by decide, by decide⟩
  · exact ⟨by decide, by decide, fun _ => by decide, by decide⟩
  · exact ⟨by decide, by decide, fun _ => by decide, by decide⟩
  · obtain ⟨q0, q1⟩ := wd_rng h1 h3 hM
    have c1 := cmp_self (wd_v h1 h2 h3)
    have c2 := wd_ne0 h1 h2 h3 hM
    have c3 := wd_gt h1 h2 h3 hM
    rw [c1, c2, c3]
    generalize wd M e = q at q0 q1
    refine ⟨?_, ?_, fun _ => ?_, ?_⟩
    · rw [decide_eq_false (by omega)]
    · rw [decide_eq_false (by omega)]
    · rw [decide_eq_true (by omega)]
    · unfold isN
      rw [decide_eq_false (by omega), decide_eq_false (by omega)]
  · obtain ⟨q0, q1⟩ := wd_rng h1 h3 hM
    have c1 := cmp_self (wd_neg h1 h2 h3)
    have c2 := neg_cmp h1 h2 h3 hM
    rw [c1, c2]
    generalize wd M e = q at q0 q1
    refine ⟨?_, ?_, fun _ => ?_, ?_⟩
    · rw [decide_eq_false (by omega)]
    · rw [decide_eq_false (by omega)]; rfl
    · rw [decide_eq_false (by omega)]; rfl
    · unfold isN
      rw [decide_eq_false (by omega), decide_eq_false (by omega)]
theorem ishr63 (n : Nat) : (ishr .u64 (n : Int) (63 : Int) == (1 : Int)) = decide (n / 9223372036854775808 = 1) := by
 have h2 : ishr .u64 (n : Int) (63 : Int) = ((n / 9223372036854775808 : Nat) : Int) := ishr_nat .u64 n 63 (by decide)
 rw [h2]
 generalize n / 9223372036854775808 = q
 by_cases hq : q = 1
 · rw [decide_eq_true hq, hq]; rfl
 · rw [decide_eq_false hq]; simp; omega
end Go.Proofs.YtiofnjnnocjbhaaDoor
set_option linter.unusedVariables false
set_option linter.unusedSimpArgs false
set_option linter.unusedSectionVars false
namespace Go.Proofs.YtiofnjnnocjbhaaDoor
open Go V Ieee
theorem within_rin (a b c : Int) : impl_within.f a b c = some (rin a b c) := rfl
def IOK (a : Item) : Bool := ((rin a.Kind 0 3 && ((a.N == (0 : Int)) || (a.Kind == (1 : Int)))) && (((a.F : Int) == 0) || (a.Kind == (2 : Int)))) && (((a.T.length : Int) == (0 : Int)) || ((a.Kind == (3 : Int)) && (decide ((a.T.length : Int) ≤ (40 : Int)))))
theorem impl_ItemOk (a : Item) : impl_ItemOk.f a = some (IOK a) := by
 unfold impl_ItemOk.f
 rw [within_rin, Option.bind_some]; rfl
theorem iok_iff (a : Item) : IOK a = true ↔ ((0 ≤ a.Kind ∧ a.Kind ≤ 3) ∧ (a.N = 0 ∨ a.Kind = 1)) ∧ (a.F = 0 ∨ a.Kind = 2) ∧ (a.T.length = 0 ∨ a.Kind = 3 ∧ a.T.length ≤ 40) := by
 simp only [IOK, rin, Bool.and_eq_true, Bool.or_eq_true, decide_eq_true_eq, beq_iff_eq]
 constructor
 · rintro ⟨⟨⟨h1, h2⟩, h3⟩, h4⟩; exact ⟨⟨h1, h2⟩, by omega, by omega⟩
 · rintro ⟨⟨h1, h2⟩, h3, h4⟩; exact ⟨⟨⟨h1, h2⟩, by omega⟩, by omega⟩
theorem spec_ItemOk (a : Item) (h : okF a.F) : spec_ItemOk.f a = some (IOK a) := by
  unfold spec_ItemOk.f
  rw [spec_FloatBits a.F h]
  obtain ⟨k, n, f, t⟩ := a
  have hi := iok_iff ⟨k, n, f, t⟩
  simp only at hi ⊢
  generalize t.length = l at hi ⊢
  by_cases c1 : (((decide (k < (0 : Int))) || (decide (k > (3 : Int)))) || (decide ((l : Int) > (40 : Int)))) = true
  · rw [if_pos c1]
    have : IOK ⟨k, n, f, t⟩ = false := by
      cases hh : IOK ⟨k, n, f, t⟩ with
      | false => rfl
      | true =>
        have := hi.1 hh
        simp only [Bool.or_eq_true, decide_eq_true_eq] at c1
        omega
    rw [this]
  · rw [if_neg c1]
    simp only [Bool.or_eq_true, decide_eq_true_eq, not_or] at c1
    by_cases c2 : ((k != (1 : Int)) && (n != (0 : Int))) = true
    · rw [if_pos c2]
      have : IOK ⟨k, n, f, t⟩ = false := by
        cases hh : IOK ⟨k, n, f, t⟩ with
        | false => rfl
        | true =>
          have := hi.1 hh
          simp only [Bool.and_eq_true, bne_iff_ne, ne_eq] at c2
          omega
      rw [this]
    · rw [if_neg c2]
      simp only [Bool.and_eq_true, bne_iff_ne, ne_eq, not_and, Decidable.not_not] at c2
      by_cases c3 : k = 2
      · rw [if_neg (by simp [c3])]
        simp only [Option.bind_some, Bool.false_eq_true, if_false]
        congr 1
        have e : ((k == (3 : Int)) || ((l : Int) == (0 : Int))) = decide (k = 3 ∨ l = 0) := by
          by_cases q : k = 3 <;> by_cases q2 : l = 0 <;> simp [q, q2]
        rw [e]
        cases hh : IOK ⟨k, n, f, t⟩ with
        | true => exact decide_eq_true (by have := hi.1 hh; omega)
        | false => exact decide_eq_false (fun hc => by
            have : IOK ⟨k, n, f, t⟩ = true := hi.2 (by omega)
            rw [hh] at this; cases this)
      · rw [if_pos (by simp [c3])]
        simp only [Option.bind_some]
        by_cases c4 : f = 0
        · rw [if_neg (by simp [c4])]
          congr 1
          have e : ((k == (3 : Int)) || ((l : Int) == (0 : Int))) = decide (k = 3 ∨ l = 0) := by
            by_cases q : k = 3 <;> by_cases q2 : l = 0 <;> simp [q, q2]
          rw [e]
          cases hh : IOK ⟨k, n, f, t⟩ with
          | true => exact decide_eq_true (by have := hi.1 hh; omega)
          | false => exact decide_eq_false (fun hc => by
              have : IOK ⟨k, n, f, t⟩ = true := hi.2 (by omega)
              rw [hh] at this; cases this)
        · rw [if_pos (by simp; exact c4)]
          have : IOK ⟨k, n, f, t⟩ = false := by
            cases hh : IOK ⟨k, n, f, t⟩ with
            | false => rfl
            | true =>
              have := hi.1 hh
              omega
          rw [this]
theorem iok_T {a : Item} (h : IOK a = true) : a.T.length ≤ 40 := by have := (iok_iff a).1 h; omega
end Go.Proofs.YtiofnjnnocjbhaaDoor
set_option linter.unusedVariables false
set_option linter.unusedSimpArgs false
set_option linter.unusedSectionVars false
namespace Go.Proofs.YtiofnjnnocjbhaaDoor
open Go V Ieee
theorem impl_FloatBits (x : Nat) (h : okF x) : impl_FloatBits.f x = some (x : Int) := by
 obtain ⟨c1, _, _, c4⟩ := cmp_facts x h
 unfold impl_FloatBits.f
 by_cases hx : x = 9221120237041090560
 · rw [ifT (by rw [c1]; exact decide_eq_true hx), hx]; rfl
 · rw [ifF (by rw [c1]; exact decide_eq_false hx), if_pos (by rw [c4]; exact decide_eq_false hx)]
end Go.Proofs.YtiofnjnnocjbhaaDoor
set_option linter.unusedVariables false
set_option linter.unusedSimpArgs false
set_option linter.unusedSectionVars false
namespace Go.Proofs.YtiofnjnnocjbhaaDoor
open Go V Ieee
def TX (a : Item) : List Int := if a.Kind = 1 then 105 :: IT a.N else if a.Kind = 2 then 102 :: HX (highB a.F) else if a.Kind = 3 then 116 :: HX a.T else [45]
theorem TX_u8 (a : Item) (h : U8 a.T) : U8 (TX a) := by
 have c : ∀ (x : Int) (l : List Int), InK .u8 x → U8 l → U8 (x :: l) := fun x l h1 h2 y hy => by
  rcases List.mem_cons.1 hy with rfl | hy
  · exact h1
  · exact h2 y hy
 unfold TX
 split
 · exact c _ _ (u8_ok (by omega) (by omega)) (IT_u8 _)
 · split
   · exact c _ _ (u8_ok (by omega) (by omega)) (HX_u8 (highB_u8 _))
   · split
     · exact c _ _ (u8_ok (by omega) (by omega)) (HX_u8 h)
     · exact c _ _ (u8_ok (by omega) (by omega)) (fun x hx => by cases hx)
theorem highB_len (n : Nat) : (highB n).length = 8 := by rw [highB, highP_len]
theorem impl_bitsText (x : Nat) (hx : okF x) : impl_bitsText.f x = some (str (HX (highB x))) := by
 unfold impl_bitsText.f
 rw [impl_FloatBits x hx, Option.bind_some, impl_highFirst, Option.bind_some, impl_hexText _ (highB_u8 x) (by rw [highB_len]; omega)]; rfl
theorem okF_lt {x : Nat} (h : okF x) : x < 18446744073709551616 := h.2
theorem bts_itemText (a : Item) (ha : ok_Item a) (hT : a.T.length ≤ 1000000) : ∃ t, impl_itemText.f a = some t ∧ bts t = TX a := by
 have hn := i64_of ha.2.1
 have hil := IT_len a.N ha.2.1
 unfold impl_itemText.f TX
 by_cases h1 : a.Kind = 1
 · rw [if_pos (by simp [h1]), if_pos h1]
   have : strconv_Itoa.f a.N = some ⟨(Lib.itoa a.N).toArray⟩ := by unfold strconv_Itoa.f; rw [if_pos hn]
   rw [this, Option.bind_some, if_pos (by rw [← bts_len, ← bts_len, bts_itoa]; simp [bts, Lim]; omega)]
   exact ⟨_, rfl, by rw [bts_app, bts_itoa]; rfl⟩
 · rw [if_neg (by simp [h1]), if_neg h1]
   by_cases h2 : a.Kind = 2
   · rw [if_pos (by simp [h2]), if_pos h2, impl_bitsText a.F ha.2.2.1, Option.bind_some]
     have hu := HX_u8 (highB_u8 a.F)
     rw [if_pos (by rw [size_str hu, HX_len, highB_len]; decide)]
     exact ⟨_, rfl, by rw [bts_app, bts_str hu]; rfl⟩
   · rw [if_neg (by simp [h2]), if_neg h2]
     by_cases h3 : a.Kind = 3
     · have hu := HX_u8 ha.2.2.2.2
       rw [if_pos (by simp [h3]), if_pos h3, impl_hexText a.T ha.2.2.2.2 (by omega), Option.bind_some, if_pos (by rw [size_str hu, HX_len, ← bts_len]; simp [bts, Lim]; omega)]
       exact ⟨_, rfl, by rw [bts_app, bts_str hu]; rfl⟩
     · rw [if_neg (by simp [h3]), if_neg h3]
       exact ⟨_, rfl, rfl⟩
def TXO (a : Item) : List Int := if IOK a = true then TX a else []
theorem spec_ItemText (a : Item) (ha : ok_Item a) : spec_ItemText.f a = some (TXO a) := by
 have hil := IT_len a.N ha.2.1
 unfold spec_ItemText.f TXO
 rw [spec_ItemOk a ha.2.2.1, Option.bind_some]
 by_cases h : IOK a = true
 · have hT := iok_T h
   rw [if_neg (by simp [h]), if_pos h]
   unfold TX
   by_cases h1 : a.Kind = 1
   · rw [if_pos (by simp [h1]), if_pos h1, spec_l18digits a.N ha.2.1, Option.bind_some, if_pos (by simp [Lim]; omega)]; rfl
   · rw [if_neg (by simp [h1]), if_neg h1]
     by_cases h2 : a.Kind = 2
     · rw [if_pos (by simp [h2]), if_pos h2, spec_FloatBits a.F ha.2.2.1, Option.bind_some, spec_l3high a.F (okF_lt ha.2.2.1), Option.bind_some, spec_l18hex _ (highB_u8 _) (by rw [highB_len]; omega), Option.bind_some, if_pos (by rw [HX_len, highB_len]; decide)]; rfl
     · rw [if_neg (by simp [h2]), if_neg h2]
       by_cases h3 : a.Kind = 3
       · rw [if_pos (by simp [h3]), if_pos h3, spec_l18hex a.T ha.2.2.2.2 (by omega), Option.bind_some, if_pos (by rw [HX_len]; simp [Lim]; omega)]; rfl
       · rw [if_neg (by simp [h3]), if_neg h3]
 · rw [if_pos (by simpa using h), if_neg h]
end Go.Proofs.YtiofnjnnocjbhaaDoor
set_option linter.unusedVariables false
set_option linter.unusedSimpArgs false
set_option linter.unusedSectionVars false
namespace Go.Proofs.YtiofnjnnocjbhaaDoor
open Go V Ieee
theorem near_v (n : Nat) (h : n < 9007199254740992) : IsV (FloatKind.f64.nearest (n : Int)) false (n * pw 1074) := by
 have hr := rep_of h 1074 (by omega)
 have := write_rep false n 0 (n * pw 1074) hr (by
  rw [show ((0 : Int) + 1074).toNat = 1074 by omega, show (-((0 : Int) + 1074)).toNat = 0 by omega, Nat.pow_zero, Nat.mul_one, pw])
 have e : FloatKind.f64.nearest (n : Int) = D.write (.number false n 0) := by
  show D.write (.number (decide ((n : Int) < 0)) (n : Int).natAbs 0) = _
  rw [decide_eq_false (by omega), Int.natAbs_natCast]
 rwa [e]
end Go.Proofs.YtiofnjnnocjbhaaDoor
set_option linter.unusedVariables false
set_option linter.unusedSimpArgs false
set_option linter.unusedSectionVars false
namespace Go.Proofs.YtiofnjnnocjbhaaDoor
open Go V Ieee
theorem far_quob {a u : Nat} (h : IsV a false (u * pw 52)) (hu : Rep u) : IsV (far .quo a 4841369599423283200) false u := by
 obtain ⟨w', hw, hv⟩ := div_pow (j := 52) c_big h hu
 have : far .quo a 4841369599423283200 = w' := by show (D.div a _).getD _ = _; rw [hw]; rfl
 rwa [this]
theorem far_add1 {a v : Nat} (h : IsV a false v) (hv : Rep (U1 + v)) : IsV (far .add a 4607182418800017408) false (U1 + v) := by
 obtain ⟨w', hw, hv⟩ := add_one h hv
 have : far .add a 4607182418800017408 = w' := by show (D.add a _).getD _ = _; rw [hw]; rfl
 rwa [this]
theorem fo_dn (M : Nat) (hM : M < 9007199254740992) : ∀ (n c a : Nat), c + n ≤ 2045 → IsV a false (M * pw (c + n)) → ∃ a', iter spec_FloatOf.b1 (a, -(n : Int)) = some (Sum.inl a') ∧ IsV a' false (M * pw c) := by
 intro n
 induction n with
 | zero =>
  intro c a hc hv
  refine ⟨a, iter_r ?_, hv⟩
  unfold spec_FloatOf.b1
  rw [if_neg (by simp)]; rfl
 | succ n ih =>
  intro c a hc hv
  have hv2 : IsV a false (M * pw (c + n) * 2) := by rw [Nat.mul_assoc, ← pw_succ]; exact hv
  obtain ⟨a', ha, hav⟩ := ih c _ (by omega) (far_half hv2 (rep_of hM _ (by omega)))
  refine ⟨a', ?_, hav⟩
  have hstep : spec_FloatOf.b1 (a, -((n + 1 : Nat) : Int)) = some (.inl (far .quo a 4611686018427387904, -(n : Int))) := by
   unfold spec_FloatOf.b1
   rw [if_pos (decide_eq_true (by show -((n + 1 : Nat) : Int) < 0; omega)), w64 (by omega) (by omega), show -((n + 1 : Nat) : Int) + 1 = -(n : Int) by omega]
  rw [iter_l hstep, ha]
theorem fo_0 (a : Nat) (k : Int) (h : k ≤ 0) : iter spec_FloatOf.b0 (a, k) = iter spec_FloatOf.b1 (a, k) := by
 refine iter_pass ?_
 unfold spec_FloatOf.b0
 rw [if_neg (by simp; omega)]
theorem fo_up (M : Nat) (hM : M < 9007199254740992) : ∀ (n e a : Nat), e + n ≤ 2045 → IsV a false (M * pw e) → ∃ a', iter spec_FloatOf.b0 (a, (n : Int)) = some (Sum.inl a') ∧ IsV a' false (M * pw (e + n)) := by
 intro n
 induction n with
 | zero =>
  intro e a he hv
  rw [fo_0 _ _ (by omega)]
  exact fo_dn M hM 0 e a (by omega) hv
 | succ n ih =>
  intro e a he hv
  have hd := far_dbl hv (by rw [Nat.mul_assoc, ← pw_succ]; exact rep_of hM _ (by omega))
  rw [Nat.mul_assoc, ← pw_succ] at hd
  obtain ⟨a', ha, hav⟩ := ih (e + 1) _ (by omega) hd
  refine ⟨a', ?_, by rw [show e + (n + 1) = e + 1 + n by omega]; exact hav⟩
  have hstep : spec_FloatOf.b0 (a, ((n + 1 : Nat) : Int)) = some (.inl (far .mul a 4611686018427387904, (n : Int))) := by
   unfold spec_FloatOf.b0
   rw [if_pos (decide_eq_true (by show ((n + 1 : Nat) : Int) > 0; omega)), w64 (by omega) (by omega), show ((n + 1 : Nat) : Int) - 1 = (n : Int) by omega]
  rw [iter_l hstep, ha]
theorem efield (n : Nat) (h : n < 18446744073709551616) : IntKind.wrap .i64 (iand .u64 (ishr .u64 (n : Int) (52 : Int)) (2047 : Int)) = ((n / 4503599627370496 % 2048 : Nat) : Int) := by
 have h1 : ishr .u64 (n : Int) (52 : Int) = ((n / 4503599627370496 : Nat) : Int) := ishr_nat .u64 n 52 (by decide)
 have h2 : iand .u64 ((n / 4503599627370496 : Nat) : Int) (2047 : Int) = (((n / 4503599627370496) &&& 2047 : Nat) : Int) := iand_u64 _ 2047 (by omega) (by omega)
 have h3 : (n / 4503599627370496) &&& 2047 = n / 4503599627370496 % 2048 := Nat.and_two_pow_sub_one_eq_mod _ 11
 rw [h1, h2, h3, w64 (by omega) (by omega)]
theorem ffield (n : Nat) (h : n < 18446744073709551616) : iand .u64 (n : Int) (4503599627370495 : Int) = ((n % 4503599627370496 : Nat) : Int) := by
 have h2 : iand .u64 (n : Int) (4503599627370495 : Int) = ((n &&& 4503599627370495 : Nat) : Int) := iand_u64 _ 4503599627370495 h (by omega)
 have h3 : n &&& 4503599627370495 = n % 4503599627370496 := Nat.and_two_pow_sub_one_eq_mod _ 52
 rw [h2, h3]
theorem fneg_wd (r : Nat) (h : r ≤ 9218868437227405312) : fneg r = 9223372036854775808 + r := by
 have hn : isN r = false := by unfold isN; rw [decide_eq_false (by omega)]
 unfold fneg
 rw [hn, cond_false]
 show r ^^^ 2 ^ 63 = _
 have := xor_sign r (by omega)
 have h2 : (9223372036854775808 + r) ^^^ 2 ^ 63 = r := this
 have h3 : ((9223372036854775808 + r) ^^^ 2 ^ 63) ^^^ 2 ^ 63 = r ^^^ 2 ^ 63 := by rw [h2]
 rw [Nat.xor_assoc, Nat.xor_self, Nat.xor_zero] at h3
 exact h3.symm
theorem fo_sign (n r : Nat) (hn : n = n / 9223372036854775808 * 9223372036854775808 + r) (h2 : n / 9223372036854775808 ≤ 1) (h : r ≤ 9218868437227405312) :
    (if ((ishr .u64 (n : Int) (63 : Int)) == (1 : Int)) = true then (some (fneg r)) else (some r)) = some (cn n) := by
  have hc : cn n = n := by
    refine cn_of ?_
    unfold isN
    rw [decide_eq_false (by omega)]
  rw [hc]
  by_cases h1 : n / 9223372036854775808 = 1
  · rw [ifT (by rw [ishr63]; exact decide_eq_true h1), fneg_wd r h, show 9223372036854775808 + r = n by omega]
  · rw [ifF (by rw [ishr63]; exact decide_eq_false h1), show r = n by omega]
theorem spec_FloatOf (n : Nat) (h : n < 18446744073709551616) : spec_FloatOf.f (n : Int) = some (cn n) := by
 unfold spec_FloatOf.f
 rw [efield n h, ffield n h]
 have hE : n / 4503599627370496 % 2048 < 2048 := Nat.mod_lt _ (by decide)
 have hF : n % 4503599627370496 < 4503599627370496 := Nat.mod_lt _ (by decide)
 have hn : n = n / 9223372036854775808 * 9223372036854775808 + (n / 4503599627370496 % 2048 * 4503599627370496 + n % 4503599627370496) := by omega
 have h2 : n / 9223372036854775808 ≤ 1 := by omega
 have hfs := fo_sign n
 generalize hEe : n / 4503599627370496 % 2048 = E at *
 generalize hFf : n % 4503599627370496 = f at *
 by_cases hinf : E = 2047
 · rw [ifT (by simp; omega)]
   by_cases hf : f = 0
   · rw [ifF (by simp; omega)]
     have e : far .quo 4607182418800017408 0 = 9218868437227405312 := by decide
     have hA := hfs 9218868437227405312 (by omega) h2 (by omega)
     rw [Option.bind_some, sel_inl, e]
     exact hA
   · rw [ifT (by simp; omega)]
     have e : far .quo 0 0 = 9221120237041090560 := by decide
     rw [Option.bind_some, sel_inr, e]
     rw [cn_nan (by unfold isN; rw [decide_eq_true (by omega)])]
     rfl
 · rw [ifF (by simp; omega)]
   have hq : IsV (far .quo (FloatKind.f64.nearest (f : Int)) 4841369599423283200) false (f * pw 1022) := by
    refine far_quob ?_ (rep_of (by omega) _ (by omega))
    rw [Nat.mul_assoc, ← pw_add]
    exact near_v f (by omega)
   by_cases h0 : E = 0
   · have hA := hfs f (by omega) h2 (by omega)
     have hB : 0 * 4503599627370496 + f = f := by omega
     rw [ifT (by simp; omega), Option.bind_some, fo_0 _ _ (by show (-1022 : Int) ≤ 0; decide)]
     obtain ⟨a', ha, hav⟩ := fo_dn f (by omega) 1022 0 _ (by omega) hq
     have hk : (-1022 : Int) = -((1022 : Nat) : Int) := by decide
     rw [hk, ha, Option.bind_some, sel_inl]
     have := hav.eq (wd_v (e := 0) (by omega) (.inl rfl) (by omega))
     rw [this, wd_eq, hB]
     exact hA
   · have hA := hfs (E * 4503599627370496 + f) (by omega) h2 (by omega)
     have hB : (E - 1) * 4503599627370496 + (4503599627370496 + f) = E * 4503599627370496 + f := by omega
     rw [ifF (by simp; omega), Option.bind_some, w64 (by omega) (by omega)]
     have hsum : U1 + f * pw 1022 = (4503599627370496 + f) * pw 1022 := by rw [U1_eq, Nat.add_mul]
     have hM : 4503599627370496 + f < 9007199254740992 := by omega
     have ha1 := far_add1 hq (by rw [hsum]; exact rep_of hM _ (by omega))
     rw [hsum] at ha1
     have key : ∃ a', iter spec_FloatOf.b0 (far .add (far .quo (FloatKind.f64.nearest (f : Int)) 4841369599423283200) 4607182418800017408, (E : Int) - 1023) = some (Sum.inl a') ∧ IsV a' false ((4503599627370496 + f) * pw (E - 1)) := by
      by_cases hk : 1023 ≤ E
      · obtain ⟨a', ha, hav⟩ := fo_up _ hM (E - 1023) 1022 _ (by omega) ha1
        refine ⟨a', ?_, by rw [show E - 1 = 1022 + (E - 1023) by omega]; exact hav⟩
        rw [show (E : Int) - 1023 = ((E - 1023 : Nat) : Int) by omega]; exact ha
      · obtain ⟨a', ha, hav⟩ := fo_dn _ hM (1023 - E) (E - 1) _ (by omega) (by rw [show E - 1 + (1023 - E) = 1022 by omega]; exact ha1)
        refine ⟨a', ?_, hav⟩
        rw [fo_0 _ _ (by omega), show (E : Int) - 1023 = -((1023 - E : Nat) : Int) by omega]; exact ha
     obtain ⟨a', ha, hav⟩ := key
     rw [ha, Option.bind_some, sel_inl]
     have := hav.eq (wd_v hM (.inr (by omega)) (by omega))
     rw [this, wd_eq, hB]
     exact hA
theorem impl_FloatOf (n : Nat) : impl_FloatOf.f (n : Int) = some (cn n) := rfl
end Go.Proofs.YtiofnjnnocjbhaaDoor
set_option linter.unusedVariables false
set_option linter.unusedSimpArgs false
set_option linter.unusedSectionVars false
namespace Go.Proofs.YtiofnjnnocjbhaaDoor
open Go V Ieee
theorem okF_cn (n : Nat) (h : n < 18446744073709551616) : okF (cn n) := by
 refine ⟨cn_cn n, ?_⟩
 unfold cn
 cases isN n with
 | true => show nanB < _; decide
 | false => exact h
theorem okF_0 : okF 0 := ⟨by decide, by decide⟩
def lwS (n : Nat) (b : Int) : Nat := (n * 256 % 18446744073709551616) ||| b.toNat
def LW (l : List Int) : Nat := l.foldl lwS 0
theorem lw_lt (l : List Int) (h : ∀ x ∈ l, InK .u8 x) : LW l < 18446744073709551616 := by
 unfold LW
 have : ∀ (l : List Int) (n : Nat), (∀ x ∈ l, InK .u8 x) → n < 18446744073709551616 → l.foldl lwS n < 18446744073709551616 := by
  intro l
  induction l with
  | nil => intro n _ h; exact h
  | cons x l ih =>
   intro n hx hn
   have := u8n (hx x (by simp))
   exact ih _ (fun y hy => hx y (by simp [hy])) (Nat.or_lt_two_pow (n := 64) (Nat.mod_lt _ (by decide)) (by omega))
 exact this l 0 h (by decide)
theorem lw_take (l : List Int) (k : Nat) (h : k < l.length) : LW (l.take (k + 1)) = lwS (LW (l.take k)) l[k] := by
 unfold LW
 rw [List.take_succ_eq_append_getElem h, List.foldl_append]; rfl
theorem lw_step (n : Nat) (b : Int) (hn : n < 18446744073709551616) (hb : InK .u8 b) : ior .u64 (ishl .u64 (n : Int) (8 : Int)) (IntKind.wrap .u64 b) = ((lwS n b : Nat) : Int) := by
 obtain ⟨e, hl⟩ := u8n hb
 have h1 : ishl .u64 (n : Int) (8 : Int) = ((n * 256 % 18446744073709551616 : Nat) : Int) := by
  unfold ishl
  show IntKind.wrap .u64 ((n : Int) * 2 ^ 8) = _
  rw [IntKind.wrap_u64, show (2 : Int) ^ 8 = 256 by decide]
  omega
 rw [h1, e, wu64 _ (by omega), ior_u64 _ _ (Nat.mod_lt _ (by decide)) (by omega), ← e]; rfl
theorem spec_l3low (l : List Int) (h : ∀ x ∈ l, InK .u8 x) (hl : l.length ≤ 1000000000) : spec_l3low.f l = some ((LW l : Nat) : Int) := by
 unfold spec_l3low.f
 have hst : ((0 : Int), (0 : Int)) = (((LW (l.take 0) : Nat) : Int), ((0 : Nat) : Int)) := rfl
 have he : LW l = LW (l.take l.length) := by rw [List.take_length]
 rw [hst, he]
 refine iter_for l.length (fun k => (((LW (l.take k) : Nat) : Int), (k : Int))) _ (fun k hk => ?_) ?_
 · unfold spec_l3low.b0
   simp only []
   rw [if_pos (by simp; omega), if_pos ⟨by omega, by omega⟩, at_nat l k hk, lw_step _ _ (lw_lt _ fun x hx => h x (List.mem_of_mem_take hx)) (h _ (List.getElem_mem hk)), w64 (by omega) (by omega), lw_take l k hk]
   rfl
 · unfold spec_l3low.b0
   simp only []
   rw [if_neg (by simp)]; rfl
theorem impl_fromHigh (l : List Int) (h : ∀ x ∈ l, InK .u8 x) (hl : l.length ≤ 1000000000) : impl_fromHigh.f l = some ((LW l : Nat) : Int) := by
 rw [← spec_l3low l h hl]; rfl
end Go.Proofs.YtiofnjnnocjbhaaDoor
set_option linter.unusedVariables false
set_option linter.unusedSimpArgs false
set_option linter.unusedSectionVars false
namespace Go.Proofs.YtiofnjnnocjbhaaDoor
open Go V Ieee
theorem lw_app (l : List Int) (x : Int) : LW (l ++ [x]) = lwS (LW l) x := by unfold LW; rw [List.foldl_append]; rfl
theorem lw_high (n : Nat) (h : n < 18446744073709551616) : ∀ k, k ≤ 8 → LW (highP n k) = n / 2 ^ (64 - 8 * k) := by
 intro k
 induction k with
 | zero =>
  intro _
  show 0 = n / 2 ^ 64
  rw [Nat.div_eq_of_lt h]
 | succ k ih =>
  intro hk
  rw [highP_succ, lw_app, ih (by omega)]
  unfold lwS
  rw [Int.toNat_natCast]
  have e1 : 2 ^ (64 - 8 * k) = 2 ^ (56 - 8 * k) * 256 := by
   rw [show 64 - 8 * k = (56 - 8 * k) + 8 by omega, Nat.pow_add]
  have e2 : 64 - 8 * (k + 1) = 56 - 8 * k := by omega
  rw [e1, e2, ← Nat.div_div_eq_div_mul]
  generalize hm : n / 2 ^ (56 - 8 * k) = m
  have hlt : m < 18446744073709551616 := by rw [← hm]; exact Nat.lt_of_le_of_lt (Nat.div_le_self _ _) h
  rw [Nat.mod_eq_of_lt (by omega)]
  have := or_add 8 (m / 256) (m % 256) (Nat.mod_lt _ (by decide))
  rw [show (2 : Nat) ^ 8 = 256 by decide] at this
  rw [this]; omega
theorem lw_highB (n : Nat) (h : n < 18446744073709551616) : LW (highB n) = n := by
 have := lw_high n h 8 (Nat.le_refl _)
 unfold highB
 rw [this]
 show n / 1 = n
 exact Nat.div_one n
end Go.Proofs.YtiofnjnnocjbhaaDoor
set_option linter.unusedVariables false
set_option linter.unusedSimpArgs false
set_option linter.unusedSectionVars false
namespace Go.Proofs.YtiofnjnnocjbhaaDoor
open Go V
theorem str_list (xs : List Int) : (str xs).toList = xs.map fun n => UInt8.ofNat n.toNat := by
 have key : ∀ (xs : List Int) (b : ByteArray), (xs.foldl (fun r n => r.push (UInt8.ofNat n.toNat)) b).data.toList = b.data.toList ++ xs.map fun n => UInt8.ofNat n.toNat := by
  intro xs
  induction xs with
  | nil => intro b; simp
  | cons x xs ih => intro b; rw [List.foldl_cons, ih]; simp [ByteArray.push]
 have := key xs ByteArray.empty
 rw [show (ByteArray.empty).data.toList = [] from rfl, List.nil_append] at this
 rw [← this]
 unfold str
 exact ByteArray.toList_eq _
theorem str_eq (a b : List Int) (ha : ∀ x ∈ a, InK .u8 x) (hb : ∀ x ∈ b, InK .u8 x) : ((str a).toList == (str b).toList) = decide (a = b) := by
  rw [str_list, str_list]
  by_cases h : a = b
  · subst h; simp
  · have hne : (a.map fun n => UInt8.ofNat n.toNat) ≠ (b.map fun n => UInt8.ofNat n.toNat) := by
      intro hm
      apply h
      have hlen : a.length = b.length := by simpa using congrArg List.length hm
      apply List.ext_getElem hlen
      intro i h1 h2
      have := congrArg (fun l => l[i]?) hm
      simp only [List.getElem?_map, List.getElem?_eq_getElem h1, List.getElem?_eq_getElem h2, Option.map_some, Option.some.injEq] at this
      have e1 := u8n (ha a[i] (List.getElem_mem h1))
      have e2 := u8n (hb b[i] (List.getElem_mem h2))
      have := congrArg UInt8.toNat this
      simp only [UInt8.toNat_ofNat'] at this
      omega
    simp only [h, decide_false]
    exact beq_eq_false_iff_ne.2 hne
end Go.Proofs.YtiofnjnnocjbhaaDoor
set_option linter.unusedVariables false
set_option linter.unusedSimpArgs false
set_option linter.unusedSectionVars false
namespace Go.Proofs.YtiofnjnnocjbhaaDoor
open Go V Ieee
def dv (l : List Int) (acc : Nat) : Nat := l.foldl (fun a c => a * 10 + (c - 48).toNat) acc
theorem dv_ge : ∀ (l : List Int) (acc : Nat), acc ≤ dv l acc
 | [], acc => Nat.le_refl _
 | c :: l, acc => by
  have := dv_ge l (acc * 10 + (c - 48).toNat)
  have e : dv (c :: l) acc = dv l (acc * 10 + (c - 48).toNat) := rfl
  rw [e]; omega
theorem dv_DG : ∀ (k u : Nat), u < 10 ^ (k + 1) → dv (DG u) 0 = u ∧ (∀ c ∈ DG u, 48 ≤ c ∧ c ≤ 57) ∧ (DG u).length ≤ k + 1 ∧ 1 ≤ (DG u).length := by
 have small : ∀ u : Nat, u < 10 → dv (DG u) 0 = u ∧ (∀ c ∈ DG u, 48 ≤ c ∧ c ≤ 57) ∧ (DG u).length = 1 := fun u hu => by
  rw [DG_lt hu]
  refine ⟨by simp [dv]; omega, fun c hc => by simp at hc; omega, rfl⟩
 intro k
 induction k with
 | zero =>
  intro u h
  obtain ⟨h1, h2, h3⟩ := small u (by simpa using h)
  exact ⟨h1, h2, by omega, by omega⟩
 | succ k ih =>
  intro u h
  by_cases hu : u < 10
  · obtain ⟨h1, h2, h3⟩ := small u hu
    exact ⟨h1, h2, by omega, by omega⟩
  · obtain ⟨h1, h2, h3, h4⟩ := ih (u / 10) (by rw [Nat.pow_succ] at h; omega)
    rw [DG_ge hu]
    refine ⟨?_, fun c hc => ?_, by simp; omega, by simp⟩
    · unfold dv at h1 ⊢
      rw [List.foldl_append, h1]
      simp only [List.foldl_cons, List.foldl_nil]
      omega
    · rcases List.mem_append.1 hc with hc | hc
      · exact h2 c hc
      · simp at hc; omega
noncomputable def finN (b : List Int) (y n : Int) : Option (Int × Bool) := ((if (y == (1 : Int)) = true then (some (IntKind.wrap .i64 (IntKind.wrap .u64 (0 - n)))) else (some (IntKind.wrap .i64 n))).bind fun y26 => ((spec_l18digits.f y26).bind fun r39 => (some (y26, ((str r39).toList == (str b).toList)))))
theorem wrap_in (x : Int) : InK .i64 (IntKind.wrap .i64 x) := by rw [IntKind.wrap_i64]; exact i64_ok (by omega) (by omega)
theorem finN_tot (b : List Int) (y n : Int) : ∃ x ok, finN b y n = some (x, ok) ∧ InK .i64 x := by
 unfold finN
 split
 · rw [Option.bind_some, spec_l18digits _ (wrap_in _)]; exact ⟨_, _, rfl, wrap_in _⟩
 · rw [Option.bind_some, spec_l18digits _ (wrap_in _)]; exact ⟨_, _, rfl, wrap_in _⟩
theorem num_end (b : List Int) (y : Int) (n : Int) : iter (spec_l18number.b0 b y) (n, (b.length : Int)) = finN b y n := by
 refine iter_pass ?_
 unfold spec_l18number.b0
 simp only []
 rw [if_neg (by simp)]
 rfl
theorem num_step (b : List Int) (y : Int) (n : Int) (k : Nat) (hk : k < b.length) (hl : b.length ≤ 100) (hd : 48 ≤ b[k] ∧ b[k] ≤ 57) : iter (spec_l18number.b0 b y) (n, (k : Int)) = iter (spec_l18number.b0 b y) (IntKind.wrap .u64 (IntKind.wrap .u64 (n * 10) + IntKind.wrap .u64 (IntKind.wrap .u8 (b[k] - 48))), ((k + 1 : Nat) : Int)) := by
 refine iter_l ?_
 unfold spec_l18number.b0
 simp only [at_nat b k hk]
 rw [if_pos (by simp; omega), if_pos (by omega), if_neg (by simp; omega), if_pos (by omega), Option.bind_some, if_neg (by simp; omega), if_pos (by omega), w64 (by omega) (by omega)]
 rfl
theorem num_stop (b : List Int) (y : Int) (n : Int) (k : Nat) (hk : k < b.length) (hd : ¬ (48 ≤ b[k] ∧ b[k] ≤ 57)) : iter (spec_l18number.b0 b y) (n, (k : Int)) = some (0, false) := by
 refine iter_r ?_
 unfold spec_l18number.b0
 simp only [at_nat b k hk]
 rw [if_pos (by simp; omega), if_pos (by omega)]
 by_cases h1 : b[k] < 48
 · rw [if_pos (by simpa using h1), Option.bind_some, if_pos rfl]
 · rw [if_neg (by simpa using h1), if_pos (by omega), Option.bind_some, if_pos (by simp; omega)]
theorem num_tot (b : List Int) (y : Int) (hl : b.length ≤ 100) : ∀ (m k : Nat) (n : Int), k + m = b.length → ∃ x ok, iter (spec_l18number.b0 b y) (n, (k : Int)) = some (x, ok) ∧ InK .i64 x
 | 0, k, n, h => by
  obtain rfl : k = b.length := by omega
  rw [num_end]; exact finN_tot b y n
 | m + 1, k, n, h => by
  have hk : k < b.length := by omega
  by_cases hd : 48 ≤ b[k] ∧ b[k] ≤ 57
  · rw [num_step b y n k hk hl hd]; exact num_tot b y hl m (k + 1) _ (by omega)
  · rw [num_stop b y n k hk hd]; exact ⟨_, _, rfl, i64_ok (by omega) (by omega)⟩
theorem num_run (b : List Int) (y : Int) (hl : b.length ≤ 100) : ∀ (l : List Int) (k acc : Nat), b.drop k = l → k ≤ b.length → (∀ c ∈ l, 48 ≤ c ∧ c ≤ 57) → dv l acc < 18446744073709551616 → iter (spec_l18number.b0 b y) ((acc : Int), (k : Int)) = finN b y (dv l acc : Nat)
 | [], k, acc, h, hk, _, _ => by
  have : k = b.length := by have := congrArg List.length h; simp at this; omega
  subst this
  rw [num_end]; rfl
 | c :: l, k, acc, h, hk, hd, hv => by
  have hk' : k < b.length := by have := congrArg List.length h; simp at this; omega
  have hc : b[k] = c ∧ b.drop (k + 1) = l := by
   rw [List.drop_eq_getElem_cons hk'] at h
   exact ⟨(List.cons.inj h).1, (List.cons.inj h).2⟩
  have hdc := hd c List.mem_cons_self
  have hge := dv_ge l (acc * 10 + (c - 48).toNat)
  have e : dv (c :: l) acc = dv l (acc * 10 + (c - 48).toNat) := rfl
  rw [e] at hv ⊢
  rw [num_step b y acc k hk' hl (by rw [hc.1]; exact hdc), hc.1]
  have hw : IntKind.wrap .u64 (IntKind.wrap .u64 ((acc : Int) * 10) + IntKind.wrap .u64 (IntKind.wrap .u8 (c - 48))) = ((acc * 10 + (c - 48).toNat : Nat) : Int) := by
   rw [show c - 48 = (((c - 48).toNat : Nat) : Int) by omega, wrap8, wu64 _ (by omega), show (acc : Int) * 10 = ((acc * 10 : Nat) : Int) by omega, wu64 _ (by omega)]
   rw [show ((acc * 10 : Nat) : Int) + (((c - 48).toNat % 256 : Nat) : Int) = ((acc * 10 + (c - 48).toNat : Nat) : Int) by omega, wu64 _ (by omega)]
   simp
  rw [hw]
  exact num_run b y hl l (k + 1) _ hc.2 (by omega) (fun c' h' => hd c' (List.mem_cons_of_mem _ h')) hv
theorem l18number_tot (b : List Int) (hl : b.length ≤ 100) : ∃ x ok, spec_l18number.f b = some (x, ok) ∧ InK .i64 x := by
 unfold spec_l18number.f
 have e : ∃ y2 : Bool, (if (decide ((b.length : Int) > (0 : Int))) = true then (if 0 ≤ (0 : Int) ∧ (0 : Int) < (b.length : Int) then (some ((at_ b (0 : Int)) == (45 : Int))) else none) else (some false)) = some y2 ∧ (y2 = true → 0 < b.length) := by
  by_cases h : b.length = 0
  · rw [if_neg (by simp only [gt_iff_lt, decide_eq_true_eq]; omega)]; exact ⟨_, rfl, fun h => by cases h⟩
  · rw [if_pos (by simp only [gt_iff_lt, decide_eq_true_eq]; omega), if_pos (by omega)]; exact ⟨_, rfl, fun _ => by omega⟩
 obtain ⟨y2, e, hy⟩ := e
 rw [e, Option.bind_some]
 obtain ⟨k, hk, e2⟩ : ∃ k : Nat, k ≤ b.length ∧ (if y2 = true then (some (1 : Int)) else (some (0 : Int))) = some (k : Int) := by
  cases y2 with
  | true => exact ⟨1, hy rfl, rfl⟩
  | false => exact ⟨0, Nat.zero_le _, rfl⟩
 rw [e2, Option.bind_some]
 split
 · exact ⟨_, _, rfl, i64_ok (by omega) (by omega)⟩
 · exact num_tot b k hl (b.length - k) k 0 (by omega)
theorem l18number_IT (n : Int) (h : InK .i64 n) : ∃ ok, spec_l18number.f (IT n) = some (n, ok) := by
 have hn := i64_of h
 unfold spec_l18number.f
 by_cases hs : n < 0
 · obtain ⟨u, rfl⟩ : ∃ u : Nat, n = -(u : Int) := ⟨n.natAbs, by omega⟩
   have e : IT (-(u : Int)) = 45 :: DG u := by unfold IT Lib.itoa; rw [if_pos hs]; simp [DG]
   obtain ⟨h1, h2, h3, h4⟩ := dv_DG 18 u (by omega)
   rw [e]
   have hl : (45 :: DG u).length ≤ 20 := by simp; omega
   rw [if_pos (by simp only [gt_iff_lt, decide_eq_true_eq, List.length_cons]; omega), if_pos (by simp only [List.length_cons]; omega), Option.bind_some]
   have e0 : ((at_ (45 :: DG u) (0 : Int)) == (45 : Int)) = true := rfl
   rw [e0, if_pos rfl, Option.bind_some, if_neg (by simp only [Bool.or_eq_true, beq_iff_eq, decide_eq_true_eq]; simp only [List.length_cons] at hl ⊢; omega)]
   have := num_run (45 :: DG u) 1 (by omega) (DG u) 1 0 rfl (by simp) h2 (by rw [h1]; omega)
   rw [h1] at this
   refine ⟨(str (IT (-(u : Int)))).toList == (str (45 :: DG u)).toList, this.trans ?_⟩
   · unfold finN
     have hw : IntKind.wrap .i64 (IntKind.wrap .u64 (0 - (u : Int))) = -(u : Int) := by
      rw [IntKind.wrap_u64, IntKind.wrap_i64]; omega
     rw [if_pos (by decide), Option.bind_some, hw, spec_l18digits _ h]; rfl
 · obtain ⟨u, rfl⟩ := Int.eq_ofNat_of_zero_le (show 0 ≤ n by omega)
   have e : IT (u : Int) = DG u := by unfold IT Lib.itoa; rw [if_neg hs]; simp [DG]
   obtain ⟨h1, h2, h3, h4⟩ := dv_DG 18 u (by omega)
   rw [e]
   rw [if_pos (by simp; omega), if_pos (by omega), Option.bind_some]
   have hd0 := h2 _ (List.getElem_mem (show 0 < (DG u).length by omega))
   have e0 : ((at_ (DG u) (0 : Int)) == (45 : Int)) = false := by
    have := at_nat (DG u) 0 (by omega)
    rw [show ((0 : Nat) : Int) = (0 : Int) from rfl] at this
    rw [this]
    simp only [beq_eq_false_iff_ne]
    omega
   rw [e0, if_neg (by decide), Option.bind_some, if_neg (by simp only [Bool.or_eq_true, beq_iff_eq, decide_eq_true_eq]; omega)]
   have := num_run (DG u) 0 (by omega) (DG u) 0 0 rfl (by omega) h2 (by rw [h1]; omega)
   rw [h1] at this
   refine ⟨(str (IT (u : Int))).toList == (str (DG u)).toList, this.trans ?_⟩
   · unfold finN
     rw [if_neg (by decide), w64 (by omega) (by omega), Option.bind_some, spec_l18digits _ h]; rfl
theorem parse_dv : ∀ (l : List UInt8) (acc : Nat), (∀ c ∈ l, 48 ≤ c.toNat ∧ c.toNat ≤ 57) → dv (l.map fun b => (b.toNat : Int)) acc < 18446744073709551616 → Lib.parseUint10 acc l = .ok (dv (l.map fun b => (b.toNat : Int)) acc)
 | [], acc, _, _ => rfl
 | c :: l, acc, hd, hv => by
  have hc := hd c List.mem_cons_self
  have e : dv ((c :: l).map fun b => (b.toNat : Int)) acc = dv (l.map fun b => (b.toNat : Int)) (acc * 10 + (c.toNat - 48)) := by
   have : ((c.toNat : Int) - 48).toNat = c.toNat - 48 := by omega
   show dv (l.map fun b => (b.toNat : Int)) (acc * 10 + ((c.toNat : Int) - 48).toNat) = _
   rw [this]
  rw [e] at hv ⊢
  have hge := dv_ge (l.map fun b => (b.toNat : Int)) (acc * 10 + (c.toNat - 48))
  unfold Lib.parseUint10
  rw [if_pos hc, if_neg (by omega), if_neg (by omega)]
  exact parse_dv l _ (fun c' h' => hd c' (List.mem_cons_of_mem _ h')) hv
theorem mag_dig (u : Nat) (hu : u < 10000000000000000000) : Lib.parseMag (Lib.decDigits u) = .ok u := by
 obtain ⟨h1, h2, h3, h4⟩ := dv_DG 18 u hu
 have hne : Lib.decDigits u ≠ [] := fun h => by unfold DG at h4; rw [h] at h4; simp at h4
 unfold Lib.parseMag
 rw [if_neg hne, parse_dv (Lib.decDigits u) 0 (fun c hc => by
  have := h2 (c.toNat : Int) (List.mem_map.2 ⟨c, hc, rfl⟩)
  omega) (by have h1' : dv ((Lib.decDigits u).map fun b => (b.toNat : Int)) 0 = u := h1; rw [h1']; omega)]
 exact congrArg _ h1
theorem atoi_itoa (n : Int) (h : InK .i64 n) : Lib.atoiAll (Lib.itoa n) = .ok n := by
 have hn := i64_of h
 unfold Lib.itoa
 by_cases hs : n < 0
 · rw [if_pos hs]
   unfold Lib.atoiAll
   have e : (45 : UInt8).toNat = 45 := rfl
   simp only [e, or_true, if_true, mag_dig n.natAbs (by omega)]
   rw [if_neg (by simp), if_neg (by simp; omega)]
   congr 1
   omega
 · rw [if_neg hs]
   obtain ⟨h1, h2, h3, h4⟩ := dv_DG 18 n.toNat (by omega)
   have hm := mag_dig n.toNat (by omega)
   cases hl : Lib.decDigits n.toNat with
   | nil => unfold DG at h4; rw [hl] at h4; simp at h4
   | cons c r =>
    have hc := h2 (c.toNat : Int) (by unfold DG; rw [hl]; simp)
    unfold Lib.atoiAll
    simp only []
    rw [if_neg (by omega), ← hl, hm]
    simp only []
    rw [if_neg (by omega), if_neg (by omega), if_neg (by omega)]
    congr 1
    omega
end Go.Proofs.YtiofnjnnocjbhaaDoor
set_option linter.unusedVariables false
set_option linter.unusedSimpArgs false
set_option linter.unusedSectionVars false
namespace Go.Proofs.YtiofnjnnocjbhaaDoor
open Go V Ieee
theorem U8_nil : U8 [] := fun x hx => by cases hx
theorem U8_app {a b : List Int} (ha : U8 a) (hb : U8 b) : U8 (a ++ b) := fun x hx => (List.mem_append.1 hx).elim (ha x) (hb x)
theorem U8_one {x : Int} (h0 : 0 ≤ x) (h1 : x ≤ 255) : U8 [x] := fun y hy => by simp at hy; subst hy; exact u8_ok h0 h1
def hv (c : Int) : Option Int := if 48 ≤ c ∧ c ≤ 57 then some (c - 48) else if 97 ≤ c ∧ c ≤ 102 then some (c - 87) else none
theorem hv_rng {c d : Int} (h : hv c = some d) : 0 ≤ d ∧ d ≤ 15 := by
 unfold hv at h
 split at h
 · cases h; omega
 · split at h
   · cases h; omega
   · cases h
theorem hv_hx (n : Nat) (h : n < 16) : hv (hx n) = some (n : Int) := by
 unfold hx hv
 by_cases hn : n < 10
 · rw [if_pos hn, if_pos (by omega)]; congr 1; omega
 · rw [if_neg hn, if_neg (by omega), if_pos (by omega)]; congr 1; omega
theorem unhex_bad (b : List Int) (out : List Int) (half : Int) (k : Nat) (hk : k < b.length) (h : hv b[k] = none) : spec_l18unhex.b0 b (out, half, (k : Int)) = some (.inr ([], false)) := by
 unfold hv at h
 have h1 : ¬ (48 ≤ b[k] ∧ b[k] ≤ 57) := fun hh => by rw [if_pos hh] at h; cases h
 rw [if_neg h1] at h
 have h2 : ¬ (97 ≤ b[k] ∧ b[k] ≤ 102) := fun hh => by rw [if_pos hh] at h; cases h
 unfold spec_l18unhex.b0
 simp only [at_nat b k hk]
 rw [if_pos (by simp; omega), if_pos (by omega)]
 have e1 : (if (decide (b[k] ≥ (48 : Int))) = true then (if 0 ≤ (k : Int) ∧ (k : Int) < (b.length : Int) then (some (decide (b[k] ≤ (57 : Int)))) else none) else (some false)) = some false := by
  by_cases h : b[k] ≥ 48
  · rw [if_pos (by simpa using h), if_pos (by omega), decide_eq_false (by omega)]
  · rw [if_neg (by simpa using h)]
 have e2 : (if (decide (b[k] ≥ (97 : Int))) = true then (if 0 ≤ (k : Int) ∧ (k : Int) < (b.length : Int) then (some (decide (b[k] ≤ (102 : Int)))) else none) else (some false)) = some false := by
  by_cases h : b[k] ≥ 97
  · rw [if_pos (by simpa using h), if_pos (by omega), decide_eq_false (by omega)]
  · rw [if_neg (by simpa using h)]
 rw [e1, Option.bind_some, if_neg (by decide), if_pos (by omega), e2, Option.bind_some, if_neg (by decide)]
 rfl
theorem unhex_good (b : List Int) (out : List Int) (half : Int) (k : Nat) (hk : k < b.length) (hkl : b.length ≤ 100) {d : Int} (h : hv b[k] = some d) (hh0 : 0 ≤ half) (hh1 : half ≤ 15) (hol : out.length ≤ 1000) :
    spec_l18unhex.b0 b (out, half, (k : Int)) = some (.inl (if k % 2 = 1 then (out ++ [half * 16 + d], 0, ((k + 1 : Nat) : Int)) else (out, half * 16 + d, ((k + 1 : Nat) : Int)))) := by
  have hdr := hv_rng h
  have ed : (if ((if (decide (b[k] ≥ (48 : Int))) = true then (if 0 ≤ (k : Int) ∧ (k : Int) < (b.length : Int) then (some (decide (b[k] ≤ (57 : Int)))) else none) else (some false)) = some true) then b[k] - 48 else b[k] - 87) = d := by
    have h' := h
    unfold hv at h'
    by_cases h1 : 48 ≤ b[k] ∧ b[k] ≤ 57
    · rw [if_pos h1] at h'
      rw [if_pos (by rw [if_pos (by simp; omega), if_pos (by omega), decide_eq_true (by omega)])]
      exact Option.some.inj h'
    · rw [if_neg h1] at h'
      rw [if_neg]
      · split at h'
        · exact Option.some.inj h'
        · cases h'
      · by_cases h2 : b[k] ≥ 48
        · rw [if_pos (by simpa using h2), if_pos (by omega), decide_eq_false (by omega)]; decide
        · rw [if_neg (by simpa using h2)]; decide
  unfold spec_l18unhex.b0
  simp only [at_nat b k hk]
  rw [if_pos (by simp; omega), if_pos (by omega)]
  have hw1 : IntKind.wrap .i64 (half * 16) = half * 16 := w64 (by omega) (by omega)
  have hw2 : IntKind.wrap .i64 (half * 16 + d) = half * 16 + d := w64 (by omega) (by omega)
  have hw3 : IntKind.wrap .u8 (half * 16 + d) = half * 16 + d := by rw [IntKind.wrap_u8]; omega
  have hm : (((k : Int).tmod (2 : Int)) == (1 : Int)) = decide (k % 2 = 1) := by
    have : Int.tmod (k : Int) (2 : Int) = ((k % 2 : Nat) : Int) := rfl
    rw [this]
    by_cases hp : k % 2 = 1
    · rw [hp]; rfl
    · rw [show k % 2 = 0 by omega]; rfl
  have hlast : ((if (((k : Int).tmod (2 : Int)) == (1 : Int)) = true then (if out.length + ([(IntKind.wrap .u8 (IntKind.wrap .i64 ((IntKind.wrap .i64 (half * (16 : Int))) + d)))]).length ≤ Lim then (some ((out ++ [(IntKind.wrap .u8 (IntKind.wrap .i64 ((IntKind.wrap .i64 (half * (16 : Int))) + d)))]), (0 : Int))) else none) else (some (out, (IntKind.wrap .i64 ((IntKind.wrap .i64 (half * (16 : Int))) + d))))).bind fun y30 => (some (Sum.inl (α := List Int × Int × Int) (β := List Int × Bool) (y30.1, y30.2, (IntKind.wrap .i64 ((k : Int) + (1 : Int)))))))
      = some (.inl (if k % 2 = 1 then (out ++ [half * 16 + d], 0, ((k + 1 : Nat) : Int)) else (out, half * 16 + d, ((k + 1 : Nat) : Int)))) := by
    rw [hw1, hw2, hw3, hm, w64 (by omega) (by omega)]
    by_cases hp : k % 2 = 1
    · rw [if_pos (by simpa using hp), if_pos (by simp [Lim]; omega), Option.bind_some, if_pos hp]; rfl
    · rw [if_neg (by simpa using hp), Option.bind_some, if_neg hp]; rfl
  by_cases h1 : 48 ≤ b[k] ∧ b[k] ≤ 57
  · have e1 : (if (decide (b[k] ≥ (48 : Int))) = true then (if 0 ≤ (k : Int) ∧ (k : Int) < (b.length : Int) then (some (decide (b[k] ≤ (57 : Int)))) else none) else (some false)) = some true := by
      rw [if_pos (by simp; omega), if_pos (by omega), decide_eq_true (by omega)]
    rw [if_pos e1] at ed
    rw [e1, Option.bind_some, if_pos rfl, if_pos (by omega), Option.bind_some]
    simp only [sel]
    rw [show IntKind.wrap .i64 (IntKind.wrap .i64 b[k] - 48) = d by rw [w64 (n := b[k]) (by omega) (by omega), w64 (by omega) (by omega)]; exact ed]
    exact hlast
  · have e1 : (if (decide (b[k] ≥ (48 : Int))) = true then (if 0 ≤ (k : Int) ∧ (k : Int) < (b.length : Int) then (some (decide (b[k] ≤ (57 : Int)))) else none) else (some false)) = some false := by
      by_cases h2 : b[k] ≥ 48
      · rw [if_pos (by simpa using h2), if_pos (by omega), decide_eq_false (by omega)]
      · rw [if_neg (by simpa using h2)]
    have h3 : 97 ≤ b[k] ∧ b[k] ≤ 102 := by
      have h' := h
      unfold hv at h'
      rw [if_neg h1] at h'
      by_cases hq : 97 ≤ b[k] ∧ b[k] ≤ 102
      · exact hq
      · rw [if_neg hq] at h'; cases h'
    have e2 : (if (decide (b[k] ≥ (97 : Int))) = true then (if 0 ≤ (k : Int) ∧ (k : Int) < (b.length : Int) then (some (decide (b[k] ≤ (102 : Int)))) else none) else (some false)) = some true := by
      rw [if_pos (by simp; omega), if_pos (by omega), decide_eq_true (by omega)]
    rw [if_neg (by rw [e1]; decide)] at ed
    rw [e1, Option.bind_some, if_neg (by decide), if_pos (by omega), e2, Option.bind_some, if_pos rfl, if_pos (by omega), Option.bind_some]
    simp only [sel]
    rw [show IntKind.wrap .i64 (IntKind.wrap .i64 b[k] - 87) = d by rw [w64 (n := b[k]) (by omega) (by omega), w64 (by omega) (by omega)]; exact ed]
    exact hlast
theorem unhex_end (b out : List Int) (half : Int) : ∃ ok, iter (spec_l18unhex.b0 b) (out, half, (b.length : Int)) = some (out, ok) ∧ (b.length % 2 = 0 → ok = true) := by
 refine ⟨((b.length : Int).tmod 2 == 0), iter_r ?_, fun h => ?_⟩
 · unfold spec_l18unhex.b0
   simp only []
   rw [if_neg (by simp)]; rfl
 · have : Int.tmod (b.length : Int) (2 : Int) = ((b.length % 2 : Nat) : Int) := rfl
   rw [this, h]; rfl
theorem unhex_run (b : List Int) (hl : b.length ≤ 100) : ∀ (m k : Nat) (out : List Int) (half : Int), k + m = b.length → U8 out → out.length ≤ k → 0 ≤ half → half ≤ 15 → (k % 2 = 0 → half = 0) → ∃ l ok, iter (spec_l18unhex.b0 b) (out, half, (k : Int)) = some (l, ok) ∧ U8 l ∧ l.length ≤ 100
 | 0, k, out, half, h, hu, ho, _, _, _ => by
  obtain rfl : k = b.length := by omega
  obtain ⟨ok, e, _⟩ := unhex_end b out half
  exact ⟨_, _, e, hu, by omega⟩
 | m + 1, k, out, half, h, hu, ho, h0, h1, hz => by
  have hk : k < b.length := by omega
  cases hc : hv b[k] with
  | none => exact ⟨_, _, iter_r (unhex_bad b out half k hk hc), U8_nil, by simp⟩
  | some d =>
   have hr := hv_rng hc
   have hs := unhex_good b out half k hk hl hc h0 h1 (by omega)
   by_cases hp : k % 2 = 1
   · rw [if_pos hp] at hs
     rw [iter_l hs]
     exact unhex_run b hl m (k + 1) _ 0 (by omega) (U8_app hu (U8_one (by omega) (by omega))) (by simp; omega) (by omega) (by omega) (fun _ => rfl)
   · rw [if_neg hp] at hs
     rw [iter_l hs]
     have := hz (by omega)
     exact unhex_run b hl m (k + 1) _ _ (by omega) hu (by omega) (by omega) (by omega) (fun hq => by omega)
theorem unhex_tot (b : List Int) (hl : b.length ≤ 100) : ∃ l ok, spec_l18unhex.f b = some (l, ok) ∧ U8 l ∧ l.length ≤ 100 :=
 unhex_run b hl b.length 0 [] 0 (by omega) U8_nil (by simp) (by omega) (by omega) (fun _ => rfl)
theorem HX_get (t : List Int) : ∀ (k : Nat) (h : k < t.length), (HX t)[2 * k]? = some (hx (t[k].toNat / 16)) ∧ (HX t)[2 * k + 1]? = some (hx (t[k].toNat % 16)) := by
 induction t with
 | nil => intro k h; simp at h
 | cons x t ih =>
  intro k h
  have e : HX (x :: t) = hx (x.toNat / 16) :: hx (x.toNat % 16) :: HX t := rfl
  rw [e]
  cases k with
  | zero => exact ⟨rfl, rfl⟩
  | succ k =>
   have := ih k (by simpa using h)
   rw [show 2 * (k + 1) = 2 * k + 1 + 1 by omega, show 2 * k + 1 + 1 + 1 = (2 * k + 1) + 1 + 1 by omega]
   simpa using this
theorem unhex_HX (t : List Int) (ht : U8 t) (hl : t.length ≤ 50) : spec_l18unhex.f (HX t) = some (t, true) := by
 have hx' := HX_len t
 have key : ∀ (m k : Nat), k + m = t.length → iter (spec_l18unhex.b0 (HX t)) (t.take k, 0, ((2 * k : Nat) : Int)) = some (t, true) := by
  intro m
  induction m with
  | zero =>
   intro k h
   obtain rfl : k = t.length := by omega
   obtain ⟨ok, e, ho⟩ := unhex_end (HX t) t 0
   rw [List.take_length, ← hx', e, ho (by omega)]
  | succ m ih =>
   intro k h
   have hk : k < t.length := by omega
   have hu := u8n (ht _ (List.getElem_mem hk))
   obtain ⟨g1, g2⟩ := HX_get t k hk
   have k1 : 2 * k < (HX t).length := by omega
   have k2 : 2 * k + 1 < (HX t).length := by omega
   rw [List.getElem?_eq_getElem k1] at g1
   rw [List.getElem?_eq_getElem k2] at g2
   have s1 := unhex_good (HX t) (t.take k) 0 (2 * k) k1 (by omega) (by rw [Option.some.inj g1]; exact hv_hx _ (by omega)) (by omega) (by omega) (by simp; omega)
   rw [if_neg (by omega)] at s1
   have s2 := unhex_good (HX t) (t.take k) ((0 : Int) * 16 + ((t[k].toNat / 16 : Nat) : Int)) (2 * k + 1) k2 (by omega) (by rw [Option.some.inj g2]; exact hv_hx _ (by omega)) (by omega) (by omega) (by simp; omega)
   rw [if_pos (by omega)] at s2
   rw [iter_l s1, iter_l s2, show 2 * k + 1 + 1 = 2 * (k + 1) by omega]
   have : t.take k ++ [((0 : Int) * 16 + ((t[k].toNat / 16 : Nat) : Int)) * 16 + ((t[k].toNat % 16 : Nat) : Int)] = t.take (k + 1) := by
    rw [List.take_succ_eq_append_getElem hk]
    congr 2
    omega
   rw [this]
   exact ih (k + 1) (by omega)
 have := key t.length 0 (by omega)
 show iter (spec_l18unhex.b0 (HX t)) (([] : List Int), (0 : Int), (0 : Int)) = _
 simpa using this
def IX (c : Int) : Int := Lib.indexByte (⟨#[48, 49, 50, 51, 52, 53, 54, 55, 56, 57, 97, 98, 99, 100, 101, 102]⟩ : ByteArray).data.toList c.toNat.toUInt8
theorem ix_eq (c : Int) : strings_IndexByte.f (⟨#[48, 49, 50, 51, 52, 53, 54, 55, 56, 57, 97, 98, 99, 100, 101, 102]⟩ : ByteArray) c = some (IX c) := rfl
theorem ix_rng (c : Int) (h : InK .u8 c) : -1 ≤ IX c ∧ IX c ≤ 15 := by
 have key : ∀ m : Fin 256, -1 ≤ IX ((m : Nat) : Int) ∧ IX ((m : Nat) : Int) ≤ 15 := by decide +kernel
 have hc := u8n h
 have := key ⟨c.toNat, hc.2⟩
 rw [hc.1]; exact this
theorem ix_hx (n : Nat) (h : n < 16) : IX (hx n) = (n : Int) := by
 have key : ∀ m : Fin 16, IX (hx (m : Nat)) = ((m : Nat) : Int) := by decide +kernel
 exact key ⟨n, h⟩
theorem or4 (a b : Nat) (ha : a < 16) (hb : b < 16) : IntKind.wrap .u8 (ior .i64 (ishl .i64 (a : Int) (4 : Int)) (b : Int)) = ((a * 16 + b : Nat) : Int) := by
 have key : ∀ x y : Fin 16, IntKind.wrap .u8 (ior .i64 (ishl .i64 ((x : Nat) : Int) (4 : Int)) ((y : Nat) : Int)) = (((x : Nat) * 16 + (y : Nat) : Nat) : Int) := by decide +kernel
 exact key ⟨a, ha⟩ ⟨b, hb⟩
theorem readHex_step (s : ByteArray) (out : List Int) (k : Nat) (hk : 2 * k + 1 < (bts s).length) (hl : (bts s).length ≤ 4000000) (hol : out.length ≤ 4000000) :
    impl_readHex.b0 s (out, ((2 * k : Nat) : Int)) = (if ((decide (IX ((bts s)[2 * k]'(by omega)) < (0 : Int))) || (decide (IX ((bts s)[2 * k + 1]) < (0 : Int)))) = true then (some (Sum.inr (([] : (List Int)), false))) else some (.inl (out ++ [(IntKind.wrap .u8 (ior .i64 (ishl .i64 (IX ((bts s)[2 * k]'(by omega))) (4 : Int)) (IX ((bts s)[2 * k + 1]))))], ((2 * (k + 1) : Nat) : Int)))) := by
  have hs := bts_len s
  unfold impl_readHex.b0
  simp only []
  have e1 : IntKind.wrap .i64 (((2 * k : Nat) : Int) + (1 : Int)) = ((2 * k + 1 : Nat) : Int) := by rw [w64 (by omega) (by omega)]; rfl
  rw [e1, if_pos (by simp; omega), if_pos (by omega), if_pos (by omega), at_nat (bts s) (2 * k) (by omega), at_nat (bts s) (2 * k + 1) hk, ix_eq, ix_eq, Option.bind_some, Option.bind_some]
  split
  · rfl
  · rw [if_pos (by simp [Lim]; omega), w64 (by omega) (by omega)]; rfl
theorem readHex_end (s : ByteArray) (out : List Int) (k : Nat) (hk : 2 * k = (bts s).length) : iter (impl_readHex.b0 s) (out, ((2 * k : Nat) : Int)) = some (out, true) := by
 have hs := bts_len s
 refine iter_r ?_
 unfold impl_readHex.b0
 simp only []
 rw [if_neg (by simp; omega)]; rfl
theorem readHex_run (s : ByteArray) (hu : U8 (bts s)) (hl : (bts s).length ≤ 4000000) : ∀ (m k : Nat) (out : List Int), 2 * k + 2 * m = (bts s).length → U8 out → out.length ≤ k → ∃ l ok, iter (impl_readHex.b0 s) (out, ((2 * k : Nat) : Int)) = some (l, ok) ∧ U8 l ∧ l.length ≤ 4000000
 | 0, k, out, h, ho, hol => ⟨_, _, readHex_end s out k (by omega), ho, by omega⟩
 | m + 1, k, out, h, ho, hol => by
  have hk : 2 * k + 1 < (bts s).length := by omega
  have hs := readHex_step s out k hk hl (by omega)
  have r1 := ix_rng _ (hu _ (List.getElem_mem (show 2 * k < (bts s).length by omega)))
  have r2 := ix_rng _ (hu _ (List.getElem_mem hk))
  split at hs
  · exact ⟨_, _, iter_r hs, U8_nil, by simp⟩
  · rename_i hn
    simp only [Bool.or_eq_true, decide_eq_true_eq, not_or] at hn
    rw [iter_l hs]
    refine readHex_run s hu hl m (k + 1) _ (by omega) (U8_app ho ?_) (by simp; omega)
    intro x hx
    simp at hx
    subst hx
    rw [IntKind.wrap_u8]
    exact u8_ok (by omega) (by omega)
theorem readHex_tot (s : ByteArray) (hu : U8 (bts s)) (hl : (bts s).length ≤ 4000000) : ∃ l ok, impl_readHex.f s = some (l, ok) ∧ U8 l ∧ l.length ≤ 4000000 := by
 have hs := bts_len s
 unfold impl_readHex.f
 have hm : (((s.size : Int).tmod (2 : Int)) == (1 : Int)) = decide ((bts s).length % 2 = 1) := by
  have : Int.tmod (s.size : Int) (2 : Int) = ((s.size % 2 : Nat) : Int) := rfl
  rw [this, hs]
  by_cases hp : s.size % 2 = 1
  · rw [hp]; rfl
  · rw [show s.size % 2 = 0 by omega]; rfl
 rw [hm]
 by_cases hp : (bts s).length % 2 = 1
 · rw [if_pos (by simpa using hp)]; exact ⟨_, _, rfl, U8_nil, by simp⟩
 · rw [if_neg (by simpa using hp)]
   exact readHex_run s hu hl ((bts s).length / 2) 0 [] (by omega) U8_nil (by simp)
theorem readHex_HX (s : ByteArray) (t : List Int) (ht : U8 t) (hl : t.length ≤ 1000000) (hs : bts s = HX t) : impl_readHex.f s = some (t, true) := by
 have hlen := HX_len t
 have hsz := bts_len s
 unfold impl_readHex.f
 rw [if_neg (by
  have : Int.tmod (s.size : Int) (2 : Int) = ((s.size % 2 : Nat) : Int) := rfl
  rw [this, ← hsz, hs, hlen, Nat.mul_mod_right]; decide)]
 have key : ∀ (m k : Nat), k + m = t.length → iter (impl_readHex.b0 s) (t.take k, ((2 * k : Nat) : Int)) = some (t, true) := by
  intro m
  induction m with
  | zero =>
   intro k h
   obtain rfl : k = t.length := by omega
   rw [readHex_end s _ _ (by rw [hs, hlen]), List.take_length]
  | succ m ih =>
   intro k h
   have hk : k < t.length := by omega
   have hu := u8n (ht _ (List.getElem_mem hk))
   obtain ⟨g1, g2⟩ := HX_get t k hk
   have k2 : 2 * k + 1 < (bts s).length := by rw [hs]; omega
   have hst := readHex_step s (t.take k) k k2 (by rw [hs]; omega) (by simp; omega)
   have b1 : (bts s)[2 * k]'(by omega) = hx (t[k].toNat / 16) := by
    have : (bts s)[2 * k]? = some (hx (t[k].toNat / 16)) := by rw [hs]; exact g1
    rw [List.getElem?_eq_getElem (by omega)] at this
    exact Option.some.inj this
   have b2 : (bts s)[2 * k + 1] = hx (t[k].toNat % 16) := by
    have : (bts s)[2 * k + 1]? = some (hx (t[k].toNat % 16)) := by rw [hs]; exact g2
    rw [List.getElem?_eq_getElem k2] at this
    exact Option.some.inj this
   rw [b1, b2, ix_hx _ (by omega), ix_hx _ (by omega), or4 _ _ (by omega) (by omega), if_neg (by simp; omega)] at hst
   rw [iter_l hst]
   have : t.take k ++ [((t[k].toNat / 16 * 16 + t[k].toNat % 16 : Nat) : Int)] = t.take (k + 1) := by
    rw [List.take_succ_eq_append_getElem hk]
    congr 2
    omega
   rw [this]
   exact ih (k + 1) (by omega)
 have := key t.length 0 (by omega)
 simpa using this
end Go.Proofs.YtiofnjnnocjbhaaDoor
set_option linter.unusedVariables false
set_option linter.unusedSimpArgs false
set_option linter.unusedSectionVars false
namespace Go.Proofs.YtiofnjnnocjbhaaDoor
open Go V Ieee
theorem bts_inj {x y : ByteArray} (h : bts x = bts y) : x.data.toList = y.data.toList := by
 unfold bts at h
 exact (List.map_inj_right (fun a b hab => by
  have : a.toNat = b.toNat := by omega
  exact UInt8.toNat_inj.1 this)).1 h
theorem eqs (x y : ByteArray) : (x.toList == y.toList) = decide (bts x = bts y) := by
 rw [ByteArray.toList_eq, ByteArray.toList_eq]
 by_cases h : bts x = bts y
 · rw [bts_inj h, decide_eq_true h]; simp
 · rw [decide_eq_false h]
   refine beq_eq_false_iff_ne.2 fun hh => h ?_
   unfold bts; rw [hh]
theorem bts_cut (x : ByteArray) : bts (ByteArray.extract x ((1 : Int)).toNat ((x.size : Int)).toNat) = (bts x).drop 1 := by
 unfold bts
 rw [ByteArray.data_extract]
 simp
 rw [List.take_of_length_le]
 rw [List.length_tail, List.length_map]
 exact Nat.le_refl _
theorem bts_u8 (x : ByteArray) : U8 (bts x) := by
 intro c hc
 simp only [bts, List.mem_map] at hc
 obtain ⟨b, _, rfl⟩ := hc
 have := b.toNat_lt
 exact u8_ok (by omega) (by omega)
theorem itoa_of {x : ByteArray} {n : Int} (h : bts x = IT n) : x.data.toList = Lib.itoa n := by
 have := bts_inj (x := x) (y := ⟨(Lib.itoa n).toArray⟩) (by rw [h, bts_itoa])
 simpa using this
structure VI (a : Item) : Prop where
 ok : ok_Item a
 iok : IOK a = true
theorem TX_81 {a : Item} (h : VI a) : 1 ≤ (TX a).length ∧ (TX a).length ≤ 81 := by
 have h1 := IT_len a.N h.ok.2.1
 have h2 : (HX (highB a.F)).length = 16 := by rw [HX_len, highB_len]
 have h3 := HX_len a.T
 have h4 := iok_T h.iok
 unfold TX
 split
 · simp only [List.length_cons]; omega
 · split
   · simp only [List.length_cons]; omega
   · split <;> simp only [List.length_cons, List.length_nil] <;> omega
theorem TXO_u8 {a : Item} (h : U8 a.T) : U8 (TXO a) := by
 unfold TXO
 split
 · exact TX_u8 a h
 · exact U8_nil
def zI0 : Item := Item.mk (0 : Int) (0 : Int) (0 : Nat) ([] : (List Int))
theorem spec_yes (a : Item) (h : VI a) : spec_ItemRead.f (TX a) = some (a, true) := by
 have hl := TX_81 h
 have hi := (iok_iff a).1 h.iok
 unfold spec_ItemRead.f
 rw [if_neg (by simp; omega), if_pos (by omega)]
 suffices hs : ∀ y : Int × Int × Nat × List Int, Item.mk y.1 y.2.1 y.2.2.1 y.2.2.2 = a → ((some y).bind fun y18 => ((spec_ItemText.f (Item.mk y18.1 y18.2.1 y18.2.2.1 y18.2.2.2)).bind fun r95 => (if (!((str r95).toList == (str (TX a)).toList)) = true then (some ((Item.mk (0 : Int) (0 : Int) (0 : Nat) ([] : (List Int))), false)) else (some ((Item.mk y18.1 y18.2.1 y18.2.2.1 y18.2.2.2), true))))) = some (a, true) by
  have hT0 : a.Kind ≠ 3 → a.T = [] := fun hk => List.eq_nil_of_length_eq_zero (by omega)
  have hF0 : a.Kind ≠ 2 → a.F = 0 := fun hk => by omega
  have hN0 : a.Kind ≠ 1 → a.N = 0 := fun hk => by omega
  have hcases : a.Kind = 0 ∨ a.Kind = 1 ∨ a.Kind = 2 ∨ a.Kind = 3 := by omega
  have hlo := okF_lt h.ok.2.2.1
  rcases hcases with hk | hk | hk | hk
  · have hx : TX a = [45] := by unfold TX; simp [hk]
    rw [if_neg (by rw [hx]; decide), if_neg (by rw [hx]; decide), if_neg (by rw [hx]; decide), Option.bind_some, Option.bind_some]
    refine hs (0, 0, 0, []) ?_
    obtain ⟨k, n, f, t⟩ := a
    simp only at hk hT0 hF0 hN0 ⊢
    rw [hk, hN0 (by omega), hF0 (by omega), hT0 (by omega)]
  · have hx : TX a = 105 :: IT a.N := by unfold TX; simp [hk]
    obtain ⟨ok, hr⟩ := l18number_IT a.N h.ok.2.1
    rw [if_pos (by rw [hx]; rfl), if_pos (by omega)]
    have hd : (TX a).drop ((1 : Int)).toNat = IT a.N := by rw [hx]; rfl
    rw [hd, hr, Option.bind_some]
    refine hs (1, a.N, 0, []) ?_
    obtain ⟨k, n, f, t⟩ := a
    simp only at hk hT0 hF0 hN0 ⊢
    rw [hk, hF0 (by omega), hT0 (by omega)]
  · have hx : TX a = 102 :: HX (highB a.F) := by unfold TX; simp [hk]
    have hr := unhex_HX (highB a.F) (highB_u8 _) (by rw [highB_len]; omega)
    have hd : (TX a).drop ((1 : Int)).toNat = HX (highB a.F) := by rw [hx]; rfl
    rw [if_neg (by rw [hx]; show ¬ ((102 : Int) == 105) = true; decide), if_pos (by rw [hx]; rfl), if_pos (by omega), hd, hr, Option.bind_some, spec_l3low _ (highB_u8 _) (by rw [highB_len]; omega), Option.bind_some, lw_highB _ hlo, spec_FloatOf _ hlo, h.ok.2.2.1.1, Option.bind_some, Option.bind_some]
    refine hs (2, 0, a.F, []) ?_
    obtain ⟨k, n, f, t⟩ := a
    simp only at hk hT0 hF0 hN0 ⊢
    rw [hk, hN0 (by omega), hT0 (by omega)]
  · have hx : TX a = 116 :: HX a.T := by unfold TX; simp [hk]
    have hT := iok_T h.iok
    have hr := unhex_HX a.T h.ok.2.2.2.2 (by omega)
    have hd : (TX a).drop ((1 : Int)).toNat = HX a.T := by rw [hx]; rfl
    rw [if_neg (by rw [hx]; show ¬ ((116 : Int) == 105) = true; decide), if_neg (by rw [hx]; show ¬ ((116 : Int) == 102) = true; decide), if_pos (by rw [hx]; rfl), if_pos (by omega), hd, hr, Option.bind_some, Option.bind_some, Option.bind_some]
    refine hs (3, 0, 0, a.T) ?_
    obtain ⟨k, n, f, t⟩ := a
    simp only at hk hT0 hF0 hN0 ⊢
    rw [hk, hN0 (by omega), hF0 (by omega)]
 intro y hy
 have hu := TX_u8 a h.ok.2.2.2.2
 rw [Option.bind_some, hy, spec_ItemText a h.ok, Option.bind_some, TXO, if_pos h.iok, str_eq _ _ hu hu, if_neg (by simp)]
theorem mk_ok {k n : Int} {f : Nat} {t : List Int} (hk : InK .i64 k) (hn : InK .i64 n) (hf : okF f) (ht : U8 t) (hl : t.length ≤ 1000000000) : ok_Item (Item.mk k n f t) := ⟨hk, hn, hf, by simp only [maxLen]; omega, ht⟩
theorem small_ok {k : Int} (h0 : 0 ≤ k) (h1 : k ≤ 3) : InK .i64 k := i64_ok (by omega) (by omega)
theorem spec_no (b : List Int) (hb : U8 b) (h : ∀ a, VI a → TX a ≠ b) : spec_ItemRead.f b = some (zI0, false) := by
 unfold spec_ItemRead.f
 by_cases hl : b.length < 1 ∨ b.length > 81
 · rw [if_pos (by simp; omega)]; rfl
 · rw [if_neg (by simp; omega), if_pos (by omega)]
   suffices hs : ∀ (k n : Int) (f : Nat) (t : List Int), ok_Item (Item.mk k n f t) → ((some (k, n, f, t)).bind fun y18 => ((spec_ItemText.f (Item.mk y18.1 y18.2.1 y18.2.2.1 y18.2.2.2)).bind fun r95 => (if (!((str r95).toList == (str b).toList)) = true then (some ((Item.mk (0 : Int) (0 : Int) (0 : Nat) ([] : (List Int))), false)) else (some ((Item.mk y18.1 y18.2.1 y18.2.2.1 y18.2.2.2), true))))) = some (zI0, false) by
    have hud : U8 (b.drop ((1 : Int)).toNat) := fun x hx => hb x (List.mem_of_mem_drop hx)
    have hld : (b.drop ((1 : Int)).toNat).length ≤ 100 := by simp; omega
    by_cases c1 : ((at_ b (0 : Int)) == (105 : Int)) = true
    · obtain ⟨x, ok, hr, hx⟩ := l18number_tot _ hld
      rw [if_pos c1, if_pos (by omega), hr, Option.bind_some]
      exact hs 1 x 0 [] (mk_ok (small_ok (by omega) (by omega)) hx okF_0 U8_nil (by simp))
    · rw [if_neg c1]
      by_cases c2 : ((at_ b (0 : Int)) == (102 : Int)) = true
      · obtain ⟨l, ok, hr, hu, hll⟩ := unhex_tot _ hld
        have hlt := lw_lt l hu
        rw [if_pos c2, if_pos (by omega), hr, Option.bind_some, spec_l3low l hu (by omega), Option.bind_some, spec_FloatOf _ hlt, Option.bind_some, Option.bind_some]
        exact hs 2 0 (cn (LW l)) [] (mk_ok (small_ok (by omega) (by omega)) (small_ok (by omega) (by omega)) (okF_cn _ hlt) U8_nil (by simp))
      · rw [if_neg c2]
        by_cases c3 : ((at_ b (0 : Int)) == (116 : Int)) = true
        · obtain ⟨l, ok, hr, hu, hll⟩ := unhex_tot _ hld
          rw [if_pos c3, if_pos (by omega), hr, Option.bind_some, Option.bind_some, Option.bind_some]
          exact hs 3 0 0 l (mk_ok (small_ok (by omega) (by omega)) (small_ok (by omega) (by omega)) okF_0 hu (by omega))
        · rw [if_neg c3, Option.bind_some, Option.bind_some]
          exact hs 0 0 0 [] (mk_ok (small_ok (by omega) (by omega)) (small_ok (by omega) (by omega)) okF_0 U8_nil (by simp))
   intro k n f t hy
   generalize hA : Item.mk k n f t = a at hy
   rw [Option.bind_some]
   simp only [hA]
   rw [spec_ItemText a hy, Option.bind_some, str_eq _ _ (TXO_u8 hy.2.2.2.2) hb]
   have hne : TXO a ≠ b := by
    unfold TXO
    split
    · rename_i hi; exact h a ⟨hy, hi⟩
    · intro hh; rw [← hh] at hl; simp at hl
   rw [decide_eq_false hne, if_pos (by decide)]; rfl
noncomputable def endT (s : ByteArray) (y12 : Int × Int × Nat × List Int) : Option (Item × Bool) := ((impl_ItemOk.f (Item.mk y12.1 y12.2.1 y12.2.2.1 y12.2.2.2)).bind fun r93 => ((if (!r93) = true then (some true) else ((impl_itemText.f (Item.mk y12.1 y12.2.1 y12.2.2.1 y12.2.2.2)).bind fun r103 => (some (!(r103.toList == s.toList))))).bind fun y95 => (if y95 = true then (some ((Item.mk (0 : Int) (0 : Int) (0 : Nat) ([] : (List Int))), false)) else (some ((Item.mk y12.1 y12.2.1 y12.2.2.1 y12.2.2.2), true)))))
theorem endT_yes (s : ByteArray) (a : Item) (h : VI a) (hs : bts s = TX a) (k n : Int) (f : Nat) (t : List Int) (ha : Item.mk k n f t = a) : endT s (k, n, f, t) = some (a, true) := by
 unfold endT
 simp only [ha]
 have hT := iok_T h.iok
 obtain ⟨x, hx, hb⟩ := bts_itemText a h.ok (by omega)
 rw [impl_ItemOk, h.iok, Option.bind_some, if_neg (by decide), hx, Option.bind_some, eqs, hb, hs, decide_eq_true rfl, Option.bind_some, if_neg (by decide)]
theorem endT_no (s : ByteArray) (h : ∀ a, VI a → TX a ≠ bts s) (k n : Int) (f : Nat) (t : List Int) (ha : ok_Item (Item.mk k n f t)) : endT s (k, n, f, t) = some (zI0, false) := by
 unfold endT
 simp only []
 rw [impl_ItemOk, Option.bind_some]
 by_cases hi : IOK (Item.mk k n f t) = true
 · have hT := iok_T hi
   obtain ⟨x, hx, hb⟩ := bts_itemText _ ha (by simp only at hT ⊢; omega)
   rw [if_neg (by simp [hi]), hx, Option.bind_some, eqs, hb, decide_eq_false (h _ ⟨ha, hi⟩), Option.bind_some, if_pos (by decide)]; rfl
 · rw [if_pos (by simpa using hi), Option.bind_some, if_pos rfl]; rfl
theorem atoi_run (x : ByteArray) (hl : x.size ≤ 4294967296) : ∃ v ok, strconv_Atoi.f x = some (v, ok) ∧ (ok = true → InK .i64 v) := by
 unfold strconv_Atoi.f
 rw [if_pos (by simp only [Lim]; omega)]
 cases h : Lib.atoiAll x.data.toList with
 | ok v =>
  have := Lib.atoiAll_bounds h
  exact ⟨v, true, rfl, fun _ => i64_ok this.1 this.2⟩
 | «syntax» => exact ⟨0, false, rfl, fun hh => by cases hh⟩
 | range => exact ⟨_, false, rfl, fun hh => by cases hh⟩
theorem impl_shape (s : ByteArray) (hne : 1 ≤ (bts s).length) (hl : (bts s).length ≤ 3000000) : impl_readText.f s =
    ((if ((at_ (bts s) (0 : Int)) == (105 : Int)) = true then ((strconv_Atoi.f (ByteArray.extract s ((1 : Int)).toNat ((s.size : Int)).toNat)).bind fun r15 => (if (!r15.2) = true then (some (Sum.inr ((Item.mk (0 : Int) (0 : Int) (0 : Nat) ([] : (List Int))), false))) else (some (Sum.inl ((1 : Int), r15.1, (0 : Nat), ([] : (List Int))))))) else ((if ((at_ (bts s) (0 : Int)) == (102 : Int)) = true then (some ((at_ (bts s) (0 : Int)) == (102 : Int))) else (some ((at_ (bts s) (0 : Int)) == (116 : Int)))).bind fun y29 => ((if y29 = true then ((impl_readHex.f (ByteArray.extract s ((1 : Int)).toNat ((s.size : Int)).toNat)).bind fun r40 => ((if (!r40.2) = true then (some true) else (if 0 ≤ (0 : Int) ∧ (0 : Int) < (s.size : Int) then (some (((at_ (bts s) (0 : Int)) == (102 : Int)) && ((r40.1.length : Int) != (8 : Int)))) else none)).bind fun y43 => (if y43 = true then (some (Sum.inr (Sum.inr ((Item.mk (0 : Int) (0 : Int) (0 : Nat) ([] : (List Int))), false)))) else (if 0 ≤ (0 : Int) ∧ (0 : Int) < (s.size : Int) then ((if ((at_ (bts s) (0 : Int)) == (102 : Int)) = true then ((impl_fromHigh.f r40.1).bind fun r65 => ((impl_FloatOf.f r65).bind fun r67 => (some ((2 : Int), r67, ([] : (List Int)))))) else (some ((3 : Int), (0 : Nat), r40.1))).bind fun y62 => (some (Sum.inl (y62.1, y62.2.1, y62.2.2)))) else none)))) else (some (Sum.inl ((0 : Int), (0 : Nat), ([] : (List Int)))))).bind (sel fun y38 => (some (Sum.inl (y38.1, (0 : Int), y38.2.1, y38.2.2))))))).bind (sel (endT s))) := by
  have hs := bts_len s
  unfold impl_readText.f
  rw [if_neg (by
    rw [eqs]
    simp only [decide_eq_true_eq]
    intro hh
    rw [hh] at hne
    exact absurd hne (by decide)), if_pos (by omega), if_pos (by omega)]
  rfl
theorem impl_yes (a : Item) (h : VI a) (s : ByteArray) (hs : bts s = TX a) : impl_readText.f s = some (a, true) := by
 have hl := TX_81 h
 have hsz := bts_len s
 have hlen : (bts s).length = (TX a).length := by rw [hs]
 have hi := (iok_iff a).1 h.iok
 rw [impl_shape s (by rw [hs]; omega) (by rw [hs]; omega)]
 have hT0 : a.Kind ≠ 3 → a.T = [] := fun hk => List.eq_nil_of_length_eq_zero (by omega)
 have hF0 : a.Kind ≠ 2 → a.F = 0 := fun hk => by omega
 have hN0 : a.Kind ≠ 1 → a.N = 0 := fun hk => by omega
 have hcases : a.Kind = 0 ∨ a.Kind = 1 ∨ a.Kind = 2 ∨ a.Kind = 3 := by omega
 have hlo := okF_lt h.ok.2.2.1
 have hcut := bts_cut s
 rcases hcases with hk | hk | hk | hk
 · have hx : bts s = [45] := by rw [hs]; unfold TX; simp [hk]
   rw [if_neg (by rw [hx]; decide), if_neg (by rw [hx]; decide), Option.bind_some, if_neg (by rw [hx]; decide), Option.bind_some, sel_inl, Option.bind_some, sel_inl]
   refine endT_yes s a h hs 0 0 0 [] ?_
   obtain ⟨k, n, f, t⟩ := a
   simp only at hk hT0 hF0 hN0 ⊢
   rw [hk, hN0 (by omega), hF0 (by omega), hT0 (by omega)]
 · have hx : bts s = 105 :: IT a.N := by rw [hs]; unfold TX; simp [hk]
   have hd : (ByteArray.extract s ((1 : Int)).toNat ((s.size : Int)).toNat).data.toList = Lib.itoa a.N := itoa_of (by rw [hcut, hx]; rfl)
   have hat : strconv_Atoi.f (ByteArray.extract s ((1 : Int)).toNat ((s.size : Int)).toNat) = some (a.N, true) := by
    unfold strconv_Atoi.f
    rw [if_pos (by rw [← bts_len, hcut, List.length_drop]; simp only [Lim]; omega), hd, atoi_itoa _ h.ok.2.1]
   rw [if_pos (by rw [hx]; rfl), hat, Option.bind_some, if_neg (by simp), Option.bind_some, sel_inl]
   refine endT_yes s a h hs 1 a.N 0 [] ?_
   obtain ⟨k, n, f, t⟩ := a
   simp only at hk hT0 hF0 hN0 ⊢
   rw [hk, hF0 (by omega), hT0 (by omega)]
 · have hx : bts s = 102 :: HX (highB a.F) := by rw [hs]; unfold TX; simp [hk]
   have hr := readHex_HX (ByteArray.extract s ((1 : Int)).toNat ((s.size : Int)).toNat) (highB a.F) (highB_u8 _) (by rw [highB_len]; omega) (by rw [hcut, hx]; rfl)
   have hF : ((at_ (bts s) (0 : Int)) == (102 : Int)) = true := by rw [hx]; rfl
   rw [if_neg (by rw [hx]; show ¬ ((102 : Int) == 105) = true; decide), if_pos hF, hF, Option.bind_some, if_pos rfl, hr, Option.bind_some, if_neg (by simp), if_pos (by omega), Option.bind_some, if_neg (by rw [highB_len]; decide), if_pos (by omega), if_pos rfl, impl_fromHigh _ (highB_u8 _) (by rw [highB_len]; omega), Option.bind_some, lw_highB _ hlo, impl_FloatOf, h.ok.2.2.1.1, Option.bind_some, Option.bind_some, Option.bind_some, sel_inl, Option.bind_some, sel_inl]
   refine endT_yes s a h hs 2 0 a.F [] ?_
   obtain ⟨k, n, f, t⟩ := a
   simp only at hk hT0 hF0 hN0 ⊢
   rw [hk, hN0 (by omega), hT0 (by omega)]
 · have hx : bts s = 116 :: HX a.T := by rw [hs]; unfold TX; simp [hk]
   have hT := iok_T h.iok
   have hr := readHex_HX (ByteArray.extract s ((1 : Int)).toNat ((s.size : Int)).toNat) a.T h.ok.2.2.2.2 (by omega) (by rw [hcut, hx]; rfl)
   have hF : ((at_ (bts s) (0 : Int)) == (102 : Int)) = false := by rw [hx]; rfl
   have hG : ((at_ (bts s) (0 : Int)) == (116 : Int)) = true := by rw [hx]; rfl
   rw [if_neg (by rw [hx]; show ¬ ((116 : Int) == 105) = true; decide), hF, if_neg (by decide), hG, Option.bind_some, if_pos rfl, hr, Option.bind_some, if_neg (by simp), if_pos (by omega), Option.bind_some, if_neg (by simp), if_pos (by omega), if_neg (by decide), Option.bind_some, Option.bind_some, sel_inl, Option.bind_some, sel_inl]
   refine endT_yes s a h hs 3 0 0 a.T ?_
   obtain ⟨k, n, f, t⟩ := a
   simp only at hk hT0 hF0 hN0 ⊢
   rw [hk, hN0 (by omega), hF0 (by omega)]
theorem impl_no (s : ByteArray) (hl : (bts s).length ≤ 3000000) (h : ∀ a, VI a → TX a ≠ bts s) : impl_readText.f s = some (zI0, false) := by
 have hsz := bts_len s
 by_cases hne : (bts s).length = 0
 · unfold impl_readText.f
   rw [if_pos (by rw [eqs]; simp only [decide_eq_true_eq]; rw [List.eq_nil_of_length_eq_zero hne]; rfl)]; rfl
 · rw [impl_shape s (by omega) hl]
   have hcut := bts_cut s
   have hcu := bts_u8 (ByteArray.extract s ((1 : Int)).toNat ((s.size : Int)).toNat)
   have hcl : (bts (ByteArray.extract s ((1 : Int)).toNat ((s.size : Int)).toNat)).length ≤ 3000000 := by rw [hcut, List.length_drop]; omega
   by_cases c1 : ((at_ (bts s) (0 : Int)) == (105 : Int)) = true
   · obtain ⟨v, ok, hr, hv⟩ := atoi_run (ByteArray.extract s ((1 : Int)).toNat ((s.size : Int)).toNat) (by rw [← bts_len]; omega)
     rw [if_pos c1, hr, Option.bind_some]
     cases ok with
     | false => rw [if_pos (by simp), Option.bind_some, sel_inr]; rfl
     | true =>
      rw [if_neg (by simp), Option.bind_some, sel_inl]
      exact endT_no s h 1 v 0 [] (mk_ok (small_ok (by omega) (by omega)) (hv rfl) okF_0 U8_nil (by simp))
   · rw [if_neg c1]
     obtain ⟨y29, e29⟩ : ∃ y29 : Bool, (if ((at_ (bts s) (0 : Int)) == (102 : Int)) = true then (some ((at_ (bts s) (0 : Int)) == (102 : Int))) else (some ((at_ (bts s) (0 : Int)) == (116 : Int)))) = some y29 := by split <;> exact ⟨_, rfl⟩
     rw [e29, Option.bind_some]
     cases y29 with
     | false =>
      rw [if_neg (by decide), Option.bind_some, sel_inl, Option.bind_some, sel_inl]
      exact endT_no s h 0 0 0 [] (mk_ok (small_ok (by omega) (by omega)) (small_ok (by omega) (by omega)) okF_0 U8_nil (by simp))
     | true =>
      obtain ⟨l, ok, hr, hu, hll⟩ := readHex_tot (ByteArray.extract s ((1 : Int)).toNat ((s.size : Int)).toNat) hcu (by omega)
      rw [if_pos rfl, hr, Option.bind_some]
      obtain ⟨y43, e43⟩ : ∃ y43 : Bool, (if (!ok) = true then (some true) else (if 0 ≤ (0 : Int) ∧ (0 : Int) < (s.size : Int) then (some (((at_ (bts s) (0 : Int)) == (102 : Int)) && ((l.length : Int) != (8 : Int)))) else none)) = some y43 := by
       rw [if_pos (show 0 ≤ (0 : Int) ∧ (0 : Int) < (s.size : Int) by omega)]
       split <;> exact ⟨_, rfl⟩
      simp only []
      rw [e43, Option.bind_some]
      cases y43 with
      | true => rw [if_pos rfl, Option.bind_some, sel_inr, Option.bind_some, sel_inr]; rfl
      | false =>
       rw [if_neg (by decide), if_pos (by omega)]
       by_cases c2 : ((at_ (bts s) (0 : Int)) == (102 : Int)) = true
       · have hlt := lw_lt l hu
         rw [if_pos c2, impl_fromHigh l hu (by omega), Option.bind_some, impl_FloatOf, Option.bind_some, Option.bind_some, Option.bind_some, sel_inl, Option.bind_some, sel_inl]
         exact endT_no s h 2 0 (cn (LW l)) [] (mk_ok (small_ok (by omega) (by omega)) (small_ok (by omega) (by omega)) (okF_cn _ hlt) U8_nil (by simp))
       · rw [if_neg c2, Option.bind_some, Option.bind_some, sel_inl, Option.bind_some, sel_inl]
         exact endT_no s h 3 0 0 l (mk_ok (small_ok (by omega) (by omega)) (small_ok (by omega) (by omega)) okF_0 hu (by omega))
theorem ItemRead_same (b : List Int) (hb : U8 b) (hl : b.length ≤ 3000000) : ∃ r : Item × Bool, spec_ItemRead.f b = some r ∧ impl_ItemRead.f b = some r ∧ r.1.T.length ≤ 40 := by
 have hs : bts (str b) = b := bts_str hb
 unfold impl_ItemRead.f
 by_cases h : ∃ a, VI a ∧ TX a = b
 · obtain ⟨a, h, hx⟩ := h
   have hi := impl_yes a h (str b) (by rw [hs, hx])
   refine ⟨(a, true), ?_, ?_, iok_T h.iok⟩
   · rw [← hx]; exact spec_yes a h
   · rw [hi, Option.bind_some]
 · have hno : ∀ a, VI a → TX a ≠ b := fun a ha hx => h ⟨a, ha, hx⟩
   have hi := impl_no (str b) (by rw [hs]; exact hl) (by rw [hs]; exact hno)
   exact ⟨(zI0, false), spec_no b hb hno, by rw [hi, Option.bind_some], by simp [zI0]⟩
end Go.Proofs.YtiofnjnnocjbhaaDoor
set_option linter.unusedVariables false
set_option linter.unusedSimpArgs false
set_option linter.unusedSectionVars false
namespace Go.Proofs.YtiofnjnnocjbhaaDoor
open Go V Ieee
theorem toByteS (a : List Int) (h : a.length ≤ 1048576) : laws_toByteS.f a = some a := by
 unfold laws_toByteS.f
 rw [if_pos ⟨by omega, by simp only [Lim]; omega⟩]
 refine toS_gen a 0 (fun l k hk hl => ?_) (fun l => ?_)
 · unfold laws_toByteS.b0
   simp only []
   rw [if_pos (by simp; omega), if_pos ⟨by omega, by omega⟩, if_pos ⟨by omega, by omega⟩, at_nat _ k hk, w64 (by omega) (by omega)]; rfl
 · unfold laws_toByteS.b0
   simp only []
   rw [if_neg (by simp)]; rfl
theorem eqByteS (a : List Int) (h : a.length ≤ 1048576) : laws_eqByteS.f a a = some true := by
 unfold laws_eqByteS.f
 have := eqS_gen (body := laws_eqByteS.b0 a a) a a (fun k hk _ => by
  unfold laws_eqByteS.b0
  rw [if_pos (by simp; omega), if_pos ⟨by omega, by omega⟩, if_pos ⟨by omega, by omega⟩, at_nat _ k hk, w64 (by omega) (by omega)]
  simp) (by
  unfold laws_eqByteS.b0
  rw [if_neg (by simp)]; rfl)
 rw [this]; simp
theorem wsum_one (a : List Int) : wsum (fun _ => 1) a = a.length := by
 induction a with
 | nil => rfl
 | cons x l ih => rw [wsum_cons, ih, List.length_cons]; omega
end Go.Proofs.YtiofnjnnocjbhaaDoor
set_option linter.unusedVariables false
set_option linter.unusedSimpArgs false
set_option linter.unusedSectionVars false
namespace Go.Proofs.YtiofnjnnocjbhaaDoor
open Go V Ieee
theorem sameFloat (x : Nat) : laws_sameFloat.f x x = some true := by
 unfold laws_sameFloat.f
 have hbe : ∀ b : Bool, (b == b) = true := fun b => by cases b <;> rfl
 cases hb : fcmp .f64 x x != some .eq with
 | true => rfl
 | false =>
  have he : (fcmp .f64 x x == some .eq) = true := by
   have : (fcmp .f64 x x != some .eq) = !(fcmp .f64 x x == some .eq) := rfl
   rw [this] at hb
   cases hq : (fcmp .f64 x x == some .eq) with
   | true => rfl
   | false => rw [hq] at hb; cases hb
  rw [if_neg (by decide), he, hbe]
  split <;> rfl
theorem eqItem (a : Item) (h : a.T.length ≤ 1048576) : laws_eqItem.f a a = some true := by
 unfold laws_eqItem.f
 rw [if_neg (by simp), if_neg (by simp), sameFloat, Option.bind_some, if_neg (by decide), eqByteS _ h]; rfl
end Go.Proofs.YtiofnjnnocjbhaaDoor
set_option linter.unusedVariables false
set_option linter.unusedSimpArgs false
set_option linter.unusedSectionVars false
namespace Go.Proofs.YtiofnjnnocjbhaaDoor
open Go V Ieee
theorem markByteS (a : List Int) (x : Int) (h0 : 0 ≤ x) (h1 : x + (a.length : Int) ≤ 100000000000) : ∃ a', laws_markByteS.f a x = some (x + (a.length : Int), a') ∧ a'.length = a.length ∧ laws_heldByteS.f a' x = some (x + (a.length : Int)) := by
 have := markS_gen (mb := laws_markByteS.b0) (hb := laws_heldByteS.b0) (wt := fun _ => 1) (fun e y n => e = IntKind.wrap .u8 y ∧ n = 1) a x h0 (by rw [wsum_one]; exact h1)
  (fun l y k hk hla hy hy1 => by
   refine ⟨IntKind.wrap .u8 y, ?_, rfl, rfl⟩
   unfold laws_markByteS.b0
   simp only []
   rw [if_pos (by simp; omega), if_pos ⟨by omega, by omega⟩, w64 (by omega) (by omega), w64 (by omega) (by omega)]; rfl)
  (fun l y hla => by
   unfold laws_markByteS.b0
   simp only []
   rw [if_neg (by simp)]; rfl)
  (fun l y k n hk hla he hy hy1 => by
   obtain ⟨e1, rfl⟩ := he
   unfold laws_heldByteS.b0
   simp only []
   rw [if_pos (by simp; omega), if_pos ⟨by omega, by omega⟩, at_nat _ k hk, e1, if_neg (by simp), w64 (by omega) (by omega), w64 (by omega) (by omega)]; rfl)
  (fun l y hla => by
   unfold laws_heldByteS.b0
   simp only []
   rw [if_neg (by simp)]; rfl)
 rw [wsum_one] at this
 exact this
end Go.Proofs.YtiofnjnnocjbhaaDoor
