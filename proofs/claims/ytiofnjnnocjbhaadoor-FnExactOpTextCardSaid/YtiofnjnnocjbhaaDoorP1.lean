import Derived.Test.YtiofnjnnocjbhaaDoorG1
import Derived.Test.YtiofnjnnocjbhaaDoorGs
import Derived.Lib.ItoaNum
import Derived.Lib.ItoaLen
import Derived.Lib.Join
set_option linter.unusedVariables false
set_option linter.unusedSimpArgs false
namespace Go.Proofs.YtiofnjnnocjbhaaDoor
open Go V
theorem w64 {n : Int} (h0 : -9223372036854775808 ≤ n) (h1 : n ≤ 9223372036854775807) : IntKind.i64.wrap n = n := by
 rw [IntKind.wrap_i64]; omega
theorem i64_of {n : Int} (h : InK .i64 n) : -9223372036854775808 ≤ n ∧ n ≤ 9223372036854775807 := by
 simpa [InK, IntKind.min, IntKind.max, IntKind.signed, IntKind.bits] using h
theorem u8_of {n : Int} (h : InK .u8 n) : 0 ≤ n ∧ n ≤ 255 := by
 simpa [InK, IntKind.min, IntKind.max, IntKind.signed, IntKind.bits] using h
theorem u8_ok {n : Int} (h0 : 0 ≤ n) (h1 : n ≤ 255) : InK .u8 n := by
 simp [InK, IntKind.min, IntKind.max, IntKind.signed, IntKind.bits]; omega
theorem u8n {b : Int} (h : InK .u8 b) : b = ((b.toNat : Nat) : Int) ∧ b.toNat < 256 := by have := u8_of h; omega
theorem fdiv_nat (a b : Nat) : Int.fdiv (a : Int) (b : Int) = ((a / b : Nat) : Int) := by
 rw [Int.fdiv_eq_ediv_of_nonneg _ (by omega)]; rfl
theorem ishr_nat (k : IntKind) (a b : Nat) (h : b ≤ k.bits) : ishr k (a : Int) (b : Int) = ((a / 2 ^ b : Nat) : Int) := by
 unfold ishr
 rw [Int.toNat_natCast, Nat.min_eq_left h]
 have : (2 : Int) ^ b = ((2 ^ b : Nat) : Int) := by simp
 rw [this, fdiv_nat]
theorem ofInt_nat (w a : Nat) (h : a < 2 ^ w) : (BitVec.ofInt w (a : Int)).toNat = a := by
 rw [BitVec.ofInt_natCast, BitVec.toNat_ofNat, Nat.mod_eq_of_lt h]
theorem wu64 (a : Nat) (h : a < 18446744073709551616) : IntKind.wrap .u64 ((a : Nat) : Int) = (a : Int) := by rw [IntKind.wrap_u64]; omega
theorem ior_u64 (a b : Nat) (ha : a < 18446744073709551616) (hb : b < 18446744073709551616) : ior .u64 (a : Int) (b : Int) = ((a ||| b : Nat) : Int) := by
 unfold ior
 rw [BitVec.toNat_or, ofInt_nat _ a ha, ofInt_nat _ b hb]
 exact wu64 _ (Nat.or_lt_two_pow (n := 64) ha hb)
theorem iand_u64 (a b : Nat) (ha : a < 18446744073709551616) (hb : b < 18446744073709551616) : iand .u64 (a : Int) (b : Int) = ((a &&& b : Nat) : Int) := by
 unfold iand
 rw [BitVec.toNat_and, ofInt_nat _ a ha, ofInt_nat _ b hb]
 exact wu64 _ (Nat.and_lt_two_pow (n := 64) _ hb)
theorem or_add (k n b : Nat) (h : b < 2 ^ k) : (n * 2 ^ k) ||| b = n * 2 ^ k + b := by
 have := Nat.two_pow_add_eq_or_of_lt (i := k) (b := b) h n
 rw [Nat.mul_comm n]
 exact this.symm
def rin (a b c : Int) : Bool := decide (b ≤ a) && decide (a ≤ c)
theorem rin_iff {a b c : Int} : rin a b c = true ↔ b ≤ a ∧ a ≤ c := by simp [rin]
theorem iter_for {S O : Type} {body : S → Option (S ⊕ O)} (n : Nat) (st : Nat → S) (o : O) (h : ∀ k, k < n → body (st k) = some (.inl (st (k + 1)))) (hn : body (st n) = some (.inr o)) : iter body (st 0) = some o := by
 have key : ∀ m, m ≤ n → iter body (st (n - m)) = some o := by
  intro m
  induction m with
  | zero => intro _; rw [iter_eq, Nat.sub_zero, hn]; rfl
  | succ m ih =>
   intro hm
   rw [iter_eq, h (n - (m + 1)) (by omega)]
   simp only [Option.bind_some]
   rw [show n - (m + 1) + 1 = n - m by omega]
   exact ih (by omega)
 have := key n (Nat.le_refl _)
 rwa [Nat.sub_self] at this
theorem iter_l {S O : Type} {body : S → Option (S ⊕ O)} {s s' : S} (h : body s = some (.inl s')) : iter body s = iter body s' := by rw [iter_eq, h]; rfl
theorem iter_r {S O : Type} {body : S → Option (S ⊕ O)} {s : S} {o : O} (h : body s = some (.inr o)) : iter body s = some o := by rw [iter_eq, h]; rfl
theorem iter_all {body : Int → Option (Int ⊕ Bool)} (n : Nat) (t : Nat → Bool) (h : ∀ k, k < n → body k = if t k = true then some (.inl ((k : Int) + 1)) else some (.inr false)) (hn : body n = some (.inr true)) : iter body 0 = some ((List.range n).all t) := by
 have key : ∀ m, m ≤ n → iter body ((n - m : Nat) : Int) = some ((List.range' (n - m) m).all t) := by
  intro m
  induction m with
  | zero => intro _; rw [iter_eq, Nat.sub_zero, hn]; rfl
  | succ m ih =>
   intro hm
   rw [iter_eq, h (n - (m + 1)) (by omega), List.range'_succ, List.all_cons]
   cases ht : t (n - (m + 1)) with
   | false => simp
   | true =>
    simp only [if_true, Option.bind_some, Bool.true_and]
    have e := ih (by omega)
    rw [show n - (m + 1) + 1 = n - m by omega, ← e]
    congr 1
    omega
 have := key n (Nat.le_refl _)
 rw [Nat.sub_self] at this
 rw [List.range_eq_range']
 exact this
theorem at_nat {α : Type} [Inhabited α] (xs : List α) (k : Nat) (h : k < xs.length) : at_ xs (k : Int) = xs[k] := by
 rw [at_eq xs k (by simpa using h)]; simp
theorem all_eq {α : Type} [DecidableEq α] (a b : List α) (h : a.length = b.length) : ((List.range a.length).all fun k => decide (a[k]? = b[k]?)) = decide (a = b) := by
  by_cases e : a = b
  · subst e; simp
  · have : ¬ ∀ k, k < a.length → a[k]? = b[k]? := fun hk => e (List.ext_getElem? fun k => by
      by_cases hl : k < a.length
      · exact hk k hl
      · rw [List.getElem?_eq_none (by omega), List.getElem?_eq_none (by omega)])
    simp only [e, decide_false]
    cases hb : (List.range a.length).all fun k => decide (a[k]? = b[k]?) with
    | false => rfl
    | true =>
      exact absurd (fun k hk => by
        have := List.all_eq_true.1 hb k (List.mem_range.2 hk)
        simpa using this) this
theorem eqS_gen {α : Type} [DecidableEq α] [Inhabited α] {body : Int → Option (Int ⊕ Bool)} (a b : List α) (hb : ∀ k : Nat, (h1 : k < a.length) → (h2 : k < b.length) → body (k : Int) = if decide (a[k] = b[k]) = true then some (.inl ((k : Int) + 1)) else some (.inr false))
    (hn : body (a.length : Int) = some (.inr true)) : (if ((a.length : Int) != (b.length : Int)) = true then some false else iter body 0) = some (decide (a = b)) := by
  by_cases hl : a.length = b.length
  · have hne : ((a.length : Int) != (b.length : Int)) = false := by simp [hl]
    rw [hne, if_neg (by decide), ← all_eq a b hl]
    refine iter_all a.length _ (fun k hk => ?_) hn
    rw [hb k hk (by omega), List.getElem?_eq_getElem hk, List.getElem?_eq_getElem (by omega)]
    simp
  · have hne : ((a.length : Int) != (b.length : Int)) = true := by simp; omega
    rw [hne, if_pos rfl]
    have : a ≠ b := fun e => hl (by rw [e])
    simp [this]
theorem toS_gen {α : Type} {body : List α × Int → Option ((List α × Int) ⊕ List α)} (a : List α) (z : α) (hb : ∀ (l : List α) (k : Nat) (h1 : k < a.length), l.length = a.length → body (l, (k : Int)) = some (.inl (l.set k a[k], (k : Int) + 1)))
    (hn : ∀ l : List α, body (l, (a.length : Int)) = some (.inr l)) : iter body (List.replicate ((a.length : Int)).toNat z, (0 : Int)) = some a := by
  have hst : (List.replicate ((a.length : Int)).toNat z, (0 : Int)) = (a.take 0 ++ List.replicate (a.length - 0) z, ((0 : Nat) : Int)) := by simp
  rw [hst]
  have e : (some a : Option (List α)) = some (a.take a.length ++ List.replicate (a.length - a.length) z) := by simp
  rw [e]
  refine iter_for a.length (fun k => (a.take k ++ List.replicate (a.length - k) z, (k : Int))) _ (fun k hk => ?_) (hn _)
  rw [hb _ k hk (by rw [List.length_append, List.length_take, List.length_replicate]; omega)]
  have hset : (a.take k ++ List.replicate (a.length - k) z).set k a[k] = a.take (k + 1) ++ List.replicate (a.length - (k + 1)) z := by
    rw [List.set_append, if_neg (by simp; omega)]
    have : (a.take k).length = k := by simp; omega
    rw [this, Nat.sub_self, show a.length - k = (a.length - (k + 1)) + 1 by omega, List.replicate_succ, List.set_cons_zero, List.take_succ_eq_append_getElem hk, List.append_assoc]
    rfl
  rw [hset]
  simp
def wsum {α : Type} (wt : α → Nat) (l : List α) : Nat := (l.map wt).sum
theorem wsum_cons {α : Type} (wt : α → Nat) (x : α) (l : List α) : wsum wt (x :: l) = wt x + wsum wt l := rfl
def Sz (f : Option Int) (n : Int) (z : Nat) : Prop := ∃ r, f = some r ∧ r ≤ n ∧ (0 ≤ r → r = n - (z : Int))
theorem markS_gen {α : Type} {mb : List α × Int × Int → Option ((List α × Int × Int) ⊕ (Int × List α))} {hb : List α → Int × Int → Option ((Int × Int) ⊕ Int)} {wt : α → Nat} (HE : α → Int → Nat → Prop) (a : List α) (x : Int) (h0 : 0 ≤ x) (h1 : x + (wsum wt a : Int) ≤ 100000000000)
    (hm : ∀ (l : List α) (x : Int) (k : Nat) (hk : k < l.length), l.length = a.length → 0 ≤ x → x + (wt l[k] : Int) ≤ 100000000000 → ∃ e', mb (l, x, (k : Int)) = some (.inl (l.set k e', x + (wt l[k] : Int), (k : Int) + 1)) ∧ HE e' x (wt l[k]))
    (hmn : ∀ l x, l.length = a.length → mb (l, x, (l.length : Int)) = some (.inr (x, l)))
    (hh : ∀ (l : List α) (x : Int) (k n : Nat) (hk : k < l.length), l.length = a.length → HE l[k] x n → 0 ≤ x → x + (n : Int) ≤ 100000000000 → hb l (x, (k : Int)) = some (.inl (x + (n : Int), (k : Int) + 1)))
    (hhn : ∀ l x, l.length = a.length → hb l (x, (l.length : Int)) = some (.inr x)) :
    ∃ a', iter mb (a, x, (0 : Int)) = some (x + (wsum wt a : Int), a') ∧ a'.length = a.length ∧ iter (hb a') (x, (0 : Int)) = some (x + (wsum wt a : Int)) := by
  have key : ∀ (m i : Nat) (x : Int) (l : List α), i + m = l.length → l.length = a.length → 0 ≤ x → x + (wsum wt (l.drop i) : Int) ≤ 100000000000 →
      ∃ l', iter mb (l, x, (i : Int)) = some (x + (wsum wt (l.drop i) : Int), l') ∧ l'.length = l.length ∧ (∀ j, j < i → l'[j]? = l[j]?) ∧ iter (hb l') (x, (i : Int)) = some (x + (wsum wt (l.drop i) : Int)) := by
    intro m
    induction m with
    | zero =>
      intro i x l hi hla hx0 hx1
      have : i = l.length := by omega
      subst this
      rw [List.drop_length]
      refine ⟨l, ?_, rfl, fun _ _ => rfl, ?_⟩
      · rw [iter_r (hmn l x hla)]; simp [wsum]
      · rw [iter_r (hhn l x hla)]; simp [wsum]
    | succ m ih =>
      intro i x l hi hla hx0 hx1
      have hk : i < l.length := by omega
      have hd : l.drop i = l[i] :: l.drop (i + 1) := List.drop_eq_getElem_cons hk
      rw [hd, wsum_cons] at hx1 ⊢
      obtain ⟨e', hmb, hE⟩ := hm l x i hk hla hx0 (by omega)
      have e : (i : Int) + 1 = ((i + 1 : Nat) : Int) := by omega
      have hds : (l.set i e').drop (i + 1) = l.drop (i + 1) := List.drop_set_of_lt (by omega)
      obtain ⟨l', h1', h2', h3', h4'⟩ := ih (i + 1) (x + (wt l[i] : Int)) (l.set i e') (by rw [List.length_set]; omega) (by rw [List.length_set]; exact hla) (by omega) (by rw [hds]; omega)
      rw [hds] at h1' h4'
      rw [List.length_set] at h2'
      have hi' : i < l'.length := by omega
      have hli : l'[i] = e' := by
        have := h3' i (by omega)
        rw [List.getElem?_eq_getElem hi', List.getElem?_set_self hk] at this
        exact Option.some.inj this
      have hsum : x + (wt l[i] : Int) + (wsum wt (l.drop (i + 1)) : Int) = x + ((wt l[i] + wsum wt (l.drop (i + 1)) : Nat) : Int) := by omega
      refine ⟨l', ?_, h2', fun j hj => ?_, ?_⟩
      · rw [iter_l hmb, e, h1', hsum]
      · rw [h3' j (by omega), List.getElem?_set_ne (by omega)]
      · rw [iter_l (hh l' x i (wt l[i]) hi' (by omega) (by rw [hli]; exact hE) hx0 (by omega)), e, h4', hsum]
  obtain ⟨l', h1', h2', _, h4'⟩ := key a.length 0 x a (by omega) rfl h0 (by rw [List.drop_zero]; exact h1)
  rw [List.drop_zero] at h1' h4'
  exact ⟨l', h1', h2', h4'⟩
end Go.Proofs.YtiofnjnnocjbhaaDoor
set_option linter.unusedVariables false
set_option linter.unusedSimpArgs false
set_option linter.unusedSectionVars false
namespace Go.Proofs.YtiofnjnnocjbhaaDoor
open Go V Ieee
theorem iter_pass {S O : Type} {body : S → Option (S ⊕ O)} {s : S} {m : Option O} (h : body s = m.bind fun o => some (Sum.inr o)) : iter body s = m := by
 rw [iter_eq, h]
 cases m <;> rfl
def wd (M e : Nat) : Nat := D.word false (e * 4503599627370496 + M)
theorem wd_eq (M e : Nat) : wd M e = e * 4503599627370496 + M := rfl
theorem wd_v {M e : Nat} (h1 : M < 9007199254740992) (h2 : e = 0 ∨ 4503599627370496 ≤ M) (h3 : e ≤ 2045) : IsV (wd M e) false (M * pw e) := ⟨M, e, h1, h2, h3, rfl, rfl⟩
theorem rep_of {M : Nat} (h1 : M < 9007199254740992) : ∀ e, e ≤ 2045 → Rep (M * pw e) := by
 intro e
 induction e generalizing M with
 | zero => intro _; exact ⟨M, 0, h1, .inl rfl, by omega, rfl⟩
 | succ e ih =>
  intro he
  by_cases hm : 4503599627370496 ≤ M
  · exact ⟨M, e + 1, h1, .inr hm, he, rfl⟩
  · have := ih (M := 2 * M) (by omega) (by omega)
    rwa [show 2 * M * pw e = M * pw (e + 1) by rw [pw_succ, Nat.mul_comm 2 M, Nat.mul_assoc, Nat.mul_comm 2]] at this
theorem v0 : IsV 0 false 0 := ⟨0, 0, by decide, .inl rfl, by omega, by simp, rfl⟩
theorem v1 : IsV 4607182418800017408 false (4503599627370496 * pw 1022) := ⟨4503599627370496, 1022, by decide, .inr (Nat.le_refl _), by omega, rfl, rfl⟩
theorem v2 : IsV 4611686018427387904 false (4503599627370496 * pw 1023) := ⟨4503599627370496, 1023, by decide, .inr (Nat.le_refl _), by omega, rfl, rfl⟩
theorem vM : IsV 9218868437227405311 false (9007199254740991 * pw 2045) := ⟨9007199254740991, 2045, by decide, .inr (by decide), by omega, rfl, rfl⟩
section
variable {a b u v : Nat} (ha : IsV a false u) (hb : IsV b false v)
include ha hb
theorem cmp_v : fcmp .f64 a b = some (compare u v) := by
 have h := order_v ha hb
 rw [signed_f, signed_f, Nat.pow_zero, Nat.mul_one, Nat.mul_one] at h
 show D.order a b = _
 rw [h]
 show some (compareOfLessAndEq (u : Int) (v : Int)) = some (compareOfLessAndEq u v)
 unfold compareOfLessAndEq
 by_cases h1 : u < v
 · rw [if_pos h1, if_pos (by omega)]
 · rw [if_neg h1, if_neg (by omega)]
   by_cases h2 : u = v
   · rw [if_pos h2, if_pos (by omega)]
   · rw [if_neg h2, if_neg (by omega)]
theorem cmp_lt : (fcmp .f64 a b == some .lt) = decide (u < v) := by
 rw [cmp_v ha hb]
 by_cases h : u < v
 · simp [Nat.compare_eq_lt.2 h, h]
 · have : compare u v ≠ .lt := fun hc => h (Nat.compare_eq_lt.1 hc)
   simp [this, h]
theorem cmp_gt : (fcmp .f64 a b == some .gt) = decide (v < u) := by
 rw [cmp_v ha hb]
 by_cases h : v < u
 · simp [Nat.compare_eq_gt.2 h, h]
 · have : compare u v ≠ .gt := fun hc => h (Nat.compare_eq_gt.1 hc)
   simp [this, h]
theorem cmp_eq : (fcmp .f64 a b == some .eq) = decide (u = v) := by
 rw [cmp_v ha hb]
 by_cases h : u = v
 · simp [Nat.compare_eq_eq.2 h, h]
 · have : compare u v ≠ .eq := fun hc => h (Nat.compare_eq_eq.1 hc)
   simp [this, h]
end
theorem far_half {a u : Nat} (h : IsV a false (u * 2)) (hu : Rep u) : IsV (far .quo a 4611686018427387904) false u := by
 obtain ⟨w', hw, hv⟩ := div_pow (j := 1) c_two (by simpa [pw] using h) hu
 have : far .quo a 4611686018427387904 = w' := by show (D.div a _).getD _ = _; rw [hw]; rfl
 rwa [this]
theorem far_dbl {a u : Nat} (h : IsV a false u) (hu : Rep (u * 2)) : IsV (far .mul a 4611686018427387904) false (u * 2) := by
 obtain ⟨w', hw, hv⟩ := mul_pow_ (j := 1) c_two h (by simpa using hu)
 have : far .mul a 4611686018427387904 = w' := by show (D.mul a _).getD _ = _; rw [hw]; rfl
 rw [this]; simpa using hv
theorem far_big {a u : Nat} (h : IsV a false u) (hu : Rep (u * pw 52)) : IsV (far .mul a 4841369599423283200) false (u * pw 52) := by
 obtain ⟨w', hw, hv⟩ := mul_pow_ (j := 52) c_big h hu
 have : far .mul a 4841369599423283200 = w' := by show (D.mul a _).getD _ = _; rw [hw]; rfl
 rwa [this]
theorem far_sub1 {a v : Nat} (h : IsV a false (U1 + v)) (hv : Rep v) : IsV (far .sub a 4607182418800017408) false v := by
 obtain ⟨w', hw, hv⟩ := sub_one h hv
 have : far .sub a 4607182418800017408 = w' := by show (D.sub a _).getD _ = _; rw [hw]; rfl
 rwa [this]
theorem f2i_v {a n : Nat} (h : IsV a false (n * pw 1074)) (hn : n < 18446744073709551616) : floatToIntVal .f64 a .u64 = some (n : Int) := by
 unfold floatToIntVal
 have := toInt_p h
 show (match (D.read a).toInt .zero with | some n => _ | none => _) = _
 rw [this]
 simp only []
 rw [if_pos]
 simp [IntKind.min, IntKind.max, IntKind.signed, IntKind.bits]; omega
section
variable (S E : Nat) (A : Nat)
theorem bits_num (s E K : Nat) (hs : s ≤ 1) (hE : E < 2048) (hK : K < 4503599627370496) : ior .u64 (ior .u64 ((s * 9223372036854775808 : Nat) : Int) (ishl .u64 (IntKind.wrap .u64 (IntKind.wrap .i64 (E : Int))) 52)) (K : Int) = ((s * 9223372036854775808 + E * 4503599627370496 + K : Nat) : Int) := by
 rw [w64 (by omega) (by omega), wu64 E (by omega)]
 have h1 : ishl .u64 (E : Int) 52 = ((E * 4503599627370496 : Nat) : Int) := by
  unfold ishl
  show IntKind.wrap .u64 ((E : Int) * 2 ^ 52) = _
  have : (E : Int) * 2 ^ 52 = ((E * 4503599627370496 : Nat) : Int) := by rw [show (2 : Int) ^ 52 = 4503599627370496 by decide]; omega
  rw [this, wu64 _ (by omega)]
 rw [h1, ior_u64 _ _ (by omega) (by omega)]
 have h2 : s * 9223372036854775808 ||| E * 4503599627370496 = s * 9223372036854775808 + E * 4503599627370496 := by
  have := or_add 63 s (E * 4503599627370496) (by show _ < 9223372036854775808; omega)
  exact this
 rw [h2, ior_u64 _ _ (by omega) (by omega)]
 have h3 := or_add 52 (s * 2048 + E) K (by show _ < 4503599627370496; omega)
 have e : (s * 2048 + E) * 2 ^ 52 = s * 9223372036854775808 + E * 4503599627370496 := by
  rw [show (2 : Nat) ^ 52 = 4503599627370496 by decide]; omega
 rw [e] at h3
 rw [h3]
theorem bits_sub (s K : Nat) (hs : s ≤ 1) (hK : K < 4503599627370496) : ior .u64 ((s * 9223372036854775808 : Nat) : Int) (K : Int) = ((s * 9223372036854775808 + K : Nat) : Int) := by
 rw [ior_u64 _ _ (by omega) (by omega)]
 have h3 := or_add 63 s K (by show _ < 9223372036854775808; omega)
 rw [show (s * 2 ^ 63 : Nat) = s * 9223372036854775808 from rfl] at h3
 rw [h3]
end
theorem p_lt {M e : Nat} (k k' : Nat) (h : M < 9007199254740992) (he : e ≤ k) (hk : k' = k + 1) : M * pw e < 4503599627370496 * pw k' := by
 have h1 : M * pw e < 9007199254740992 * pw e := Nat.mul_lt_mul_of_pos_right h (pw_pos e)
 have h2 : 9007199254740992 * pw e ≤ 9007199254740992 * pw k := Nat.mul_le_mul_left _ (pw_le he)
 have h3 : 4503599627370496 * (pw k * 2) = 9007199254740992 * pw k := by
  generalize pw k = q
  omega
 rw [hk, pw_succ, h3]
 exact Nat.lt_of_lt_of_le h1 h2
theorem p_ge {M e k : Nat} (h : 4503599627370496 ≤ M) (he : k ≤ e) : 4503599627370496 * pw k ≤ M * pw e :=
 Nat.mul_le_mul h (pw_le he)
theorem fb_one (s M : Nat) (A : Nat) (c : Int) (E : Nat) (hs : s ≤ 1) (h1 : M < 9007199254740992) (h2 : 4503599627370496 ≤ M) (hE : E < 2048) (hc : c + 1023 = (E : Int)) : iter (spec_FloatBits.b1 (((s * 9223372036854775808 : Nat) : Int), A)) (wd M 1022, c) = some ((s * 9223372036854775808 + E * 4503599627370496 + (M - 4503599627370496) : Nat) : Int) := by
 have hv := wd_v h1 (.inr h2) (show 1022 ≤ 2045 by omega)
 have hlt := cmp_lt hv v1
 have hnl : ¬ M * pw 1022 < 4503599627370496 * pw 1022 := Nat.not_lt.2 (p_ge h2 (Nat.le_refl _))
 rw [decide_eq_false hnl] at hlt
 have hsum : M * pw 1022 = U1 + (M - 4503599627370496) * pw 1022 := by
  rw [U1_eq, ← Nat.add_mul, show 4503599627370496 + (M - 4503599627370496) = M by omega]
 have hK : M - 4503599627370496 < 9007199254740992 := by omega
 rw [hsum] at hv
 have hs1 := far_sub1 hv (rep_of hK 1022 (by omega))
 have hb := far_big hs1 (by rw [Nat.mul_assoc, ← pw_add]; exact rep_of hK _ (by omega))
 rw [Nat.mul_assoc, ← pw_add] at hb
 have hi := f2i_v hb (by omega)
 refine iter_r ?_
 unfold spec_FloatBits.b1
 simp only [hlt, hi, Bool.false_and, Bool.false_eq_true, if_false, Option.bind_some]
 rw [hc, bits_num s E _ hs hE (by omega)]
theorem fb_up (s M : Nat) (A : Nat) (hs : s ≤ 1) (h1 : M < 9007199254740992) (h2 : 4503599627370496 ≤ M) : ∀ (j i : Nat), i + j ≤ 1022 → iter (spec_FloatBits.b1 (((s * 9223372036854775808 : Nat) : Int), A)) (wd M (1022 - j), -(i : Int)) = some ((s * 9223372036854775808 + (1023 - i - j) * 4503599627370496 + (M - 4503599627370496) : Nat) : Int) := by
 intro j
 induction j with
 | zero => intro i hi; exact fb_one s M A _ _ hs h1 h2 (by omega) (by omega)
 | succ j ih =>
  intro i hi
  have hv := wd_v h1 (.inr h2) (show 1022 - (j + 1) ≤ 2045 by omega)
  have hlt := cmp_lt hv v1
  have hl : M * pw (1022 - (j + 1)) < 4503599627370496 * pw 1022 := p_lt 1021 1022 h1 (by omega) rfl
  rw [decide_eq_true hl] at hlt
  have he : M * pw (1022 - (j + 1)) * 2 = M * pw (1022 - j) := by
   rw [Nat.mul_assoc, ← pw_succ, show 1022 - (j + 1) + 1 = 1022 - j by omega]
  have hd := far_dbl hv (by rw [he]; exact rep_of h1 _ (by omega))
  rw [he] at hd
  have hw := hd.eq (wd_v h1 (.inr h2) (show 1022 - j ≤ 2045 by omega))
  have hstep : spec_FloatBits.b1 (((s * 9223372036854775808 : Nat) : Int), A) (wd M (1022 - (j + 1)), -(i : Int)) = some (.inl (wd M (1022 - j), -((i + 1 : Nat) : Int))) := by
   unfold spec_FloatBits.b1
   simp only [hlt, Bool.true_and]
   rw [if_pos (by simp; omega), hw, w64 (by omega) (by omega), show -(i : Int) - 1 = -((i + 1 : Nat) : Int) by omega]
  rw [iter_l hstep, ih (i + 1) (by omega), show 1023 - (i + 1) - j = 1023 - i - (j + 1) by omega]
theorem fb_sub (s M : Nat) (A : Nat) (hs : s ≤ 1) (h1 : M < 4503599627370496) : ∀ (j i a : Nat), i + j = 1022 → IsV a false (M * pw i) → iter (spec_FloatBits.b1 (((s * 9223372036854775808 : Nat) : Int), A)) (a, -(i : Int)) = some ((s * 9223372036854775808 + M : Nat) : Int) := by
 intro j
 induction j with
 | zero =>
  intro i a hi hv
  have hlt := cmp_lt hv v1
  have hl : M * pw i < 4503599627370496 * pw 1022 := by
   rw [show i = 1022 by omega]
   exact Nat.mul_lt_mul_of_pos_right h1 (pw_pos _)
  rw [decide_eq_true hl] at hlt
  have hb := far_big hv (by rw [Nat.mul_assoc, ← pw_add]; exact rep_of (by omega) _ (by omega))
  rw [Nat.mul_assoc, ← pw_add, show i + 52 = 1074 by omega] at hb
  have hi2 := f2i_v hb (by omega)
  refine iter_r ?_
  unfold spec_FloatBits.b1
  have hc : decide (-(i : Int) > -1022) = false := by simp; omega
  simp only [hlt, hc, hi2, Bool.true_and, Bool.false_eq_true, if_false, if_true, Option.bind_some]
  rw [bits_sub s M hs h1]
 | succ j ih =>
  intro i a hi hv
  have hlt := cmp_lt hv v1
  have hl : M * pw i < 4503599627370496 * pw 1022 := p_lt 1021 1022 (by omega) (by omega) rfl
  rw [decide_eq_true hl] at hlt
  have he : M * pw i * 2 = M * pw (i + 1) := by rw [Nat.mul_assoc, ← pw_succ]
  have hd := far_dbl hv (by rw [he]; exact rep_of (by omega) _ (by omega))
  rw [he] at hd
  have hstep : spec_FloatBits.b1 (((s * 9223372036854775808 : Nat) : Int), A) (a, -(i : Int)) = some (.inl (far .mul a 4611686018427387904, -((i + 1 : Nat) : Int))) := by
   unfold spec_FloatBits.b1
   simp only [hlt, Bool.true_and]
   rw [if_pos (by simp; omega), w64 (by omega) (by omega), show -(i : Int) - 1 = -((i + 1 : Nat) : Int) by omega]
  rw [iter_l hstep, ih (i + 1) _ (by omega) hd]
theorem fb_pass {y : Int × Nat} {a u : Nat} {c : Int} (hv : IsV a false u) (hu : u < 4503599627370496 * pw 1023) : iter (spec_FloatBits.b0 y) (a, c) = iter (spec_FloatBits.b1 y) (a, c) := by
 refine iter_pass ?_
 unfold spec_FloatBits.b0
 have h1 := cmp_gt hv v2
 have h2 := cmp_eq hv v2
 rw [decide_eq_false (by omega)] at h1
 rw [decide_eq_false (by omega)] at h2
 simp only [h1, h2, Bool.or_self, Bool.false_eq_true, if_false]
theorem fb_down (y : Int × Nat) (M : Nat) (h1 : M < 9007199254740992) (h2 : 4503599627370496 ≤ M) : ∀ (n e : Nat) (c : Int), e = 1022 + n → e ≤ 2045 → 0 ≤ c → c ≤ 10000 - n → iter (spec_FloatBits.b0 y) (wd M e, c) = iter (spec_FloatBits.b1 y) (wd M 1022, c + n) := by
 intro n
 induction n with
 | zero =>
  intro e c he _ _ _
  have : e = 1022 := by omega
  subst this
  rw [fb_pass (wd_v h1 (.inr h2) (by omega)) (p_lt 1022 1023 h1 (by omega) rfl)]
  simp
 | succ n ih =>
  intro e c he he2 hc0 hc1
  obtain ⟨e, rfl⟩ : ∃ e', e = e' + 1 := ⟨e - 1, by omega⟩
  have hv := wd_v h1 (.inr h2) he2
  have g1 := cmp_gt hv v2
  have g2 := cmp_eq hv v2
  have hge : 4503599627370496 * pw 1023 ≤ M * pw (e + 1) := p_ge h2 (by omega)
  have hor : (fcmp .f64 (wd M (e + 1)) 4611686018427387904 == some .gt || fcmp .f64 (wd M (e + 1)) 4611686018427387904 == some .eq) = true := by
   rw [g1, g2, Bool.or_eq_true, decide_eq_true_eq, decide_eq_true_eq]
   generalize 4503599627370496 * pw 1023 = q at hge ⊢
   omega
  have hv2 : IsV (wd M (e + 1)) false (M * pw e * 2) := by rw [Nat.mul_assoc, ← pw_succ]; exact hv
  have hw := (far_half hv2 (rep_of h1 _ (by omega))).eq (wd_v h1 (.inr h2) (by omega))
  have hstep : spec_FloatBits.b0 y (wd M (e + 1), c) = some (.inl (wd M e, c + 1)) := by
   unfold spec_FloatBits.b0
   simp only [hor, if_true]
   rw [hw, w64 (by omega) (by omega)]
  rw [iter_l hstep, ih e (c + 1) (by omega) (by omega) (by omega) (by omega), show c + 1 + (n : Int) = c + ((n + 1 : Nat) : Int) by omega]
theorem xor_sign (r : Nat) (h : r < 9223372036854775808) : Op.negFloat .f64 (9223372036854775808 + r) = r := by
 show (9223372036854775808 + r) ^^^ 2 ^ 63 = r
 have e : 9223372036854775808 + r = 2 ^ 63 ||| r := by
  have := Nat.two_pow_add_eq_or_of_lt (i := 63) (b := r) h 1
  simpa using this
 have e2 : 2 ^ 63 ||| r = 2 ^ 63 ^^^ r := by
  apply Nat.eq_of_testBit_eq
  intro i
  rw [Nat.testBit_or, Nat.testBit_xor]
  by_cases hi : i = 63
  · subst hi
    have : r.testBit 63 = false := Nat.testBit_lt_two_pow h
    rw [this]; simp
  · have : (2 ^ 63).testBit i = false := by rw [Nat.testBit_two_pow]; simp; omega
    rw [this]; simp
 rw [e, e2, Nat.xor_comm (2 ^ 63) r, Nat.xor_assoc, Nat.xor_self, Nat.xor_zero]
theorem fin_word {x : Nat} (hx : x < 18446744073709551616) (h : x % 9223372036854775808 < 9218868437227405312) : ∃ s M e, s ≤ 1 ∧ M < 9007199254740992 ∧ (e = 0 ∨ 4503599627370496 ≤ M) ∧ e ≤ 2045 ∧ x = s * 9223372036854775808 + wd M e := by
 refine ⟨x / 9223372036854775808, ?_⟩
 by_cases hr : x % 9223372036854775808 < 4503599627370496
 · exact ⟨x % 9223372036854775808, 0, by omega, by omega, .inl rfl, by omega, by rw [wd_eq]; omega⟩
 · refine ⟨4503599627370496 + x % 9223372036854775808 % 4503599627370496, x % 9223372036854775808 / 4503599627370496 - 1, by omega, by omega, .inr (by omega), by omega, ?_⟩
   rw [wd_eq]; omega
theorem fb_loops (s M e : Nat) (A : Nat) (hs : s ≤ 1) (h1 : M < 9007199254740992) (h2 : e = 0 ∨ 4503599627370496 ≤ M) (h3 : e ≤ 2045) : iter (spec_FloatBits.b0 (((s * 9223372036854775808 : Nat) : Int), A)) (wd M e, (0 : Int)) = some ((s * 9223372036854775808 + wd M e : Nat) : Int) := by
 by_cases hm : 4503599627370496 ≤ M
 · by_cases he : 1022 ≤ e
   · rw [fb_down _ M h1 hm (e - 1022) e 0 (by omega) h3 (by omega) (by omega)]
     rw [fb_one s M A _ (e + 1) hs h1 hm (by omega) (by omega), wd_eq, show s * 9223372036854775808 + (e + 1) * 4503599627370496 + (M - 4503599627370496) = s * 9223372036854775808 + (e * 4503599627370496 + M) by omega]
   · rw [fb_pass (wd_v h1 (.inr hm) h3) (p_lt 1022 1023 h1 (by omega) rfl)]
     have := fb_up s M A hs h1 hm (1022 - e) 0 (by omega)
     rw [show 1022 - (1022 - e) = e by omega] at this
     rw [show (0 : Int) = -((0 : Nat) : Int) by simp, this, wd_eq, show s * 9223372036854775808 + (1023 - 0 - (1022 - e)) * 4503599627370496 + (M - 4503599627370496) = s * 9223372036854775808 + (e * 4503599627370496 + M) by omega]
 · have he : e = 0 := by omega
   subst he
   have hv := wd_v h1 (.inl rfl) h3
   rw [fb_pass hv (p_lt 1022 1023 h1 (by omega) rfl)]
   have h0 : M * pw 0 = M * pw 0 := rfl
   have := fb_sub s M A hs (by omega) 1022 0 (wd M 0) (by omega) hv
   rw [show (0 : Int) = -((0 : Nat) : Int) by simp, this, wd_eq, show 0 * 4503599627370496 + M = M by omega]
theorem nan_word {x : Nat} (h : okF x) (hn : isN x = true) : x = nanB := by rw [← h.1, cn_nan hn]
theorem fb_nan : spec_FloatBits.f 9221120237041090560 = some 9221120237041090560 := by
 unfold spec_FloatBits.f
 rw [if_pos (by decide)]
theorem fb_inf : spec_FloatBits.f 9218868437227405312 = some 9218868437227405312 := by
 have h1 : (fcmp .f64 9218868437227405312 9218868437227405312 != some .eq) = false := by decide
 have h2 : (fcmp .f64 9218868437227405312 0 == some .lt) = false := by decide
 have h3 : (fcmp .f64 9218868437227405312 0 == some .eq) = false := by decide
 have h4 : (fcmp .f64 9218868437227405312 9218868437227405311 == some .gt) = true := by decide
 unfold spec_FloatBits.f
 simp only [h1, h2, h3, h4, Bool.false_eq_true, if_false, if_true, Option.bind_some]
 rfl
theorem fb_ninf : spec_FloatBits.f 18442240474082181120 = some 18442240474082181120 := by
 have h1 : (fcmp .f64 18442240474082181120 18442240474082181120 != some .eq) = false := by decide
 have h2 : (fcmp .f64 18442240474082181120 0 == some .lt) = true := by decide
 have h0 : fneg 18442240474082181120 = 9218868437227405312 := by decide
 have h3 : (fcmp .f64 9218868437227405312 0 == some .eq) = false := by decide
 have h4 : (fcmp .f64 9218868437227405312 9218868437227405311 == some .gt) = true := by decide
 unfold spec_FloatBits.f
 simp only [h1, h2, h0, h3, h4, Bool.false_eq_true, if_false, if_true, Option.bind_some]
 rfl
theorem fb_zero : spec_FloatBits.f 0 = some 0 := by
 have h1 : (fcmp .f64 0 0 != some .eq) = false := by decide
 have h2 : (fcmp .f64 0 0 == some .lt) = false := by decide
 have h3 : (fcmp .f64 0 0 == some .eq) = true := by decide
 have h4 : (fcmp .f64 (far .quo 4607182418800017408 0) 0 == some .lt) = false := by decide
 unfold spec_FloatBits.f
 simp only [h1, h2, h3, h4, Bool.false_eq_true, if_false, if_true, Option.bind_some]
theorem fb_nzero : spec_FloatBits.f 9223372036854775808 = some 9223372036854775808 := by
 have h1 : (fcmp .f64 9223372036854775808 9223372036854775808 != some .eq) = false := by decide
 have h2 : (fcmp .f64 9223372036854775808 0 == some .lt) = false := by decide
 have h3 : (fcmp .f64 9223372036854775808 0 == some .eq) = true := by decide
 have h4 : (fcmp .f64 (far .quo 4607182418800017408 9223372036854775808) 0 == some .lt) = true := by decide
 have h5 : (fcmp .f64 (fneg 9223372036854775808) 0 == some .eq) = true := by decide
 unfold spec_FloatBits.f
 simp only [h1, h2, h3, h4, h5, Bool.false_eq_true, if_false, if_true, Option.bind_some]
theorem ifF {α : Type} {b : Bool} {x y : α} (h : b = false) : (if b = true then x else y) = y := by subst h; rfl
theorem ifT {α : Type} {b : Bool} {x y : α} (h : b = true) : (if b = true then x else y) = x := by subst h; rfl
theorem cmp_self {w u : Nat} {s : Bool} (hw : IsV w s u) : (fcmp .f64 w w != some .eq) = false := by
 have : fcmp .f64 w w = some .eq := by
  show D.order w w = _
  rw [order_v hw hw]
  show (some (compareOfLessAndEq _ _)) = some _
  unfold compareOfLessAndEq
  rw [if_neg (Int.lt_irrefl _), if_pos rfl]
 rw [this]; rfl
theorem cmp_le {M e : Nat} (h1 : M < 9007199254740992) (h3 : e ≤ 2045) : ¬ 9007199254740991 * pw 2045 < M * pw e := by
 have : M * pw e ≤ 9007199254740991 * pw 2045 := Nat.mul_le_mul (by omega) (pw_le h3)
 exact Nat.not_lt.2 this
section
variable {M e : Nat} (h1 : M < 9007199254740992) (h2 : e = 0 ∨ 4503599627370496 ≤ M) (h3 : e ≤ 2045) (hM : 0 < M)
include h1 h2 h3
theorem wd_lt : wd M e < 9218868437227405312 := by rw [wd_eq]; omega
theorem wd_max : (fcmp .f64 (wd M e) 9218868437227405311 == some .gt) = false := by
 rw [cmp_gt (wd_v h1 h2 h3) vM, decide_eq_false (cmp_le h1 h3)]
theorem wd_neg : IsV (9223372036854775808 + wd M e) true (M * pw e) := ⟨M, e, h1, h2, h3, rfl, by rw [wd_eq]; rfl⟩
include hM
theorem wd_pos : 0 < M * pw e := Nat.mul_pos hM (pw_pos e)
theorem wd_ne0 : (fcmp .f64 (wd M e) 0 == some .eq) = false := by
 have := wd_pos h1 h2 h3 hM
 rw [cmp_eq (wd_v h1 h2 h3) v0, decide_eq_false (Nat.ne_of_gt this)]
theorem wd_nl : (fcmp .f64 (wd M e) 0 == some .lt) = false := by
 rw [cmp_lt (wd_v h1 h2 h3) v0, decide_eq_false (Nat.not_lt_zero _)]
theorem wd_gt : (fcmp .f64 (wd M e) 0 == some .gt) = true := by
 have := wd_pos h1 h2 h3 hM
 rw [cmp_gt (wd_v h1 h2 h3) v0, decide_eq_true this]
theorem neg_cmp : fcmp .f64 (9223372036854775808 + wd M e) 0 = some .lt := by
 have hp := wd_pos h1 h2 h3 hM
 have ho := order_v (wd_neg h1 h2 h3) v0
 rw [signed_t, signed_f, Nat.pow_zero, Nat.mul_one, Nat.zero_mul] at ho
 show D.order _ _ = _
 rw [ho]
 show (some (compareOfLessAndEq _ _)) = some _
 unfold compareOfLessAndEq
 generalize M * pw e = q at hp
 rw [if_pos (show (-((q : Nat) : Int)) < ((0 : Nat) : Int) by omega)]
theorem neg_neg' : fneg (9223372036854775808 + wd M e) = wd M e := by
 have hl := wd_lt h1 h2 h3
 unfold fneg
 have hn : isN (9223372036854775808 + wd M e) = false := by
  unfold isN
  generalize wd M e = q at hl
  simp; omega
 rw [hn, cond_false]
 exact xor_sign _ (by omega)
theorem fb_plus : spec_FloatBits.f (wd M e) = some ((wd M e : Nat) : Int) := by
 have hl := fb_loops 0 M e (wd M e) (by omega) h1 h2 h3
 have e0 : 0 * 9223372036854775808 + wd M e = wd M e := by rw [Nat.zero_mul, Nat.zero_add]
 have eS : ((0 * 9223372036854775808 : Nat) : Int) = 0 := by omega
 rw [e0, eS] at hl
 unfold spec_FloatBits.f
 rw [ifF (cmp_self (wd_v h1 h2 h3)), ifF (wd_nl h1 h2 h3 hM), ifF (wd_ne0 h1 h2 h3 hM), Option.bind_some, Option.bind_some, ifF rfl, Option.bind_some, ifF (wd_ne0 h1 h2 h3 hM), ifF (wd_max h1 h2 h3)]
 exact hl
theorem fb_minus : spec_FloatBits.f (9223372036854775808 + wd M e) = some ((9223372036854775808 + wd M e : Nat) : Int) := by
 have hl := fb_loops 1 M e (wd M e) (by omega) h1 h2 h3
 have eS : ((1 * 9223372036854775808 : Nat) : Int) = 9223372036854775808 := by omega
 rw [eS, Nat.one_mul] at hl
 have h4 : (fcmp .f64 (9223372036854775808 + wd M e) 0 == some .lt) = true := by rw [neg_cmp h1 h2 h3 hM]; rfl
 unfold spec_FloatBits.f
 rw [ifF (cmp_self (wd_neg h1 h2 h3)), ifT h4, Option.bind_some, ifT rfl, Option.bind_some, neg_neg' h1 h2 h3 hM, ifF (wd_ne0 h1 h2 h3 hM), ifF (wd_max h1 h2 h3)]
 exact hl
end
theorem word_cases {x : Nat} (h : okF x) (P : Nat → Prop) (hnan : P nanB) (hi : P 9218868437227405312) (hni : P 18442240474082181120) (h0 : P 0) (hn0 : P 9223372036854775808)
    (hp : ∀ M e, M < 9007199254740992 → (e = 0 ∨ 4503599627370496 ≤ M) → e ≤ 2045 → 0 < M → P (wd M e)) (hm : ∀ M e, M < 9007199254740992 → (e = 0 ∨ 4503599627370496 ≤ M) → e ≤ 2045 → 0 < M → P (9223372036854775808 + wd M e)) : P x := by
  cases hn : isN x with
  | true => rw [nan_word h hn]; exact hnan
  | false =>
    have hx := h.2
    have hr : x % 9223372036854775808 ≤ 9218868437227405312 := by
      unfold isN at hn
      have := of_decide_eq_false hn
      omega
    by_cases hi' : x % 9223372036854775808 = 9218868437227405312
    · rcases (show x = 9218868437227405312 ∨ x = 18442240474082181120 by omega) with rfl | rfl
      · exact hi
      · exact hni
    · obtain ⟨s, M, e, hs, h1, h2, h3, rfl⟩ := fin_word hx (by omega)
      by_cases hM : M = 0
      · subst hM
        have he : e = 0 := by omega
        subst he
        rcases (show s = 0 ∨ s = 1 by omega) with rfl | rfl
        · exact h0
        · exact hn0
      · rcases (show s = 0 ∨ s = 1 by omega) with rfl | rfl
        · rw [Nat.zero_mul, Nat.zero_add]; exact hp M e h1 h2 h3 (by omega)
        · rw [Nat.one_mul]; exact hm M e h1 h2 h3 (by omega)
theorem spec_FloatBits (x : Nat) (h : okF x) : spec_FloatBits.f x = some (x : Int) :=
 word_cases h (fun x => spec_FloatBits.f x = some (x : Int)) fb_nan fb_inf fb_ninf fb_zero fb_nzero (fun M e h1 h2 h3 hM => fb_plus h1 h2 h3 hM) (fun M e h1 h2 h3 hM => fb_minus h1 h2 h3 hM)
end Go.Proofs.YtiofnjnnocjbhaaDoor
set_option linter.unusedVariables false
set_option linter.unusedSimpArgs false
set_option linter.unusedSectionVars false
namespace Go.Proofs.YtiofnjnnocjbhaaDoor
open Go V Ieee
def highP (n k : Nat) : List Int := (List.range k).map fun j : Nat => ((n / 2 ^ (56 - 8 * j) % 256 : Nat) : Int)
def highB (n : Nat) : List Int := highP n 8
theorem highP_succ (n k : Nat) : highP n (k + 1) = highP n k ++ [((n / 2 ^ (56 - 8 * k) % 256 : Nat) : Int)] := by simp [highP, List.range_succ]
theorem highP_len (n k : Nat) : (highP n k).length = k := by simp [highP]
theorem highB_u8 (n : Nat) : ∀ x ∈ highB n, InK .u8 x := by
 intro x hx
 simp only [highB, highP, List.mem_map] at hx
 obtain ⟨j, _, rfl⟩ := hx
 have := Nat.mod_lt (n / 2 ^ (56 - 8 * j)) (show 256 > 0 by omega)
 exact u8_ok (by omega) (by omega)
theorem wrap8 (q : Nat) : IntKind.wrap .u8 ((q : Nat) : Int) = ((q % 256 : Nat) : Int) := by rw [IntKind.wrap_u8]; omega
theorem impl_highFirst (n : Nat) : impl_highFirst.f (n : Int) = some (highB n) := by
 unfold impl_highFirst.f
 have hst : (([] : List Int), (56 : Int)) = (highP n 0, (56 : Int) - 8 * ((0 : Nat) : Int)) := rfl
 rw [hst]
 refine iter_for 8 (fun k => (highP n k, (56 : Int) - 8 * (k : Int))) _ (fun k hk => ?_) ?_
 · unfold impl_highFirst.b0
   simp only []
   have e1 : (56 : Int) - 8 * (k : Int) = ((56 - 8 * k : Nat) : Int) := by omega
   rw [if_pos (by simp; omega), if_pos (by omega), if_pos (by rw [highP_len]; simp [Lim]; omega), e1, ishr_nat .u64 n _ (by show 56 - 8 * k ≤ 64; omega), wrap8, highP_succ, w64 (by omega) (by omega)]
   rw [show ((56 - 8 * k : Nat) : Int) - 8 = (56 : Int) - 8 * ((k + 1 : Nat) : Int) by omega]
 · unfold impl_highFirst.b0
   simp only []
   rw [if_neg (by simp)]; rfl
theorem spec_l3high (n : Nat) (h : n < 18446744073709551616) : spec_l3high.f (n : Int) = some (highB n) := by
 unfold spec_l3high.f
 have hst : (([] : List Int), (7 : Int)) = (highP n 0, (7 : Int) - ((0 : Nat) : Int)) := rfl
 rw [hst]
 refine iter_for 8 (fun k => (highP n k, (7 : Int) - (k : Int))) _ (fun k hk => ?_) ?_
 · unfold spec_l3high.b0
   simp only []
   have e1 : IntKind.wrap .u64 (IntKind.wrap .i64 ((8 : Int) * ((7 : Int) - (k : Int)))) = ((56 - 8 * k : Nat) : Int) := by
    rw [w64 (by omega) (by omega), show (8 : Int) * ((7 : Int) - (k : Int)) = ((56 - 8 * k : Nat) : Int) by omega, wu64 _ (by omega)]
   have h2 : iand .u64 ((n / 2 ^ (56 - 8 * k) : Nat) : Int) (255 : Int) = (((n / 2 ^ (56 - 8 * k)) &&& 255 : Nat) : Int) := iand_u64 _ 255 (Nat.lt_of_le_of_lt (Nat.div_le_self _ _) h) (by omega)
   have h3 : (n / 2 ^ (56 - 8 * k)) &&& 255 = n / 2 ^ (56 - 8 * k) % 256 := Nat.and_two_pow_sub_one_eq_mod _ 8
   rw [e1, if_pos (by simp; omega), if_pos (by omega), if_pos (by rw [highP_len]; simp [Lim]; omega), ishr_nat .u64 n _ (by show 56 - 8 * k ≤ 64; omega), h2, h3, wrap8, Nat.mod_mod, highP_succ, w64 (by omega) (by omega)]
   rw [show (7 : Int) - (k : Int) - 1 = (7 : Int) - ((k + 1 : Nat) : Int) by omega]
 · unfold spec_l3high.b0
   simp only []
   rw [if_neg (by simp)]; rfl
end Go.Proofs.YtiofnjnnocjbhaaDoor
set_option linter.unusedVariables false
set_option linter.unusedSimpArgs false
set_option linter.unusedSectionVars false
namespace Go.Proofs.YtiofnjnnocjbhaaDoor
open Go V Ieee
def U8 (l : List Int) : Prop := ∀ x ∈ l, InK .u8 x
theorem str_data' (xs : List Int) : (str xs).data.toList = xs.map fun n => UInt8.ofNat n.toNat := by
 have key : ∀ (xs : List Int) (r : ByteArray), (xs.foldl (fun (r : ByteArray) n => r.push (UInt8.ofNat n.toNat)) r).data.toList = r.data.toList ++ xs.map fun n => UInt8.ofNat n.toNat := by
  intro xs
  induction xs with
  | nil => intro r; simp
  | cons x xs ih => intro r; rw [List.foldl_cons, ih]; simp
 have := key xs ByteArray.empty
 simpa [str] using this
theorem bts_str {xs : List Int} (h : U8 xs) : bts (str xs) = xs := by
 unfold bts
 rw [str_data', List.map_map]
 conv => rhs; rw [← List.map_id xs]
 apply List.map_congr_left
 intro x hx
 have hx' := u8n (h x hx)
 simp only [Function.comp, id]
 rw [UInt8.toNat_ofNat', Nat.mod_eq_of_lt (by omega)]
 omega
theorem bts_app (a b : ByteArray) : bts (a ++ b) = bts a ++ bts b := by
 unfold bts
 simp
theorem size_str {xs : List Int} (h : U8 xs) : (str xs).size = xs.length := by rw [← bts_len, bts_str h]
def hx (n : Nat) : Int := if n < 10 then ((48 + n : Nat) : Int) else ((87 + n : Nat) : Int)
def HX (b : List Int) : List Int := b.flatMap fun x => [hx (x.toNat / 16), hx (x.toNat % 16)]
theorem hx_u8 (n : Nat) (h : n < 16) : InK .u8 (hx n) := by
 unfold hx
 split <;> exact u8_ok (by omega) (by omega)
theorem HX_u8 {b : List Int} (h : U8 b) : U8 (HX b) := by
 intro x hx'
 simp only [HX, List.mem_flatMap] at hx'
 obtain ⟨y, hy, hx'⟩ := hx'
 have := u8n (h y hy)
 simp only [List.mem_cons, List.not_mem_nil, or_false] at hx'
 rcases hx' with rfl | rfl <;> exact hx_u8 _ (by omega)
theorem HX_len (b : List Int) : (HX b).length = 2 * b.length := by
 induction b with
 | nil => rfl
 | cons x b ih => simp only [HX, List.flatMap_cons, List.length_append, List.length_cons, List.length_nil] at ih ⊢; omega
theorem HX_succ (b : List Int) (k : Nat) (h : k < b.length) : HX (b.take (k + 1)) = HX (b.take k) ++ [hx (b[k].toNat / 16), hx (b[k].toNat % 16)] := by
 rw [List.take_succ_eq_append_getElem h]
 simp only [HX, List.flatMap_append, List.flatMap_cons, List.flatMap_nil, List.append_nil]
theorem dig_at (n : Nat) (h : n < 16) : at_ ([(48 : Int), (49 : Int), (50 : Int), (51 : Int), (52 : Int), (53 : Int), (54 : Int), (55 : Int), (56 : Int), (57 : Int), (97 : Int), (98 : Int), (99 : Int), (100 : Int), (101 : Int), (102 : Int)]) (n : Int) = hx n := by
 have : ∀ m : Fin 16, at_ ([(48 : Int), (49 : Int), (50 : Int), (51 : Int), (52 : Int), (53 : Int), (54 : Int), (55 : Int), (56 : Int), (57 : Int), (97 : Int), (98 : Int), (99 : Int), (100 : Int), (101 : Int), (102 : Int)]) ((m : Nat) : Int) = hx m := by decide
 exact this ⟨n, h⟩
theorem bts_dig : bts (⟨#[48, 49, 50, 51, 52, 53, 54, 55, 56, 57, 97, 98, 99, 100, 101, 102]⟩ : ByteArray) = [(48 : Int), (49 : Int), (50 : Int), (51 : Int), (52 : Int), (53 : Int), (54 : Int), (55 : Int), (56 : Int), (57 : Int), (97 : Int), (98 : Int), (99 : Int), (100 : Int), (101 : Int), (102 : Int)] := by decide
theorem shr4 (n : Nat) : ishr .u8 (n : Int) (4 : Int) = ((n / 16 : Nat) : Int) := ishr_nat .u8 n 4 (by show 4 ≤ 8; omega)
theorem and15 (n : Nat) (h : n < 256) : iand .u8 (n : Int) (15 : Int) = ((n % 16 : Nat) : Int) := by
 have : ∀ m : Fin 256, iand .u8 ((m : Nat) : Int) (15 : Int) = (((m : Nat) % 16 : Nat) : Int) := by decide +kernel
 exact this ⟨n, h⟩
theorem spec_l18hex (b : List Int) (h : U8 b) (hl : b.length ≤ 1048576) : spec_l18hex.f b = some (HX b) := by
 unfold spec_l18hex.f
 have hst : (([] : List Int), (0 : Int)) = (HX (b.take 0), ((0 : Nat) : Int)) := by simp [HX]
 rw [hst]
 refine iter_for b.length (fun k => (HX (b.take k), (k : Int))) _ (fun k hk => ?_) ?_
 · unfold spec_l18hex.b0
   simp only []
   have hu := u8n (h _ (List.getElem_mem hk))
   have hlen : (HX (b.take k)).length ≤ 2097152 := by rw [HX_len, List.length_take]; omega
   have e1 : at_ b (k : Int) = ((b[k].toNat : Nat) : Int) := by rw [at_nat b k hk]; exact hu.1
   have e2 : IntKind.wrap .u8 (Int.tdiv ((b[k].toNat : Nat) : Int) (16 : Int)) = ((b[k].toNat / 16 : Nat) : Int) := by
    have : Int.tdiv ((b[k].toNat : Nat) : Int) (16 : Int) = ((b[k].toNat / 16 : Nat) : Int) := rfl
    rw [this, wrap8]; omega
   have e3 : Int.tmod ((b[k].toNat : Nat) : Int) (16 : Int) = ((b[k].toNat % 16 : Nat) : Int) := rfl
   rw [e1, e2, e3, dig_at _ (by omega), dig_at _ (by omega)]
   rw [if_pos (by simp; omega), if_pos (by omega), if_pos ⟨by omega, by simp only [List.length_cons, List.length_nil]; omega⟩, if_pos (by simp [Lim]; omega), if_pos (by omega), if_pos ⟨by omega, by simp only [List.length_cons, List.length_nil]; omega⟩, if_pos (by simp [Lim]; omega)]
   rw [w64 (by omega) (by omega), List.append_assoc, HX_succ b k hk]
   rfl
 · unfold spec_l18hex.b0
   simp only []
   rw [if_neg (by simp), List.take_length]; rfl
theorem impl_hexText (b : List Int) (h : U8 b) (hl : b.length ≤ 1048576) : impl_hexText.f b = some (str (HX b)) := by
 unfold impl_hexText.f
 have hst : (([] : List Int), (0 : Int)) = (HX (b.take 0), ((0 : Nat) : Int)) := by simp [HX]
 rw [hst]
 refine iter_for b.length (fun k => (HX (b.take k), (k : Int))) _ (fun k hk => ?_) ?_
 · unfold impl_hexText.b0
   simp only []
   have hu := u8n (h _ (List.getElem_mem hk))
   have hlen : (HX (b.take k)).length ≤ 2097152 := by rw [HX_len, List.length_take]; omega
   have e1 : at_ b (k : Int) = ((b[k].toNat : Nat) : Int) := by rw [at_nat b k hk]; exact hu.1
   have hsz : ((⟨#[48, 49, 50, 51, 52, 53, 54, 55, 56, 57, 97, 98, 99, 100, 101, 102]⟩ : ByteArray).size : Int) = 16 := rfl
   rw [e1, shr4, and15 _ hu.2, bts_dig, dig_at _ (by omega), dig_at _ (by omega), hsz]
   rw [if_pos (by simp; omega), if_pos (by omega), if_pos (by omega), if_pos (by omega), if_pos (by simp [Lim]; omega), w64 (by omega) (by omega), HX_succ b k hk]
   rfl
 · unfold impl_hexText.b0
   simp only []
   rw [if_neg (by simp), List.take_length]; rfl
end Go.Proofs.YtiofnjnnocjbhaaDoor
set_option linter.unusedVariables false
set_option linter.unusedSimpArgs false
set_option linter.unusedSectionVars false
namespace Go.Proofs.YtiofnjnnocjbhaaDoor
open Go V Ieee
def DG (u : Nat) : List Int := (Lib.decDigits u).map fun b => (b.toNat : Int)
def IT (n : Int) : List Int := (Lib.itoa n).map fun b => (b.toNat : Int)
theorem bts_itoa (n : Int) : bts ⟨(Lib.itoa n).toArray⟩ = IT n := rfl
theorem DG_lt {u : Nat} (h : u < 10) : DG u = [((48 + u : Nat) : Int)] := by
 unfold DG
 rw [Lib.decDigits, dif_pos h]
 simp only [List.map_cons, List.map_nil, UInt8.toNat_ofNat']
 rw [Nat.mod_eq_of_lt (by omega)]
theorem DG_ge {u : Nat} (h : ¬ u < 10) : DG u = DG (u / 10) ++ [((48 + u % 10 : Nat) : Int)] := by
 unfold DG
 conv => lhs; rw [Lib.decDigits, dif_neg h]
 simp only [List.map_append, List.map_cons, List.map_nil, UInt8.toNat_ofNat']
 rw [Nat.mod_eq_of_lt (by omega)]
theorem IT_len (n : Int) (h : InK .i64 n) : (IT n).length ≤ 21 := by
 have := i64_of h
 simp only [IT, List.length_map]
 exact Lib.itoa_length_le n this.1 this.2
theorem rev_loop (x : Int × List Int) (u : Nat) (hu : u < 10) (hx : x = ((u : Int), x.2)) (hl : x.2.length ≤ 1000) :
    iter (spec_l18digits.b1 x) (([] : List Int), IntKind.wrap .i64 (((x.2 ++ [(IntKind.wrap .u8 (IntKind.wrap .i64 ((48 : Int) + x.1)))]).length : Int) - (1 : Int))) = some ((x.2 ++ [((48 + u : Nat) : Int)]).reverse) := by
  obtain ⟨xa, xb⟩ := x
  simp only at hl
  obtain rfl : xa = (u : Int) := (Prod.mk.inj hx).1
  have e1 : IntKind.wrap .u8 (IntKind.wrap .i64 ((48 : Int) + (u : Int))) = ((48 + u : Nat) : Int) := by
    rw [w64 (by omega) (by omega), show (48 : Int) + (u : Int) = ((48 + u : Nat) : Int) by omega, wrap8]; omega
  have hb : spec_l18digits.b1 ((u : Int), xb) = fun x34 => (if (decide (x34.2 ≥ (0 : Int))) = true then (if 0 ≤ x34.2 ∧ x34.2 < ((xb ++ [((48 + u : Nat) : Int)]).length : Int) then (if x34.1.length + ([(at_ (xb ++ [((48 + u : Nat) : Int)]) x34.2)]).length ≤ Lim then (some (Sum.inl ((x34.1 ++ [(at_ (xb ++ [((48 + u : Nat) : Int)]) x34.2)]), (IntKind.wrap .i64 (x34.2 - (1 : Int)))))) else none) else none) else ((some x34.1).bind fun o => some (Sum.inr o))) := by
    funext y
    unfold spec_l18digits.b1
    simp only [e1]
  rw [hb]
  simp only [e1]
  generalize hB : xb ++ [((48 + u : Nat) : Int)] = B
  have hBl : B.length = xb.length + 1 := by rw [← hB]; simp
  have hst : (([] : List Int), IntKind.wrap .i64 ((B.length : Int) - 1)) = (B.reverse.take 0, (B.length : Int) - 1 - ((0 : Nat) : Int)) := by rw [w64 (by omega) (by omega)]; simp
  rw [hst]
  refine iter_for B.length (fun k => (B.reverse.take k, (B.length : Int) - 1 - (k : Int))) _ (fun k hk => ?_) ?_
  · simp only []
    have e2 : (B.length : Int) - 1 - (k : Int) = ((B.length - 1 - k : Nat) : Int) := by omega
    have hlt : B.length - 1 - k < B.length := by omega
    rw [e2, if_pos (by simp), if_pos (by omega), at_nat B _ hlt, if_pos (by simp [Lim]; omega), w64 (by omega) (by omega)]
    rw [List.take_succ_eq_append_getElem (by simpa using hk), List.getElem_reverse, show ((B.length - 1 - k : Nat) : Int) - 1 = (B.length : Int) - 1 - ((k + 1 : Nat) : Int) by omega]
  · simp only []
    rw [if_neg (by simp; omega)]
    simp [List.take_of_length_le]
theorem dig_loop : ∀ (k u : Nat) (back : List Int), u < 10 ^ k → (u : Int) ≤ 9223372036854775807 → back.length + k ≤ 1000 → iter spec_l18digits.b0 ((u : Int), back) = some (DG u ++ back.reverse)
  | 0, u, back, h, h2, hl => by
    obtain rfl : u = 0 := by simpa using h
    rw [DG_lt (by omega)]
    have hr := rev_loop ((0 : Nat), back) 0 (by omega) rfl (by simpa using hl)
    refine iter_pass ?_ |>.trans (hr.trans ?_)
    · unfold spec_l18digits.b0
      simp only []
      rw [if_neg (by simp), if_pos (by simp [Lim]; omega)]
    · simp
  | k + 1, u, back, h, h2, hl => by
    by_cases hu : u < 10
    · rw [DG_lt hu]
      have hr := rev_loop ((u : Nat), back) u hu rfl (by simp; omega)
      refine iter_pass ?_ |>.trans (hr.trans ?_)
      · unfold spec_l18digits.b0
        simp only []
        rw [if_neg (by simp; omega), if_pos (by simp [Lim]; omega)]
      · simp
    · have e1 : IntKind.wrap .u8 (IntKind.wrap .i64 ((48 : Int) + Int.tmod (u : Int) 10)) = ((48 + u % 10 : Nat) : Int) := by
        have : Int.tmod (u : Int) (10 : Int) = ((u % 10 : Nat) : Int) := rfl
        rw [this, w64 (by omega) (by omega), show (48 : Int) + ((u % 10 : Nat) : Int) = ((48 + u % 10 : Nat) : Int) by omega, wrap8]; omega
      have e2 : IntKind.wrap .i64 (Int.tdiv (u : Int) 10) = ((u / 10 : Nat) : Int) := by
        have : Int.tdiv (u : Int) (10 : Int) = ((u / 10 : Nat) : Int) := rfl
        rw [this, w64 (by omega) (by omega)]
      have hs : spec_l18digits.b0 ((u : Int), back) = some (.inl (((u / 10 : Nat) : Int), back ++ [((48 + u % 10 : Nat) : Int)])) := by
        unfold spec_l18digits.b0
        simp only [e1, e2]
        rw [if_pos (by simp; omega), if_pos (by simp [Lim]; omega)]
      rw [iter_l hs, dig_loop k (u / 10) _ (by rw [Nat.pow_succ] at h; omega) (by omega) (by simp; omega), DG_ge hu]
      simp
theorem b1_same : spec_l18digits0.b1 = spec_l18digits.b1 := by
 funext x y
 unfold spec_l18digits0.b1 spec_l18digits.b1
 rfl
theorem b0_same : spec_l18digits0.b0 = spec_l18digits.b0 := by
 funext x
 unfold spec_l18digits0.b0 spec_l18digits.b0
 rw [b1_same]
theorem digits0 (u : Nat) (h : (u : Int) ≤ 9223372036854775807) : spec_l18digits0.f (u : Int) = some (DG u) := by
 unfold spec_l18digits0.f
 rw [if_neg (by simp), if_neg (by simp), b0_same, dig_loop 19 u [] (by omega) h (by simp)]
 simp
theorem spec_l18digits (n : Int) (h : InK .i64 n) : spec_l18digits.f n = some (IT n) := by
 have hn := i64_of h
 unfold spec_l18digits.f
 by_cases hm : n = -9223372036854775808
 · subst hm
   rw [if_pos (by simp)]
   have : IT (-9223372036854775808) = 45 :: DG 9223372036854775808 := rfl
   rw [this]
   iterate 18 rw [DG_ge (by omega)]
   rw [DG_lt (by omega)]
   rfl
 · rw [if_neg (by simp [hm])]
   by_cases hs : n < 0
   · obtain ⟨u, rfl⟩ : ∃ u : Nat, n = -(u : Int) := ⟨n.natAbs, by omega⟩
     rw [if_pos (by simpa using hs), show IntKind.wrap .i64 (0 - -(u : Int)) = (u : Int) by rw [w64 (by omega) (by omega)]; omega, digits0 u (by omega), Option.bind_some]
     have e : IT (-(u : Int)) = 45 :: DG u := by unfold IT Lib.itoa; rw [if_pos hs]; simp [DG]
     have hl := IT_len _ h
     rw [e] at hl
     rw [if_pos (by simp at hl; simp [Lim]; omega), e]; rfl
   · obtain ⟨u, rfl⟩ := Int.eq_ofNat_of_zero_le (show 0 ≤ n by omega)
     rw [if_neg (by simp), dig_loop 19 u [] (by omega) (by omega) (by simp)]
     have e : IT (u : Int) = DG u := by unfold IT Lib.itoa; rw [if_neg hs]; simp [DG]
     rw [e]; simp
end Go.Proofs.YtiofnjnnocjbhaaDoor
set_option linter.unusedVariables false
set_option linter.unusedSimpArgs false
set_option linter.unusedSectionVars false
namespace Go.Proofs.YtiofnjnnocjbhaaDoor
open Go V Ieee
theorem wd_rng {M e : Nat} (h1 : M < 9007199254740992) (h3 : e ≤ 2045) (hM : 0 < M) : 0 < wd M e ∧ wd M e < 9218868437227405312 := by rw [wd_eq]; omega
theorem cmp_facts (x : Nat) (h : okF x) : (fcmp .f64 x x != some .eq) = decide (x = 9221120237041090560) ∧ (fcmp .f64 x 0 == some .eq) = decide (x = 0 ∨ x = 9223372036854775808) ∧
    (x ≠ 9221120237041090560 → (fcmp .f64 x 0 == some .gt) = decide (0 < x ∧ x < 9223372036854775808)) ∧ isN x = decide (x = 9221120237041090560) := by
  refine word_cases h (fun x => (fcmp .f64 x x != some .eq) = decide (x = 9221120237041090560) ∧ (fcmp .f64 x 0 == some .eq) = decide (x = 0 ∨ x = 9223372036854775808) ∧
    (x ≠ 9221120237041090560 → (fcmp .f64 x 0 == some .gt) = decide (0 < x ∧ x < 9223372036854775808)) ∧ isN x = decide (x = 9221120237041090560)) ?_ ?_ ?_ ?_ ?_ (fun M e h1 h2 h3 hM => ?_) (fun M e h1 h2 h3 hM => ?_)
  · exact ⟨by decide, by decide, fun h => absurd rfl h, by decide⟩
  · exact ⟨by decide, by decide, fun _ => by decide, by decide⟩
  · exact ⟨by decide, by decide, fun _ => by decide, by decide⟩
  · exact ⟨by decide, by decide, fun _ => by decide, by decide⟩
  · exact ⟨by decide, by decide, fun _ => by decide, by decide⟩
  · obtain ⟨q0, q1⟩ := wd_rng h1 h3 hM
    have c1 := cmp_self (wd_v h1 h2 h3)
    have c2 := wd_ne0 h1 h2 h3 hM
    have c3 := wd_gt h1 h2 h3 hM
    rw [c1, c2, c3]
    generalize wd M e = q at q0 q1
    refine ⟨?_, ?_, fun _ => ?_, ?_⟩
    · rw [decide_eq_false (by omega)]
    · rw [decide_eq_false (by omega)]
    · rw [decide_eq_true (by omega)]
    · unfold isN
      rw [decide_eq_false (by omega), decide_eq_false (by omega)]
  · obtain ⟨q0, q1⟩ := wd_rng h1 h3 hM
    have c1 := cmp_self (wd_neg h1 h2 h3)
    have c2 := neg_cmp h1 h2 h3 hM
    rw [c1, c2]
    generalize wd M e = q at q0 q1
    refine ⟨?_, ?_, fun _ => ?_, ?_⟩
    · rw [decide_eq_false (by omega)]
    · rw [decide_eq_false (by omega)]; rfl
    · rw [decide_eq_false (by omega)]; rfl
    · unfold isN
      rw [decide_eq_false (by omega), decide_eq_false (by omega)]
end Go.Proofs.YtiofnjnnocjbhaaDoor
set_option linter.unusedVariables false
set_option linter.unusedSimpArgs false
set_option linter.unusedSectionVars false
namespace Go.Proofs.YtiofnjnnocjbhaaDoor
open Go V Ieee
theorem within_rin (a b c : Int) : impl_within.f a b c = some (rin a b c) := rfl
def IOK (a : Item) : Bool := ((rin a.Kind 0 3 && ((a.N == (0 : Int)) || (a.Kind == (1 : Int)))) && (((a.F : Int) == 0) || (a.Kind == (2 : Int)))) && (((a.T.length : Int) == (0 : Int)) || ((a.Kind == (3 : Int)) && (decide ((a.T.length : Int) ≤ (40 : Int)))))
theorem impl_ItemOk (a : Item) : impl_ItemOk.f a = some (IOK a) := by
 unfold impl_ItemOk.f
 rw [within_rin, Option.bind_some]; rfl
theorem iok_iff (a : Item) : IOK a = true ↔ ((0 ≤ a.Kind ∧ a.Kind ≤ 3) ∧ (a.N = 0 ∨ a.Kind = 1)) ∧ (a.F = 0 ∨ a.Kind = 2) ∧ (a.T.length = 0 ∨ a.Kind = 3 ∧ a.T.length ≤ 40) := by
 simp only [IOK, rin, Bool.and_eq_true, Bool.or_eq_true, decide_eq_true_eq, beq_iff_eq]
 constructor
 · rintro ⟨⟨⟨h1, h2⟩, h3⟩, h4⟩; exact ⟨⟨h1, h2⟩, by omega, by omega⟩
 · rintro ⟨⟨h1, h2⟩, h3, h4⟩; exact ⟨⟨⟨h1, h2⟩, by omega⟩, by omega⟩
theorem spec_ItemOk (a : Item) (h : okF a.F) : spec_ItemOk.f a = some (IOK a) := by
  unfold spec_ItemOk.f
  rw [spec_FloatBits a.F h]
  obtain ⟨k, n, f, t⟩ := a
  have hi := iok_iff ⟨k, n, f, t⟩
  simp only at hi ⊢
  generalize t.length = l at hi ⊢
  by_cases c1 : (((decide (k < (0 : Int))) || (decide (k > (3 : Int)))) || (decide ((l : Int) > (40 : Int)))) = true
  · rw [if_pos c1]
    have : IOK ⟨k, n, f, t⟩ = false := by
      cases hh : IOK ⟨k, n, f, t⟩ with
      | false => rfl
      | true =>
        have := hi.1 hh
        simp only [Bool.or_eq_true, decide_eq_true_eq] at c1
        omega
    rw [this]
  · rw [if_neg c1]
    simp only [Bool.or_eq_true, decide_eq_true_eq, not_or] at c1
    by_cases c2 : ((k != (1 : Int)) && (n != (0 : Int))) = true
    · rw [if_pos c2]
      have : IOK ⟨k, n, f, t⟩ = false := by
        cases hh : IOK ⟨k, n, f, t⟩ with
        | false => rfl
        | true =>
          have := hi.1 hh
          simp only [Bool.and_eq_true, bne_iff_ne, ne_eq] at c2
          omega
      rw [this]
    · rw [if_neg c2]
      simp only [Bool.and_eq_true, bne_iff_ne, ne_eq, not_and, Decidable.not_not] at c2
      by_cases c3 : k = 2
      · rw [if_neg (by simp [c3])]
        simp only [Option.bind_some, Bool.false_eq_true, if_false]
        congr 1
        have e : ((k == (3 : Int)) || ((l : Int) == (0 : Int))) = decide (k = 3 ∨ l = 0) := by
          by_cases q : k = 3 <;> by_cases q2 : l = 0 <;> simp [q, q2]
        rw [e]
        cases hh : IOK ⟨k, n, f, t⟩ with
        | true => exact decide_eq_true (by have := hi.1 hh; omega)
        | false => exact decide_eq_false (fun hc => by
            have : IOK ⟨k, n, f, t⟩ = true := hi.2 (by omega)
            rw [hh] at this; cases this)
      · rw [if_pos (by simp [c3])]
        simp only [Option.bind_some]
        by_cases c4 : f = 0
        · rw [if_neg (by simp [c4])]
          congr 1
          have e : ((k == (3 : Int)) || ((l : Int) == (0 : Int))) = decide (k = 3 ∨ l = 0) := by
            by_cases q : k = 3 <;> by_cases q2 : l = 0 <;> simp [q, q2]
          rw [e]
          cases hh : IOK ⟨k, n, f, t⟩ with
          | true => exact decide_eq_true (by have := hi.1 hh; omega)
          | false => exact decide_eq_false (fun hc => by
              have : IOK ⟨k, n, f, t⟩ = true := hi.2 (by omega)
              rw [hh] at this; cases this)
        · rw [if_pos (by simp; exact c4)]
          have : IOK ⟨k, n, f, t⟩ = false := by
            cases hh : IOK ⟨k, n, f, t⟩ with
            | false => rfl
            | true =>
              have := hi.1 hh
              omega
          rw [this]
def KOK (a : Item) : Bool := (IOK a && (a.Kind != (0 : Int))) && decide (a.F ≠ 9223372036854775808)
theorem impl_KeyOk (a : Item) (h : okF a.F) : impl_KeyOk.f a = some (KOK a) := by
 unfold impl_KeyOk.f KOK
 rw [impl_ItemOk, Option.bind_some]
 obtain ⟨_, c2, _, _⟩ := cmp_facts a.F h
 have e : ((fcmp .f64 a.F 0 != some .eq) || ((a.F : Int) == 0)) = decide (a.F ≠ 9223372036854775808) := by
  have hb : (fcmp .f64 a.F 0 != some .eq) = !(fcmp .f64 a.F 0 == some .eq) := rfl
  rw [hb, c2]
  generalize a.F = q
  by_cases h0 : q = 0
  · subst h0; rfl
  · by_cases h1 : q = 9223372036854775808
    · subst h1; rfl
    · rw [decide_eq_false (by omega), decide_eq_true h1]; rfl
 rw [e]
theorem spec_KeyOk (a : Item) (h : okF a.F) : spec_KeyOk.f a = some (KOK a) := by
 unfold spec_KeyOk.f KOK
 rw [spec_ItemOk a h, Option.bind_some]
 obtain ⟨_, c2, _, _⟩ := cmp_facts a.F h
 cases hc : (IOK a && (a.Kind != (0 : Int))) with
 | false => rfl
 | true =>
  rw [if_pos rfl, c2, spec_FloatBits a.F h]
  generalize a.F = q
  by_cases h0 : q = 0
  · subst h0; rfl
  · by_cases h1 : q = 9223372036854775808
    · subst h1; rfl
    · rw [decide_eq_false (by omega), decide_eq_true h1]; rfl
theorem iok_T {a : Item} (h : IOK a = true) : a.T.length ≤ 40 := by have := (iok_iff a).1 h; omega
end Go.Proofs.YtiofnjnnocjbhaaDoor
set_option linter.unusedVariables false
set_option linter.unusedSimpArgs false
set_option linter.unusedSectionVars false
namespace Go.Proofs.YtiofnjnnocjbhaaDoor
open Go V Ieee
theorem impl_FloatBits (x : Nat) (h : okF x) : impl_FloatBits.f x = some (x : Int) := by
 obtain ⟨c1, _, _, c4⟩ := cmp_facts x h
 unfold impl_FloatBits.f
 by_cases hx : x = 9221120237041090560
 · rw [ifT (by rw [c1]; exact decide_eq_true hx), hx]; rfl
 · rw [ifF (by rw [c1]; exact decide_eq_false hx), if_pos (by rw [c4]; exact decide_eq_false hx)]
end Go.Proofs.YtiofnjnnocjbhaaDoor
set_option linter.unusedVariables false
set_option linter.unusedSimpArgs false
set_option linter.unusedSectionVars false
namespace Go.Proofs.YtiofnjnnocjbhaaDoor
open Go V Ieee
def TX (a : Item) : List Int := if a.Kind = 1 then 105 :: IT a.N else if a.Kind = 2 then 102 :: HX (highB a.F) else if a.Kind = 3 then 116 :: HX a.T else [45]
theorem TX_len (a : Item) (hn : InK .i64 a.N) : (TX a).length ≤ 2 * a.T.length + 30 := by
 unfold TX
 have h1 := IT_len a.N hn
 have h2 : (HX (highB a.F)).length = 16 := by rw [HX_len, highB, highP_len]
 have h3 := HX_len a.T
 split
 · simp only [List.length_cons]; omega
 · split
   · simp only [List.length_cons]; omega
   · split <;> simp only [List.length_cons, List.length_nil] <;> omega
theorem highB_len (n : Nat) : (highB n).length = 8 := by rw [highB, highP_len]
theorem impl_bitsText (x : Nat) (hx : okF x) : impl_bitsText.f x = some (str (HX (highB x))) := by
 unfold impl_bitsText.f
 rw [impl_FloatBits x hx, Option.bind_some, impl_highFirst, Option.bind_some, impl_hexText _ (highB_u8 x) (by rw [highB_len]; omega)]; rfl
theorem okF_lt {x : Nat} (h : okF x) : x < 18446744073709551616 := h.2
theorem bts_itemText (a : Item) (ha : ok_Item a) (hT : a.T.length ≤ 1000000) : ∃ t, impl_itemText.f a = some t ∧ bts t = TX a := by
 have hn := i64_of ha.2.1
 have hil := IT_len a.N ha.2.1
 unfold impl_itemText.f TX
 by_cases h1 : a.Kind = 1
 · rw [if_pos (by simp [h1]), if_pos h1]
   have : strconv_Itoa.f a.N = some ⟨(Lib.itoa a.N).toArray⟩ := by unfold strconv_Itoa.f; rw [if_pos hn]
   rw [this, Option.bind_some, if_pos (by rw [← bts_len, ← bts_len, bts_itoa]; simp [bts, Lim]; omega)]
   exact ⟨_, rfl, by rw [bts_app, bts_itoa]; rfl⟩
 · rw [if_neg (by simp [h1]), if_neg h1]
   by_cases h2 : a.Kind = 2
   · rw [if_pos (by simp [h2]), if_pos h2, impl_bitsText a.F ha.2.2.1, Option.bind_some]
     have hu := HX_u8 (highB_u8 a.F)
     rw [if_pos (by rw [size_str hu, HX_len, highB_len]; decide)]
     exact ⟨_, rfl, by rw [bts_app, bts_str hu]; rfl⟩
   · rw [if_neg (by simp [h2]), if_neg h2]
     by_cases h3 : a.Kind = 3
     · have hu := HX_u8 ha.2.2.2.2
       rw [if_pos (by simp [h3]), if_pos h3, impl_hexText a.T ha.2.2.2.2 (by omega), Option.bind_some, if_pos (by rw [size_str hu, HX_len, ← bts_len]; simp [bts, Lim]; omega)]
       exact ⟨_, rfl, by rw [bts_app, bts_str hu]; rfl⟩
     · rw [if_neg (by simp [h3]), if_neg h3]
       exact ⟨_, rfl, rfl⟩
def TXO (a : Item) : List Int := if IOK a = true then TX a else []
theorem spec_ItemText (a : Item) (ha : ok_Item a) : spec_ItemText.f a = some (TXO a) := by
 have hil := IT_len a.N ha.2.1
 unfold spec_ItemText.f TXO
 rw [spec_ItemOk a ha.2.2.1, Option.bind_some]
 by_cases h : IOK a = true
 · have hT := iok_T h
   rw [if_neg (by simp [h]), if_pos h]
   unfold TX
   by_cases h1 : a.Kind = 1
   · rw [if_pos (by simp [h1]), if_pos h1, spec_l18digits a.N ha.2.1, Option.bind_some, if_pos (by simp [Lim]; omega)]; rfl
   · rw [if_neg (by simp [h1]), if_neg h1]
     by_cases h2 : a.Kind = 2
     · rw [if_pos (by simp [h2]), if_pos h2, spec_FloatBits a.F ha.2.2.1, Option.bind_some, spec_l3high a.F (okF_lt ha.2.2.1), Option.bind_some, spec_l18hex _ (highB_u8 _) (by rw [highB_len]; omega), Option.bind_some, if_pos (by rw [HX_len, highB_len]; decide)]; rfl
     · rw [if_neg (by simp [h2]), if_neg h2]
       by_cases h3 : a.Kind = 3
       · rw [if_pos (by simp [h3]), if_pos h3, spec_l18hex a.T ha.2.2.2.2 (by omega), Option.bind_some, if_pos (by rw [HX_len]; simp [Lim]; omega)]; rfl
       · rw [if_neg (by simp [h3]), if_neg h3]
 · rw [if_pos (by simpa using h), if_neg h]
end Go.Proofs.YtiofnjnnocjbhaaDoor
set_option linter.unusedVariables false
set_option linter.unusedSimpArgs false
set_option linter.unusedSectionVars false
namespace Go.Proofs.YtiofnjnnocjbhaaDoor
open Go V Ieee
theorem szByteS (a : List Int) (n : Int) (hl : a.length ≤ maxLen) (h0 : 0 ≤ n) (h1 : n ≤ 1048576) : Sz (laws_szByteS.f a n) n a.length := by
 simp only [maxLen] at hl
 unfold laws_szByteS.f
 rw [w64 (by omega) (by omega)]
 by_cases hneg : n - (a.length : Int) < 0
 · rw [if_pos (by simpa using hneg)]; exact ⟨-1, rfl, by omega, fun h => by omega⟩
 · rw [if_neg (by simpa using hneg)]; exact ⟨_, rfl, by omega, fun h => rfl⟩
theorem toByteS (a : List Int) (h : a.length ≤ 1048576) : laws_toByteS.f a = some a := by
 unfold laws_toByteS.f
 rw [if_pos ⟨by omega, by simp only [Lim]; omega⟩]
 refine toS_gen a 0 (fun l k hk hl => ?_) (fun l => ?_)
 · unfold laws_toByteS.b0
   simp only []
   rw [if_pos (by simp; omega), if_pos ⟨by omega, by omega⟩, if_pos ⟨by omega, by omega⟩, at_nat _ k hk, w64 (by omega) (by omega)]; rfl
 · unfold laws_toByteS.b0
   simp only []
   rw [if_neg (by simp)]; rfl
theorem eqByteS (a : List Int) (h : a.length ≤ 1048576) : laws_eqByteS.f a a = some true := by
 unfold laws_eqByteS.f
 have := eqS_gen (body := laws_eqByteS.b0 a a) a a (fun k hk _ => by
  unfold laws_eqByteS.b0
  rw [if_pos (by simp; omega), if_pos ⟨by omega, by omega⟩, if_pos ⟨by omega, by omega⟩, at_nat _ k hk, w64 (by omega) (by omega)]
  simp) (by
  unfold laws_eqByteS.b0
  rw [if_neg (by simp)]; rfl)
 rw [this]; simp
theorem wsum_one (a : List Int) : wsum (fun _ => 1) a = a.length := by
 induction a with
 | nil => rfl
 | cons x l ih => rw [wsum_cons, ih, List.length_cons]; omega
end Go.Proofs.YtiofnjnnocjbhaaDoor
set_option linter.unusedVariables false
set_option linter.unusedSimpArgs false
set_option linter.unusedSectionVars false
namespace Go.Proofs.YtiofnjnnocjbhaaDoor
open Go V Ieee
theorem szItem (a : Item) (n : Int) (ha : ok_Item a) (h0 : 0 ≤ n) (h1 : n ≤ 1048576) : Sz (laws_szItem.f a n) n a.T.length := by
 unfold laws_szItem.f
 obtain ⟨r, er, hr, hr2⟩ := szByteS a.T n ha.2.2.2.1 h0 h1
 rw [er, Option.bind_some]
 by_cases hn : r < 0
 · rw [if_pos (by simpa using hn)]; exact ⟨-1, rfl, by omega, fun h => by omega⟩
 · rw [if_neg (by simpa using hn)]; exact ⟨r, rfl, hr, hr2⟩
theorem toItem (a : Item) (h : a.T.length ≤ 1048576) : laws_toItem.f a = some a := by
 unfold laws_toItem.f
 rw [toByteS _ h]; rfl
theorem sameFloat (x : Nat) : laws_sameFloat.f x x = some true := by
 unfold laws_sameFloat.f
 have hbe : ∀ b : Bool, (b == b) = true := fun b => by cases b <;> rfl
 cases hb : fcmp .f64 x x != some .eq with
 | true => rfl
 | false =>
  have he : (fcmp .f64 x x == some .eq) = true := by
   have : (fcmp .f64 x x != some .eq) = !(fcmp .f64 x x == some .eq) := rfl
   rw [this] at hb
   cases hq : (fcmp .f64 x x == some .eq) with
   | true => rfl
   | false => rw [hq] at hb; cases hb
  rw [if_neg (by decide), he, hbe]
  split <;> rfl
theorem eqItem (a : Item) (h : a.T.length ≤ 1048576) : laws_eqItem.f a a = some true := by
 unfold laws_eqItem.f
 rw [if_neg (by simp), if_neg (by simp), sameFloat, Option.bind_some, if_neg (by decide), eqByteS _ h]; rfl
end Go.Proofs.YtiofnjnnocjbhaaDoor
set_option linter.unusedVariables false
set_option linter.unusedSimpArgs false
set_option linter.unusedSectionVars false
namespace Go.Proofs.YtiofnjnnocjbhaaDoor
open Go V Ieee
def JW (w : List Int) (ws : List (List Int)) : List Int := w ++ (ws.map fun x => (32 : Int) :: x).flatten
theorem JW_nil (w : List Int) : JW w [] = w := by simp [JW]
theorem JW_snoc (w : List Int) (ws : List (List Int)) (x : List Int) : JW w (ws ++ [x]) = JW w ws ++ [(32 : Int)] ++ x := by simp [JW]
theorem JW_len (w : List Int) (c : Nat) : ∀ ws : List (List Int), (∀ x ∈ ws, x.length + 1 ≤ c) → (JW w ws).length ≤ w.length + ws.length * c
 | [], _ => by simp [JW]
 | x :: ws, h => by
  have ih := JW_len w c ws fun y hy => h y (List.mem_cons_of_mem _ hy)
  have hx := h x List.mem_cons_self
  simp only [JW, List.map_cons, List.flatten_cons, List.length_append, List.length_cons, Nat.add_mul] at ih ⊢
  omega
theorem bts_join (x : ByteArray) (xs : List ByteArray) : bts ⟨(Lib.join ((x :: xs).map (·.data.toList)) (⟨#[32]⟩ : ByteArray).data.toList).toArray⟩ = JW (bts x) (xs.map bts) := by
 unfold bts JW
 rw [List.map_cons, Lib.join_cons]
 simp only [Lib.joinTail, List.map_append, List.map_flatten, List.map_map]
 congr 2
theorem l18word (a b : List Int) (h : a.length + b.length + 1 ≤ 4294967296) : spec_l18word.f a b = some (a ++ [(32 : Int)] ++ b) := by
 unfold spec_l18word.f
 rw [if_pos (by simp [Lim]; omega), if_pos (by simp [Lim]; omega)]
theorem TX_le {a : Item} (hn : InK .i64 a.N) (h : IOK a = true) : (TX a).length ≤ 110 := by
 have := TX_len a hn
 have := iok_T h
 omega
theorem itoa_ok (n : Int) (h : InK .i64 n) : strconv_Itoa.f n = some ⟨(Lib.itoa n).toArray⟩ := by
 unfold strconv_Itoa.f
 rw [if_pos (i64_of h)]
end Go.Proofs.YtiofnjnnocjbhaaDoor
set_option linter.unusedVariables false
set_option linter.unusedSimpArgs false
set_option linter.unusedSectionVars false
namespace Go.Proofs.YtiofnjnnocjbhaaDoor
open Go V Ieee
def CLN (a : Item) : Item := if IOK a = true then ⟨a.Kind, a.N, if (fcmp .f64 a.F (0 : Nat) == some .eq) = true then 0 else a.F, a.T⟩ else ⟨0, 0, 0, []⟩
theorem clone40 (l : List Int) (h : l.length ≤ 40) : slices_Clone_byte_byte.f l = some l := by
 unfold slices_Clone_byte_byte.f
 by_cases hn : l = []
 · subst hn; simp [Lim]
 · simp [Lim]; omega
theorem okF_cln (a : Item) (h : okF a.F) : okF (CLN a).F := by
 unfold CLN
 split
 · simp only []
   split
   · exact ⟨by decide, by omega⟩
   · exact h
 · show okF 0
   exact ⟨by decide, by omega⟩
theorem spec_ItemClean (a : Item) (h : okF a.F) : spec_ItemClean.f a = some (CLN a) := by
 unfold spec_ItemClean.f CLN
 rw [spec_ItemOk a h, Option.bind_some]
 by_cases hi : IOK a = true
 · have hT := iok_T hi
   have hc : spec_l3copy.f a = some a := by unfold spec_l3copy.f; rw [if_pos (by simp [Lim]; omega), List.nil_append]
   rw [if_neg (by simp [hi]), if_pos hi, hc, Option.bind_some]
   by_cases hz : (fcmp .f64 a.F (0 : Nat) == some .eq) = true
   · rw [if_pos hz, if_pos hz]; rfl
   · rw [if_neg hz, if_neg hz]; rfl
 · rw [if_pos (by simpa using hi), if_neg hi]
theorem impl_ItemClean (a : Item) : impl_ItemClean.f a = some (CLN a) := by
 unfold impl_ItemClean.f CLN
 rw [impl_ItemOk, Option.bind_some]
 by_cases hi : IOK a = true
 · have hT := iok_T hi
   have ho : ∀ y : Nat, impl_Item_own.f ⟨a.Kind, a.N, y, a.T⟩ = some ⟨a.Kind, a.N, y, a.T⟩ := fun y => by unfold impl_Item_own.f; simp only [clone40 _ hT, Option.bind_some]
   rw [if_neg (by simp [hi]), if_pos hi]
   by_cases hz : (fcmp .f64 a.F (0 : Nat) == some .eq) = true
   · rw [if_pos hz, if_pos hz, Option.bind_some, ho]; rfl
   · rw [if_neg hz, if_neg hz, Option.bind_some, ho]; rfl
 · rw [if_pos (by simpa using hi), if_neg hi]
def CK (a : Item) : Bool := KOK (CLN a)
theorem ck_iok {a : Item} (h : CK a = true) : IOK a = true := by
 unfold CK at h
 by_cases hi : IOK a = true
 · exact hi
 · unfold CLN at h
   rw [if_neg hi] at h
   have hf : KOK ⟨0, 0, 0, []⟩ = false := by decide
   rw [hf] at h; cases h
def VAL (a : Item) : Bool := IOK a && (a.Kind != (0 : Int))
theorem impl_isClean (a : Item) (h : okF a.F) : impl_isClean.f a = some (CK a) := by
 unfold impl_isClean.f
 rw [impl_ItemClean, Option.bind_some, impl_KeyOk _ (okF_cln a h)]; rfl
theorem impl_isValue (a : Item) : impl_isValue.f a = some (VAL a) := by
 unfold impl_isValue.f
 rw [impl_ItemOk]; rfl
theorem l5in_rin (a b c : Int) : spec_l5in.f a b c = some (rin a b c) := rfl
def opb (k : Int) (s l ck ct v n50 n15 n0 kl : Bool) : Bool :=
 (rin k 1 13 && (decide (k > 8) || s)) &&
  (if k = 1 then l else if k = 2 ∨ k = 4 then ck else if k = 3 then ck && v else if k = 5 then (ck && ct) && n50 else if k = 6 then ck && ct else if k = 11 then n15 else if k = 12 then n0 else if k = 13 then kl else true)
def OOK (o : Op) : Bool := opb o.Kind (rin o.Seat 0 7) (rin o.Level 0 1) (CK o.Key) (CK o.To) (VAL o.Value) (rin o.N 0 50) (rin o.N 0 15) (decide (o.N ≥ 0)) (decide ((o.Keep.length : Int) ≤ 600))
theorem kinds {k : Int} (h : rin k 1 13 = true) : k = 1 ∨ k = 2 ∨ k = 3 ∨ k = 4 ∨ k = 5 ∨ k = 6 ∨ k = 7 ∨ k = 8 ∨ k = 9 ∨ k = 10 ∨ k = 11 ∨ k = 12 ∨ k = 13 := by
 have := rin_iff.1 h
 omega
theorem no_kind {k : Int} (h : rin k 1 13 = false) : (k == 1) = false ∧ (k == 2) = false ∧ (k == 3) = false ∧ (k == 4) = false ∧ (k == 5) = false ∧ (k == 6) = false ∧ (k == 11) = false ∧ (k == 12) = false ∧ (k == 13) = false := by
 have h' : ¬ (1 ≤ k ∧ k ≤ 13) := fun hh => by rw [rin_iff.2 hh] at h; cases h
 simp only [beq_eq_false_iff_ne, ne_eq]
 omega
theorem spec_OpOk (o : Op) (h : ok_Op o) : spec_OpOk.f o = some (OOK o) := by
 unfold spec_OpOk.f OOK
 simp only [l5in_rin, Option.bind_some, spec_ItemClean _ h.2.2.2.2.1.2.2.1, spec_ItemClean _ h.2.2.2.2.2.1.2.2.1, spec_KeyOk _ (okF_cln _ h.2.2.2.2.1.2.2.1), spec_KeyOk _ (okF_cln _ h.2.2.2.2.2.1.2.2.1), spec_ItemOk _ h.2.2.2.2.2.2.1.2.2.1]
 change _ = some (opb o.Kind (rin o.Seat 0 7) (rin o.Level 0 1) (KOK (CLN o.Key)) (KOK (CLN o.To)) (IOK o.Value && (o.Value.Kind != (0 : Int))) (rin o.N 0 50) (rin o.N 0 15) (decide (o.N ≥ 0)) (decide ((o.Keep.length : Int) ≤ 600)))
 generalize rin o.Seat 0 7 = s
 generalize rin o.Level 0 1 = l
 generalize KOK (CLN o.Key) = ck
 generalize KOK (CLN o.To) = ct
 generalize (IOK o.Value && (o.Value.Kind != (0 : Int))) = v
 generalize rin o.N 0 50 = n50
 generalize rin o.N 0 15 = n15
 generalize decide (o.N ≥ 0) = n0
 generalize decide ((o.Keep.length : Int) ≤ 600) = kl
 generalize o.Kind = k
 cases hk : rin k 1 13 with
 | false => simp [hk, opb]
 | true =>
  rcases kinds hk with rfl | rfl | rfl | rfl | rfl | rfl | rfl | rfl | rfl | rfl | rfl | rfl | rfl <;> (clear hk; revert s l ck ct v n50 n15 n0 kl; decide +kernel)
theorem impl_OpOk (o : Op) (h : ok_Op o) : impl_OpOk.f o = some (OOK o) := by
 unfold impl_OpOk.f OOK
 simp only [within_rin, Option.bind_some, impl_isClean _ h.2.2.2.2.1.2.2.1, impl_isClean _ h.2.2.2.2.2.1.2.2.1, impl_isValue]
 generalize rin o.Seat 0 7 = s
 generalize rin o.Level 0 1 = l
 generalize CK o.Key = ck
 generalize CK o.To = ct
 generalize VAL o.Value = v
 generalize rin o.N 0 50 = n50
 generalize rin o.N 0 15 = n15
 generalize decide (o.N ≥ 0) = n0
 generalize decide ((o.Keep.length : Int) ≤ 600) = kl
 generalize o.Kind = k
 cases hk : rin k 1 13 with
 | false =>
  obtain ⟨e1, e2, e3, e4, e5, e6, e7, e8, e9⟩ := no_kind hk
  simp only [e1, e2, e3, e4, e5, e6, e7, e8, e9, hk, opb, Option.bind_some, Bool.false_eq_true, if_false]
  generalize decide (k ≤ 8) = d
  cases d <;> cases s <;> rfl
 | true =>
  rcases kinds hk with rfl | rfl | rfl | rfl | rfl | rfl | rfl | rfl | rfl | rfl | rfl | rfl | rfl <;> (clear hk; revert s l ck ct v n50 n15 n0 kl; decide +kernel)
end Go.Proofs.YtiofnjnnocjbhaaDoor
set_option linter.unusedVariables false
set_option linter.unusedSimpArgs false
set_option linter.unusedSectionVars false
namespace Go.Proofs.YtiofnjnnocjbhaaDoor
open Go V Ieee
noncomputable def names : List ByteArray := (impl_opNames.f).getD []
theorem impl_names : impl_opNames.f = some names := rfl
theorem spec_names : spec_l18names.f = some names := rfl
theorem names_len : names.length = 14 := rfl
noncomputable def NM (k : Int) : List Int := bts (at_ names k)
theorem NM_len {k : Int} (h : rin k 1 13 = true) : (NM k).length ≤ 10 := by
 unfold NM
 rw [bts_len]
 rcases kinds h with rfl | rfl | rfl | rfl | rfl | rfl | rfl | rfl | rfl | rfl | rfl | rfl | rfl <;> decide
def KT (l : List Bool) : List Int := l.map fun b => if b = true then 49 else 48
theorem KT_u8 (l : List Bool) : U8 (KT l) := by
 intro x hx
 simp only [KT, List.mem_map] at hx
 obtain ⟨b, _, rfl⟩ := hx
 split <;> exact u8_ok (by omega) (by omega)
theorem KT_len (l : List Bool) : (KT l).length = l.length := by simp [KT]
theorem keepText (l : List Bool) (h : l.length ≤ 1000) : impl_keepText.f l = some (str (KT l)) := by
 unfold impl_keepText.f
 rw [if_pos ⟨by omega, by simp only [Lim]; omega⟩]
 have hst : (List.replicate ((l.length : Int)).toNat (0 : Int), (0 : Int)) = ((KT l).take 0 ++ List.replicate (l.length - 0) 0, ((0 : Nat) : Int)) := by simp
 rw [hst]
 have hkl := KT_len l
 refine iter_for l.length (fun k => ((KT l).take k ++ List.replicate (l.length - k) 0, (k : Int))) _ (fun k hk => ?_) ?_
 · unfold impl_keepText.b0
   simp only []
   have hl2 : ((KT l).take k ++ List.replicate (l.length - k) (0 : Int)).length = l.length := by simp; omega
   have hset : ∀ v : Int, ((KT l).take k ++ List.replicate (l.length - k) 0).set k v = (KT l).take k ++ v :: List.replicate (l.length - (k + 1)) 0 := fun v => by
    rw [List.set_append, if_neg (by simp; omega)]
    have : ((KT l).take k).length = k := by simp; omega
    rw [this, Nat.sub_self, show l.length - k = (l.length - (k + 1)) + 1 by omega, List.replicate_succ, List.set_cons_zero]
   have hset2 : ∀ u v : Int, ((KT l).take k ++ u :: List.replicate (l.length - (k + 1)) 0).set k v = (KT l).take k ++ v :: List.replicate (l.length - (k + 1)) 0 := fun u v => by
    rw [List.set_append, if_neg (by simp; omega)]
    have : ((KT l).take k).length = k := by simp; omega
    rw [this, Nat.sub_self, List.set_cons_zero]
   have hkk : (KT l)[k]'(by omega) = if l[k] = true then 49 else 48 := by simp [KT]
   have ht : (KT l).take (k + 1) = (KT l).take k ++ [if l[k] = true then 49 else 48] := by rw [List.take_succ_eq_append_getElem (by omega), hkk]
   rw [if_pos (by simp; omega), if_pos (by omega), if_pos (by rw [hl2]; omega), at_nat l k hk]
   simp only [Int.toNat_natCast, List.set_set, hset, List.length_append, List.length_cons, List.length_replicate, List.length_take, hkl]
   by_cases hb : l[k] = true
   · rw [if_pos hb] at ht
     rw [if_pos hb, if_pos (by omega), Option.bind_some, w64 (by omega) (by omega), ht, hset2]
     simp
   · rw [if_neg hb] at ht
     rw [if_neg hb, Option.bind_some, w64 (by omega) (by omega), ht]
     simp
 · unfold impl_keepText.b0
   simp only []
   rw [if_neg (by simp), List.take_of_length_le (by omega)]
   simp
def W1 (o : Op) : List (List Int) := if o.Kind ≤ 8 then [IT o.Seat] else []
def W2 (o : Op) : List (List Int) := if o.Kind = 1 then [IT o.Level] else if o.Kind = 2 ∨ o.Kind = 4 then [TX o.Key] else if o.Kind = 3 then [TX o.Key, TX o.Value] else if o.Kind = 5 then [TX o.Key, TX o.To, IT o.N] else if o.Kind = 6 then [TX o.Key, TX o.To] else if o.Kind = 11 ∨ o.Kind = 12 then [IT o.N] else if o.Kind = 13 then (if o.Keep = [] then [] else [KT o.Keep]) else []
noncomputable def OPT (o : Op) : List Int := JW (NM o.Kind) (W1 o ++ W2 o)
theorem JW_add (w : List Int) (ws : List (List Int)) (x : List Int) : (JW w (ws ++ [x])).length = (JW w ws).length + 1 + x.length := by rw [JW_snoc]; simp; omega
theorem lw (w : List Int) (ws : List (List Int)) (x : List Int) (h1 : (JW w ws).length ≤ 100000) (h2 : x.length ≤ 100000) : spec_l18word.f (JW w ws) x = some (JW w (ws ++ [x])) := by
 rw [l18word _ _ (by omega), JW_snoc]
structure OpF (o : Op) : Prop where
 kind : rin o.Kind 1 13 = true
 key : 2 ≤ o.Kind → o.Kind ≤ 6 → IOK o.Key = true
 value : o.Kind = 3 → IOK o.Value = true
 to : o.Kind = 5 ∨ o.Kind = 6 → IOK o.To = true
 keep : o.Kind = 13 → o.Keep.length ≤ 600
theorem opF {o : Op} (h : OOK o = true) : OpF o := by
 unfold OOK opb at h
 simp only [Bool.and_eq_true] at h
 obtain ⟨⟨hk, _⟩, h⟩ := h
 refine ⟨hk, fun h2 h6 => ?_, fun h3 => ?_, fun h5 => ?_, fun hh => ?_⟩
 · rw [if_neg (by omega)] at h
   split at h
   · exact ck_iok h
   · split at h
     · exact ck_iok (Bool.and_eq_true _ _ ▸ h).1
     · split at h
       · exact ck_iok (by simp only [Bool.and_eq_true] at h; exact h.1.1)
       · split at h
         · exact ck_iok (by simp only [Bool.and_eq_true] at h; exact h.1)
         · omega
 · rw [h3] at h
   have h := (show (CK o.Key && VAL o.Value) = true from h)
   simp only [Bool.and_eq_true, VAL] at h
   exact h.2.1
 · rcases h5 with h5 | h5
   · rw [h5] at h
     have h := (show ((CK o.Key && CK o.To) && rin o.N 0 50) = true from h)
     simp only [Bool.and_eq_true] at h
     exact ck_iok h.1.2
   · rw [h5] at h
     have h := (show (CK o.Key && CK o.To) = true from h)
     simp only [Bool.and_eq_true] at h
     exact ck_iok h.2
 · rw [hh] at h
   have h := (show decide ((o.Keep.length : Int) ≤ 600) = true from h)
   simp only [decide_eq_true_eq] at h
   omega
theorem y1_len (o : Op) (h : ok_Op o) (hk : rin o.Kind 1 13 = true) : (JW (NM o.Kind) (W1 o)).length ≤ 40 := by
 have h1 := NM_len hk
 have h2 := IT_len o.Seat h.2.1
 have h3 := JW_len (NM o.Kind) 22 (W1 o) (fun x hx => by
  unfold W1 at hx
  split at hx
  · simp at hx; subst hx; omega
  · cases hx)
 have : (W1 o).length ≤ 1 := by unfold W1; split <;> simp
 omega
theorem OPT_len (o : Op) (h : ok_Op o) (hO : OOK o = true) : (OPT o).length ≤ 3000 := by
 have hF := opF hO
 have h0 := y1_len o h hF.kind
 unfold OPT
 have hJ : ∀ ws : List (List Int), (JW (NM o.Kind) (W1 o ++ ws)).length = (JW (NM o.Kind) (W1 o)).length + (ws.map fun x => (32 : Int) :: x).flatten.length := fun ws => by simp [JW]; omega
 rw [hJ]
 have i1 := IT_len o.Level h.2.2.1
 have i2 := IT_len o.N h.2.2.2.1
 have i3 := fun hh => TX_le (a := o.Key) h.2.2.2.2.1.2.1 hh
 have i4 := fun hh => TX_le (a := o.To) h.2.2.2.2.2.1.2.1 hh
 have i5 := fun hh => TX_le (a := o.Value) h.2.2.2.2.2.2.1.2.1 hh
 have i6 := KT_len o.Keep
 unfold W2
 split
 · simp; omega
 · split
   · have := i3 (hF.key (by omega) (by omega)); simp; omega
   · split
     · have := i3 (hF.key (by omega) (by omega)); have := i5 (hF.value (by assumption)); simp; omega
     · split
       · have := i3 (hF.key (by omega) (by omega)); have := i4 (hF.to (.inl (by assumption))); simp; omega
       · split
         · have := i3 (hF.key (by omega) (by omega)); have := i4 (hF.to (.inr (by assumption))); simp; omega
         · split
           · simp; omega
           · split
             · have := hF.keep (by assumption)
               split
               · simp; omega
               · simp; omega
             · simp; omega
end Go.Proofs.YtiofnjnnocjbhaaDoor
set_option linter.unusedVariables false
set_option linter.unusedSimpArgs false
set_option linter.unusedSectionVars false
namespace Go.Proofs.YtiofnjnnocjbhaaDoor
open Go V Ieee
theorem keep_loop (o : Op) (hl : o.Keep.length ≤ 600) (y : List Int) (hy : y.length ≤ 1000) : iter (spec_OpText.b0 o) (y, (0 : Int)) = some (y ++ KT o.Keep) := by
 have hkl := KT_len o.Keep
 have hst : (y, (0 : Int)) = (y ++ (KT o.Keep).take 0, ((0 : Nat) : Int)) := by simp
 rw [hst]
 refine iter_for o.Keep.length (fun k => (y ++ (KT o.Keep).take k, (k : Int))) _ (fun k hk => ?_) ?_
 · unfold spec_OpText.b0
   simp only []
   have hkk : (KT o.Keep)[k]'(by omega) = if o.Keep[k] = true then 49 else 48 := by simp [KT]
   have ht : (KT o.Keep).take (k + 1) = (KT o.Keep).take k ++ [if o.Keep[k] = true then 49 else 48] := by rw [List.take_succ_eq_append_getElem (by omega), hkk]
   have hlen : (y ++ (KT o.Keep).take k).length ≤ 2000 := by simp; omega
   rw [if_pos (by simp; omega), if_pos (by omega), at_nat _ k hk]
   by_cases hb : o.Keep[k] = true
   · rw [if_pos hb] at ht
     rw [if_pos hb, if_pos (by simp only [List.length_cons, List.length_nil, Lim]; omega), Option.bind_some, w64 (by omega) (by omega), ht, List.append_assoc]; rfl
   · rw [if_neg hb] at ht
     rw [if_neg hb, if_pos (by simp only [List.length_cons, List.length_nil, Lim]; omega), Option.bind_some, w64 (by omega) (by omega), ht, List.append_assoc]; rfl
 · unfold spec_OpText.b0
   simp only []
   rw [if_neg (by simp), List.take_of_length_le (by omega)]; rfl
theorem txo_ok {a : Item} (ha : ok_Item a) (h : IOK a = true) : spec_ItemText.f a = some (TX a) := by rw [spec_ItemText a ha, TXO, if_pos h]
theorem at_names {k : Int} (h : rin k 1 13 = true) : 0 ≤ k ∧ k < (names.length : Int) := by
 have := rin_iff.1 h
 rw [names_len]; omega
theorem spec_OpText (o : Op) (h : ok_Op o) (hO : OOK o = true) : spec_OpText.f o = some (OPT o) := by
 have hF := opF hO
 have hy := y1_len o h hF.kind
 have i1 := IT_len o.Level h.2.2.1
 have i2 := IT_len o.N h.2.2.2.1
 have i3 := fun hh => TX_le (a := o.Key) h.2.2.2.2.1.2.1 hh
 have i4 := fun hh => TX_le (a := o.To) h.2.2.2.2.2.1.2.1 hh
 have i5 := fun hh => TX_le (a := o.Value) h.2.2.2.2.2.2.1.2.1 hh
 unfold spec_OpText.f
 rw [spec_OpOk o h, Option.bind_some, if_neg (by simp [hO]), spec_names, Option.bind_some, if_pos (at_names hF.kind), if_pos (by have := NM_len hF.kind; unfold NM at this; rw [bts_len] at this; simp only [Lim]; omega)]
 have e1 : (if (decide (o.Kind ≤ (8 : Int))) = true then ((spec_l18digits.f o.Seat).bind fun r34 => ((spec_l18word.f (bts (at_ names o.Kind)) r34).bind fun r37 => (some r37))) else (some (bts (at_ names o.Kind)))) = some (JW (NM o.Kind) (W1 o)) := by
  unfold W1
  by_cases hk : o.Kind ≤ 8
  · have i0 := IT_len o.Seat h.2.1
    have := lw (NM o.Kind) [] (IT o.Seat) (by rw [JW_nil]; have := NM_len hF.kind; omega) (by omega)
    rw [JW_nil] at this
    rw [if_pos (by simpa using hk), if_pos hk, spec_l18digits _ h.2.1, Option.bind_some, show bts (at_ names o.Kind) = NM o.Kind from rfl, this]; rfl
  · rw [if_neg (by simpa using hk), if_neg hk, JW_nil]; rfl
 rw [e1, Option.bind_some]
 unfold OPT W2
 have hk0 := hF.kind
 have h1 := hF.key
 have h2 := hF.value
 have h3 := hF.to
 have h4 := hF.keep
 rcases kinds hk0 with hk | hk | hk | hk | hk | hk | hk | hk | hk | hk | hk | hk | hk <;> generalize hW : W1 o = ws at hy ⊢ <;> rw [hk] at h1 h2 h3 h4 hy ⊢
 · rw [if_pos (by decide), spec_l18digits _ h.2.2.1, Option.bind_some, lw _ _ _ (by omega) (by omega)]; rfl
 · have hi := h1 (by decide) (by decide)
   have := i3 hi
   simp only [Int.reduceBEq, Bool.false_eq_true, if_false, if_true, Option.bind_some, txo_ok h.2.2.2.2.1 hi, lw (NM 2) ws (TX o.Key) (by omega) (by omega)]
   rfl
 · have hi := h1 (by decide) (by decide)
   have hv := h2 rfl
   have := i3 hi
   have := i5 hv
   have ha := JW_add (NM 3) ws (TX o.Key)
   simp only [Int.reduceBEq, Bool.false_eq_true, if_false, if_true, Option.bind_some, txo_ok h.2.2.2.2.1 hi, txo_ok h.2.2.2.2.2.2.1 hv, lw (NM 3) ws (TX o.Key) (by omega) (by omega), lw (NM 3) (ws ++ [TX o.Key]) (TX o.Value) (by omega) (by omega)]
   simp
 · have hi := h1 (by decide) (by decide)
   have := i3 hi
   simp only [Int.reduceBEq, Bool.false_eq_true, if_false, if_true, Option.bind_some, txo_ok h.2.2.2.2.1 hi, lw (NM 4) ws (TX o.Key) (by omega) (by omega)]
   rfl
 · have hi := h1 (by decide) (by decide)
   have ht := h3 (.inl rfl)
   have := i3 hi
   have := i4 ht
   have ha := JW_add (NM 5) ws (TX o.Key)
   have hb := JW_add (NM 5) (ws ++ [TX o.Key]) (TX o.To)
   simp only [Int.reduceBEq, Bool.false_eq_true, if_false, if_true, Option.bind_some, txo_ok h.2.2.2.2.1 hi, txo_ok h.2.2.2.2.2.1 ht, spec_l18digits _ h.2.2.2.1, lw (NM 5) ws (TX o.Key) (by omega) (by omega), lw (NM 5) (ws ++ [TX o.Key]) (TX o.To) (by omega) (by omega), lw (NM 5) (ws ++ [TX o.Key] ++ [TX o.To]) (IT o.N) (by omega) (by omega)]
   simp
 · have hi := h1 (by decide) (by decide)
   have ht := h3 (.inr rfl)
   have := i3 hi
   have := i4 ht
   have ha := JW_add (NM 6) ws (TX o.Key)
   simp only [Int.reduceBEq, Bool.false_eq_true, if_false, if_true, Option.bind_some, txo_ok h.2.2.2.2.1 hi, txo_ok h.2.2.2.2.2.1 ht, lw (NM 6) ws (TX o.Key) (by omega) (by omega), lw (NM 6) (ws ++ [TX o.Key]) (TX o.To) (by omega) (by omega)]
   simp
 · simp only [Int.reduceBEq, Bool.false_eq_true, if_false, if_true, Option.bind_some]; simp
 · simp only [Int.reduceBEq, Bool.false_eq_true, if_false, if_true, Option.bind_some]; simp
 · simp only [Int.reduceBEq, Bool.false_eq_true, if_false, if_true, Option.bind_some]; simp
 · simp only [Int.reduceBEq, Bool.false_eq_true, if_false, if_true, Option.bind_some]; simp
 · simp only [Int.reduceBEq, Bool.false_eq_true, if_false, if_true, Option.bind_some, spec_l18digits _ h.2.2.2.1, lw (NM 11) ws (IT o.N) (by omega) (by omega)]; rfl
 · simp only [Int.reduceBEq, Bool.false_eq_true, if_false, if_true, Option.bind_some, spec_l18digits _ h.2.2.2.1, lw (NM 12) ws (IT o.N) (by omega) (by omega)]; rfl
 · have hl := h4 rfl
   simp only [Int.reduceBEq, Bool.false_eq_true, if_false, if_true, Option.bind_some]
   by_cases hn : o.Keep = []
   · rw [if_neg (by simp [hn]), Option.bind_some, keep_loop o hl _ (by omega), hn]; simp [KT, hn]
   · rw [if_pos (by simp; exact List.length_pos_iff.2 hn), if_pos (by simp only [List.length_cons, List.length_nil, Lim]; omega), Option.bind_some, keep_loop o hl _ (by simp; omega)]
     simp [hn, JW]
theorem join_ok (x : ByteArray) (xs : List ByteArray) (w : List Int) (ws : List (List Int)) (hx : bts x = w) (hs : xs.map bts = ws) (h1 : xs.length ≤ 1000) (h2 : (JW w ws).length ≤ 100000) : ∃ t, strings_Join.f (x :: xs) (⟨#[32]⟩ : ByteArray) = some t ∧ bts t = JW w ws := by
 subst hx
 subst hs
 have hj := bts_join x xs
 unfold strings_Join.f
 rw [if_pos ⟨by simp only [List.length_cons, Lim]; omega, by
  have := congrArg List.length hj
  rw [bts_len] at this
  have e : (ByteArray.mk (Lib.join ((x :: xs).map (·.data.toList)) (⟨#[32]⟩ : ByteArray).data.toList).toArray).size = (Lib.join ((x :: xs).map (·.data.toList)) (⟨#[32]⟩ : ByteArray).data.toList).length := rfl
  rw [e] at this
  rw [this]
  simp only [Lim]
  omega⟩]
 exact ⟨_, rfl, hj⟩
noncomputable def itx (a : Item) : ByteArray := (impl_itemText.f a).getD ⟨#[]⟩
theorem itx_ok {a : Item} (ha : ok_Item a) (h : IOK a = true) : impl_itemText.f a = some (itx a) ∧ bts (itx a) = TX a := by
 have hT := iok_T h
 obtain ⟨t, ht, hb⟩ := bts_itemText a ha (by omega)
 have : itx a = t := by unfold itx; rw [ht]; rfl
 rw [this]; exact ⟨ht, hb⟩
def itb (n : Int) : ByteArray := ⟨(Lib.itoa n).toArray⟩
theorem itb_ok {n : Int} (h : InK .i64 n) : strconv_Itoa.f n = some (itb n) := itoa_ok n h
theorem bts_itb (n : Int) : bts (itb n) = IT n := rfl
theorem l2 (x : ByteArray) (xs ys : List ByteArray) (h1 : xs.length ≤ 1000) (h2 : ys.length ≤ 1000) : (if (x :: xs).length + ys.length ≤ Lim then some ((x :: xs) ++ ys) else none) = some (x :: (xs ++ ys)) := by
 rw [if_pos (by simp only [List.length_cons, Lim]; omega)]; rfl
theorem impl_opText (o : Op) (h : ok_Op o) (hO : OOK o = true) : ∃ t, impl_opText.f o = some t ∧ bts t = OPT o := by
 have hF := opF hO
 have hlen := OPT_len o h hO
 unfold impl_opText.f
 rw [impl_names, Option.bind_some, if_pos (at_names hF.kind)]
 obtain ⟨B1, e1, hB1, hB1l⟩ : ∃ B1, (if (decide (o.Kind ≤ (8 : Int))) = true then ((strconv_Itoa.f o.Seat).bind fun r26 => (if ([(at_ names o.Kind)]).length + ([r26]).length ≤ Lim then (some ([(at_ names o.Kind)] ++ [r26])) else none)) else (some ([(at_ names o.Kind)]))) = some (at_ names o.Kind :: B1) ∧ B1.map bts = W1 o ∧ B1.length ≤ 1 := by
  unfold W1
  by_cases hk : o.Kind ≤ 8
  · rw [if_pos (by simpa using hk), if_pos hk, itb_ok h.2.1, Option.bind_some, if_pos (by simp [Lim])]
    exact ⟨[itb o.Seat], rfl, rfl, Nat.le_refl _⟩
  · rw [if_neg (by simpa using hk), if_neg hk]
    exact ⟨[], rfl, rfl, Nat.zero_le _⟩
 rw [e1, Option.bind_some]
 suffices hs : ∃ B2 : List ByteArray, B2.map bts = W2 o ∧ B2.length ≤ 10 ∧ ∀ t, strings_Join.f (at_ names o.Kind :: (B1 ++ B2)) (⟨#[32]⟩ : ByteArray) = some t → _ = some t by
  obtain ⟨B2, hB2, hB2l, hs⟩ := hs
  obtain ⟨t, ht, hbt⟩ := join_ok (at_ names o.Kind) (B1 ++ B2) (NM o.Kind) (W1 o ++ W2 o) rfl (by rw [List.map_append, hB1, hB2]) (by simp; omega) (by have : (JW (NM o.Kind) (W1 o ++ W2 o)) = OPT o := rfl; rw [this]; omega)
  exact ⟨t, hs t ht, hbt⟩
 unfold W2
 have hk0 := hF.kind
 have h1 := hF.key
 have h2 := hF.value
 have h3 := hF.to
 have h4 := hF.keep
 generalize at_ names o.Kind = nm
 have nil2 : B1 ++ ([] : List ByteArray) = B1 := List.append_nil B1
 rcases kinds hk0 with hk | hk | hk | hk | hk | hk | hk | hk | hk | hk | hk | hk | hk <;> rw [hk] at h1 h2 h3 h4 ⊢
 · refine ⟨[itb o.Level], rfl, by simp, fun t ht => ?_⟩
   simp only [Int.reduceBEq, Bool.false_eq_true, if_false, if_true, Option.bind_some, itb_ok h.2.2.1, l2 nm B1 [itb o.Level] (by omega) (by simp), ht]
 · have hi := itx_ok h.2.2.2.2.1 (h1 (by decide) (by decide))
   refine ⟨[itx o.Key], by simp [hi.2], by simp, fun t ht => ?_⟩
   simp only [Int.reduceBEq, Bool.false_eq_true, if_false, if_true, Option.bind_some, hi.1, l2 nm B1 [itx o.Key] (by omega) (by simp), ht]
 · have hi := itx_ok h.2.2.2.2.1 (h1 (by decide) (by decide))
   have hv := itx_ok h.2.2.2.2.2.2.1 (h2 rfl)
   refine ⟨[itx o.Key, itx o.Value], by simp [hi.2, hv.2], by simp, fun t ht => ?_⟩
   simp only [Int.reduceBEq, Bool.false_eq_true, if_false, if_true, Option.bind_some, hi.1, hv.1, l2 nm B1 [itx o.Key, itx o.Value] (by omega) (by simp), ht]
 · have hi := itx_ok h.2.2.2.2.1 (h1 (by decide) (by decide))
   refine ⟨[itx o.Key], by simp [hi.2], by simp, fun t ht => ?_⟩
   simp only [Int.reduceBEq, Bool.false_eq_true, if_false, if_true, Option.bind_some, hi.1, l2 nm B1 [itx o.Key] (by omega) (by simp), ht]
 · have hi := itx_ok h.2.2.2.2.1 (h1 (by decide) (by decide))
   have hv := itx_ok h.2.2.2.2.2.1 (h3 (.inl rfl))
   refine ⟨[itx o.Key, itx o.To, itb o.N], by simp [hi.2, hv.2, bts_itb], by simp, fun t ht => ?_⟩
   simp only [Int.reduceBEq, Bool.false_eq_true, if_false, if_true, Option.bind_some, hi.1, hv.1, itb_ok h.2.2.2.1, l2 nm B1 [itx o.Key, itx o.To, itb o.N] (by omega) (by simp), ht]
 · have hi := itx_ok h.2.2.2.2.1 (h1 (by decide) (by decide))
   have hv := itx_ok h.2.2.2.2.2.1 (h3 (.inr rfl))
   refine ⟨[itx o.Key, itx o.To], by simp [hi.2, hv.2], by simp, fun t ht => ?_⟩
   simp only [Int.reduceBEq, Bool.false_eq_true, if_false, if_true, Option.bind_some, hi.1, hv.1, l2 nm B1 [itx o.Key, itx o.To] (by omega) (by simp), ht]
 · refine ⟨[], by simp, by simp, fun t ht => ?_⟩
   rw [nil2] at ht
   simp only [Int.reduceBEq, Bool.false_eq_true, if_false, if_true, Option.bind_some, ht]
 · refine ⟨[], by simp, by simp, fun t ht => ?_⟩
   rw [nil2] at ht
   simp only [Int.reduceBEq, Bool.false_eq_true, if_false, if_true, Option.bind_some, ht]
 · refine ⟨[], by simp, by simp, fun t ht => ?_⟩
   rw [nil2] at ht
   simp only [Int.reduceBEq, Bool.false_eq_true, if_false, if_true, Option.bind_some, ht]
 · refine ⟨[], by simp, by simp, fun t ht => ?_⟩
   rw [nil2] at ht
   simp only [Int.reduceBEq, Bool.false_eq_true, if_false, if_true, Option.bind_some, ht]
 · refine ⟨[itb o.N], by simp [bts_itb], by simp, fun t ht => ?_⟩
   simp only [Int.reduceBEq, Bool.false_eq_true, if_false, if_true, Option.bind_some, itb_ok h.2.2.2.1, l2 nm B1 [itb o.N] (by omega) (by simp), ht]
 · refine ⟨[itb o.N], by simp [bts_itb], by simp, fun t ht => ?_⟩
   simp only [Int.reduceBEq, Bool.false_eq_true, if_false, if_true, Option.bind_some, itb_ok h.2.2.2.1, l2 nm B1 [itb o.N] (by omega) (by simp), ht]
 · have hl := h4 rfl
   by_cases hn : o.Keep = []
   · refine ⟨[], by simp [hn], by simp, fun t ht => ?_⟩
     rw [nil2] at ht
     have e : ¬ (decide ((o.Keep.length : Int) > (0 : Int))) = true := by simp [hn]
     simp only [Int.reduceBEq, Bool.false_eq_true, if_false, if_true, Option.bind_some, if_neg e, ht]
   · refine ⟨[str (KT o.Keep)], by simp [hn, bts_str (KT_u8 o.Keep)], by simp, fun t ht => ?_⟩
     have e : (decide ((o.Keep.length : Int) > (0 : Int))) = true := by simp; exact List.length_pos_iff.2 hn
     simp only [Int.reduceBEq, Bool.false_eq_true, if_false, if_true, Option.bind_some, if_pos e, keepText o.Keep (by omega), l2 nm B1 [str (KT o.Keep)] (by omega) (by simp), ht]
noncomputable def OPO (o : Op) : List Int := if OOK o = true then OPT o else []
theorem spec_OpText' (o : Op) (h : ok_Op o) : spec_OpText.f o = some (OPO o) := by
 unfold OPO
 by_cases hO : OOK o = true
 · rw [if_pos hO, spec_OpText o h hO]
 · rw [if_neg hO]
   unfold spec_OpText.f
   rw [spec_OpOk o h, Option.bind_some, if_pos (by simpa using hO)]
theorem impl_OpText (o : Op) (h : ok_Op o) : impl_OpText.f o = some (OPO o) := by
 unfold impl_OpText.f OPO
 rw [impl_OpOk o h, Option.bind_some]
 by_cases hO : OOK o = true
 · obtain ⟨t, ht, hb⟩ := impl_opText o h hO
   have hlen := OPT_len o h hO
   rw [if_neg (by simp [hO]), if_pos hO, ht, Option.bind_some, if_pos (by rw [← bts_len, hb]; simp only [Lim]; omega), hb]
 · rw [if_pos (by simpa using hO), if_neg hO]
theorem OPO_len (o : Op) (h : ok_Op o) : (OPO o).length ≤ 3000 := by
 unfold OPO
 split
 · rename_i hO; exact OPT_len o h hO
 · simp
end Go.Proofs.YtiofnjnnocjbhaaDoor
set_option linter.unusedVariables false
set_option linter.unusedSimpArgs false
set_option linter.unusedSectionVars false
namespace Go.Proofs.YtiofnjnnocjbhaaDoor
open Go V Ieee
theorem markByteS (a : List Int) (x : Int) (h0 : 0 ≤ x) (h1 : x + (a.length : Int) ≤ 100000000000) : ∃ a', laws_markByteS.f a x = some (x + (a.length : Int), a') ∧ a'.length = a.length ∧ laws_heldByteS.f a' x = some (x + (a.length : Int)) := by
 have := markS_gen (mb := laws_markByteS.b0) (hb := laws_heldByteS.b0) (wt := fun _ => 1) (fun e y n => e = IntKind.wrap .u8 y ∧ n = 1) a x h0 (by rw [wsum_one]; exact h1)
  (fun l y k hk hla hy hy1 => by
   refine ⟨IntKind.wrap .u8 y, ?_, rfl, rfl⟩
   unfold laws_markByteS.b0
   simp only []
   rw [if_pos (by simp; omega), if_pos ⟨by omega, by omega⟩, w64 (by omega) (by omega), w64 (by omega) (by omega)]; rfl)
  (fun l y hla => by
   unfold laws_markByteS.b0
   simp only []
   rw [if_neg (by simp)]; rfl)
  (fun l y k n hk hla he hy hy1 => by
   obtain ⟨e1, rfl⟩ := he
   unfold laws_heldByteS.b0
   simp only []
   rw [if_pos (by simp; omega), if_pos ⟨by omega, by omega⟩, at_nat _ k hk, e1, if_neg (by simp), w64 (by omega) (by omega), w64 (by omega) (by omega)]; rfl)
  (fun l y hla => by
   unfold laws_heldByteS.b0
   simp only []
   rw [if_neg (by simp)]; rfl)
 rw [wsum_one] at this
 exact this
end Go.Proofs.YtiofnjnnocjbhaaDoor
set_option linter.unusedVariables false
set_option linter.unusedSimpArgs false
set_option linter.unusedSectionVars false
namespace Go.Proofs.YtiofnjnnocjbhaaDoor
open Go V Ieee
def zOp (o : Op) : Nat := o.Key.T.length + o.To.T.length + o.Value.T.length + o.Keep.length
theorem szOp (o : Op) (n : Int) (ho : ok_Op o) (h0 : 0 ≤ n) (h1 : n ≤ 1048576) : Sz (laws_szOp.f o n) n (zOp o) := by
 unfold laws_szOp.f zOp
 obtain ⟨r, er, hr, hr2⟩ := szItem o.Key n ho.2.2.2.2.1 h0 h1
 rw [er, Option.bind_some]
 by_cases hn : r < 0
 · rw [if_pos (by simpa using hn)]; exact ⟨-1, rfl, by omega, fun h => by omega⟩
 · rw [if_neg (by simpa using hn)]
   obtain ⟨q, eq, hq, hq2⟩ := szItem o.To r ho.2.2.2.2.2.1 (by omega) (by omega)
   rw [eq, Option.bind_some]
   by_cases hm : q < 0
   · rw [if_pos (by simpa using hm)]; exact ⟨-1, rfl, by omega, fun h => by omega⟩
   · rw [if_neg (by simpa using hm)]
     obtain ⟨p, ep, hp, hp2⟩ := szItem o.Value q ho.2.2.2.2.2.2.1 (by omega) (by omega)
     rw [ep, Option.bind_some]
     by_cases hk : p < 0
     · rw [if_pos (by simpa using hk)]; exact ⟨-1, rfl, by omega, fun h => by omega⟩
     · rw [if_neg (by simpa using hk)]
       have hkl := ho.2.2.2.2.2.2.2.1
       simp only [maxLen] at hkl
       unfold laws_szBoolS.f
       rw [w64 (by omega) (by omega)]
       have := hr2 (by omega)
       have := hq2 (by omega)
       have := hp2 (by omega)
       by_cases hb : p - (o.Keep.length : Int) < 0
       · rw [if_pos (by simpa using hb), Option.bind_some, if_pos (by decide)]; exact ⟨-1, rfl, by omega, fun h => by omega⟩
       · rw [if_neg (by simpa using hb), Option.bind_some, if_neg (by simpa using hb)]
         exact ⟨_, rfl, by omega, fun h => by omega⟩
theorem toBoolS (a : List Bool) (h : a.length ≤ 1048576) : laws_toBoolS.f a = some a := by
 unfold laws_toBoolS.f
 rw [if_pos ⟨by omega, by simp only [Lim]; omega⟩]
 refine toS_gen a _ (fun l k hk hl => ?_) (fun l => ?_)
 · unfold laws_toBoolS.b0
   simp only []
   rw [if_pos (by simp; omega), if_pos ⟨by omega, by omega⟩, if_pos ⟨by omega, by omega⟩, at_nat _ k hk, w64 (by omega) (by omega)]; rfl
 · unfold laws_toBoolS.b0
   simp only []
   rw [if_neg (by simp)]; rfl
theorem eqBoolS (a : List Bool) (h : a.length ≤ 1048576) : laws_eqBoolS.f a a = some true := by
 unfold laws_eqBoolS.f
 have := eqS_gen (body := laws_eqBoolS.b0 a a) a a (fun k hk _ => by
  unfold laws_eqBoolS.b0
  rw [if_pos (by simp; omega), if_pos ⟨by omega, by omega⟩, if_pos ⟨by omega, by omega⟩, at_nat _ k hk, w64 (by omega) (by omega)]
  simp) (by
  unfold laws_eqBoolS.b0
  rw [if_neg (by simp)]; rfl)
 rw [this]; simp
theorem toOp (o : Op) (h : zOp o ≤ 1048576) : laws_toOp.f o = some o := by
 unfold zOp at h
 unfold laws_toOp.f
 rw [toItem _ (by omega), Option.bind_some, toItem _ (by omega), Option.bind_some, toItem _ (by omega), Option.bind_some, toBoolS _ (by omega)]; rfl
theorem eqOp (o : Op) (h : zOp o ≤ 1048576) : laws_eqOp.f o o = some true := by
 unfold zOp at h
 unfold laws_eqOp.f
 rw [if_neg (by simp), if_neg (by simp), if_neg (by simp), if_neg (by simp), eqItem _ (by omega), Option.bind_some, if_neg (by decide), eqItem _ (by omega), Option.bind_some, if_neg (by decide), eqItem _ (by omega), Option.bind_some, if_neg (by decide), eqBoolS _ (by omega)]; rfl
theorem markI (a : Item) (x : Int) (h0 : 0 ≤ x) (h1 : x + (a.T.length : Int) ≤ 100000000000) : ∃ b, laws_markItem.f a x = some (x + (a.T.length : Int), b) := by
 obtain ⟨e, em, _, _⟩ := markByteS a.T x h0 h1
 unfold laws_markItem.f
 rw [em]; exact ⟨e, rfl⟩
theorem markBoolS (x : Int) (h0 : 0 ≤ x) : ∀ (m k : Nat) (y : Int) (l : List Bool), k + m = l.length → 0 ≤ y → y + (m : Int) ≤ 100000000000 → l.length ≤ 1048576 → ∃ b, iter laws_markBoolS.b0 (l, y, (k : Int)) = some (y + (m : Int), b)
 | 0, k, y, l, hk, hy, hy1, hl => by
  refine ⟨l, iter_r ?_⟩
  unfold laws_markBoolS.b0
  simp only []
  rw [if_neg (by simp; omega)]
  simp
 | m + 1, k, y, l, hk, hy, hy1, hl => by
  have hs : laws_markBoolS.b0 (l, y, (k : Int)) = some (.inl (l.set k ((y.tmod (3 : Int)) == (0 : Int)), y + 1, ((k + 1 : Nat) : Int))) := by
   unfold laws_markBoolS.b0
   simp only []
   rw [if_pos (by simp; omega), if_pos (by omega), w64 (by omega) (by omega), w64 (by omega) (by omega)]; rfl
  obtain ⟨b, hb⟩ := markBoolS x h0 m (k + 1) (y + 1) (l.set k ((y.tmod (3 : Int)) == (0 : Int))) (by rw [List.length_set]; omega) (by omega) (by omega) (by rw [List.length_set]; exact hl)
  refine ⟨b, ?_⟩
  rw [iter_l hs, hb, show y + 1 + (m : Int) = y + ((m + 1 : Nat) : Int) by omega]
theorem markOp (o : Op) (h : zOp o ≤ 1048576) : ∃ n b, laws_markOp.f o 1 = some (n, b) ∧ 0 ≤ n := by
 unfold zOp at h
 unfold laws_markOp.f
 obtain ⟨b1, e1⟩ := markI o.Key 1 (by omega) (by omega)
 obtain ⟨b2, e2⟩ := markI o.To (1 + (o.Key.T.length : Int)) (by omega) (by omega)
 obtain ⟨b3, e3⟩ := markI o.Value (1 + (o.Key.T.length : Int) + (o.To.T.length : Int)) (by omega) (by omega)
 obtain ⟨b4, e4⟩ := markBoolS 0 (by omega) o.Keep.length 0 (1 + (o.Key.T.length : Int) + (o.To.T.length : Int) + (o.Value.T.length : Int)) o.Keep (by omega) (by omega) (by omega) (by omega)
 have e4' : laws_markBoolS.f o.Keep (1 + (o.Key.T.length : Int) + (o.To.T.length : Int) + (o.Value.T.length : Int)) = some (1 + (o.Key.T.length : Int) + (o.To.T.length : Int) + (o.Value.T.length : Int) + (o.Keep.length : Int), b4) := e4
 simp only [e1, e2, e3, e4', Option.bind_some]
 exact ⟨_, _, rfl, by omega⟩
end Go.Proofs.YtiofnjnnocjbhaaDoor
