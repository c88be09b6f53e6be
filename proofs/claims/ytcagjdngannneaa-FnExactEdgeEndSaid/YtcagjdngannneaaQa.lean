
import Derived.Test.YtcagjdngannneaaVt
set_option linter.unusedVariables false
set_option linter.unusedSimpArgs false
namespace Go.Proofs.Ytcagjdngannneaa
open Go V
theorem w64 {n : Int} (h0 : -9223372036854775808 ≤ n) (h1 : n ≤ 9223372036854775807) : IntKind.i64.wrap n = n := by
  rw [IntKind.wrap_i64]; omega
theorem u8_of {n : Int} (h : InK .u8 n) : 0 ≤ n ∧ n ≤ 255 := by
  simpa [InK, IntKind.min, IntKind.max, IntKind.signed, IntKind.bits] using h
theorem fdiv_nat (a b : Nat) : Int.fdiv (a : Int) (b : Int) = ((a / b : Nat) : Int) := by
  rw [Int.fdiv_eq_ediv_of_nonneg _ (by omega)]; rfl
theorem ishr_nat (k : IntKind) (a b : Nat) (h : b ≤ k.bits) : ishr k (a : Int) (b : Int) = ((a / 2 ^ b : Nat) : Int) := by
  unfold ishr
  rw [Int.toNat_natCast, Nat.min_eq_left h]
  have : (2 : Int) ^ b = ((2 ^ b : Nat) : Int) := by simp
  rw [this, fdiv_nat]
theorem ofInt_nat (w a : Nat) (h : a < 2 ^ w) : (BitVec.ofInt w (a : Int)).toNat = a := by
  rw [BitVec.ofInt_natCast, BitVec.toNat_ofNat, Nat.mod_eq_of_lt h]
theorem wu64 (a : Nat) (h : a < 18446744073709551616) : IntKind.wrap .u64 ((a : Nat) : Int) = (a : Int) := by rw [IntKind.wrap_u64]; omega
theorem ior_u64 (a b : Nat) (ha : a < 18446744073709551616) (hb : b < 18446744073709551616) : ior .u64 (a : Int) (b : Int) = ((a ||| b : Nat) : Int) := by
  unfold ior
  rw [BitVec.toNat_or, ofInt_nat _ a ha, ofInt_nat _ b hb]
  exact wu64 _ (Nat.or_lt_two_pow (n := 64) ha hb)
theorem ixor_u64 (a b : Nat) (ha : a < 18446744073709551616) (hb : b < 18446744073709551616) : ixor .u64 (a : Int) (b : Int) = ((a ^^^ b : Nat) : Int) := by
  unfold ixor
  rw [BitVec.toNat_xor, ofInt_nat _ a ha, ofInt_nat _ b hb]
  exact wu64 _ (Nat.xor_lt_two_pow (n := 64) ha hb)
theorem or_add (k n b : Nat) (h : b < 2 ^ k) : (n * 2 ^ k) ||| b = n * 2 ^ k + b := by
  have := Nat.two_pow_add_eq_or_of_lt (i := k) (b := b) h n
  rw [Nat.mul_comm n]
  exact this.symm
def rin (a b c : Int) : Bool := decide (b ≤ a) && decide (a ≤ c)
theorem iter_for {S O : Type} {body : S → Option (S ⊕ O)} (n : Nat) (st : Nat → S) (o : O) (h : ∀ k, k < n → body (st k) = some (.inl (st (k + 1)))) (hn : body (st n) = some (.inr o)) : iter body (st 0) = some o := by
  have key : ∀ m, m ≤ n → iter body (st (n - m)) = some o := by
    intro m
    induction m with
    | zero => intro _; rw [iter_eq, Nat.sub_zero, hn]; rfl
    | succ m ih =>
      intro hm
      rw [iter_eq, h (n - (m + 1)) (by omega)]
      simp only [Option.bind_some]
      rw [show n - (m + 1) + 1 = n - m by omega]
      exact ih (by omega)
  have := key n (Nat.le_refl _)
  rwa [Nat.sub_self] at this
theorem iter_l {S O : Type} {body : S → Option (S ⊕ O)} {s s' : S} (h : body s = some (.inl s')) : iter body s = iter body s' := by rw [iter_eq, h]; rfl
theorem iter_r {S O : Type} {body : S → Option (S ⊕ O)} {s : S} {o : O} (h : body s = some (.inr o)) : iter body s = some o := by rw [iter_eq, h]; rfl
theorem iter_all {body : Int → Option (Int ⊕ Bool)} (n : Nat) (t : Nat → Bool) (h : ∀ k, k < n → body k = if t k = true then some (.inl ((k : Int) + 1)) else some (.inr false)) (hn : body n = some (.inr true)) : iter body 0 = some ((List.range n).all t) := by
  have key : ∀ m, m ≤ n → iter body ((n - m : Nat) : Int) = some ((List.range' (n - m) m).all t) := by
    intro m
    induction m with
    | zero => intro _; rw [iter_eq, Nat.sub_zero, hn]; rfl
    | succ m ih =>
      intro hm
      rw [iter_eq, h (n - (m + 1)) (by omega), List.range'_succ, List.all_cons]
      cases ht : t (n - (m + 1)) with
      | false => simp
      | true =>
        simp only [if_true, Option.bind_some, Bool.true_and]
        have e := ih (by omega)
        rw [show n - (m + 1) + 1 = n - m by omega, ← e]
        congr 1
        omega
  have := key n (Nat.le_refl _)
  rw [Nat.sub_self] at this
  rw [List.range_eq_range']
  exact this
theorem at_nat {α : Type} [Inhabited α] (xs : List α) (k : Nat) (h : k < xs.length) : at_ xs (k : Int) = xs[k] := by
  rw [at_eq xs k (by simpa using h)]; simp
theorem at_set {α : Type} [Inhabited α] (l : List α) (i : Nat) (v : α) (h : i < l.length) : at_ (l.set i v) (i : Int) = v := by
  rw [at_nat _ _ (by rw [List.length_set]; exact h)]; simp
theorem all_eq {α : Type} [DecidableEq α] (a b : List α) (h : a.length = b.length) : ((List.range a.length).all fun k => decide (a[k]? = b[k]?)) = decide (a = b) := by
  by_cases e : a = b
  · subst e; simp
  · have : ¬ ∀ k, k < a.length → a[k]? = b[k]? := fun hk => e (List.ext_getElem? fun k => by
      by_cases hl : k < a.length
      · exact hk k hl
      · rw [List.getElem?_eq_none (by omega), List.getElem?_eq_none (by omega)])
    simp only [e, decide_false]
    cases hb : (List.range a.length).all fun k => decide (a[k]? = b[k]?) with
    | false => rfl
    | true =>
      exact absurd (fun k hk => by
        have := List.all_eq_true.1 hb k (List.mem_range.2 hk)
        simpa using this) this

theorem eqS_gen {α : Type} [DecidableEq α] [Inhabited α] {body : Int → Option (Int ⊕ Bool)} (a b : List α) (hb : ∀ k : Nat, (h1 : k < a.length) → (h2 : k < b.length) → body (k : Int) = if decide (a[k] = b[k]) = true then some (.inl ((k : Int) + 1)) else some (.inr false))
    (hn : body (a.length : Int) = some (.inr true)) : (if ((a.length : Int) != (b.length : Int)) = true then some false else iter body 0) = some (decide (a = b)) := by
  by_cases hl : a.length = b.length
  · have hne : ((a.length : Int) != (b.length : Int)) = false := by simp [hl]
    rw [hne, if_neg (by decide), ← all_eq a b hl]
    refine iter_all a.length _ (fun k hk => ?_) hn
    rw [hb k hk (by omega), List.getElem?_eq_getElem hk, List.getElem?_eq_getElem (by omega)]
    simp
  · have hne : ((a.length : Int) != (b.length : Int)) = true := by simp; omega
    rw [hne, if_pos rfl]
    have : a ≠ b := fun e => hl (by rw [e])
    simp [this]
theorem toS_gen {α : Type} {body : List α × Int → Option ((List α × Int) ⊕ List α)} (a : List α) (z : α) (hb : ∀ (l : List α) (k : Nat) (h1 : k < a.length), l.length = a.length → body (l, (k : Int)) = some (.inl (l.set k a[k], (k : Int) + 1)))
    (hn : ∀ l : List α, body (l, (a.length : Int)) = some (.inr l)) : iter body (List.replicate ((a.length : Int)).toNat z, (0 : Int)) = some a := by
  have hst : (List.replicate ((a.length : Int)).toNat z, (0 : Int)) = (a.take 0 ++ List.replicate (a.length - 0) z, ((0 : Nat) : Int)) := by simp
  rw [hst]
  have e : (some a : Option (List α)) = some (a.take a.length ++ List.replicate (a.length - a.length) z) := by simp
  rw [e]
  refine iter_for a.length (fun k => (a.take k ++ List.replicate (a.length - k) z, (k : Int))) _ (fun k hk => ?_) (hn _)
  rw [hb _ k hk (by rw [List.length_append, List.length_take, List.length_replicate]; omega)]
  have hset : (a.take k ++ List.replicate (a.length - k) z).set k a[k] = a.take (k + 1) ++ List.replicate (a.length - (k + 1)) z := by
    rw [List.set_append, if_neg (by simp; omega)]
    have : (a.take k).length = k := by simp; omega
    rw [this, Nat.sub_self, show a.length - k = (a.length - (k + 1)) + 1 by omega, List.replicate_succ, List.set_cons_zero, List.take_succ_eq_append_getElem hk, List.append_assoc]
    rfl
  rw [hset]
  simp
def wsum {α : Type} (wt : α → Nat) (l : List α) : Nat := (l.map wt).sum
theorem wsum_cons {α : Type} (wt : α → Nat) (x : α) (l : List α) : wsum wt (x :: l) = wt x + wsum wt l := rfl
theorem wsum_mem {α : Type} (wt : α → Nat) (l : List α) : ∀ x ∈ l, wt x ≤ wsum wt l := by
  intro x hx
  induction l with
  | nil => cases hx
  | cons y l ih =>
    rw [wsum_cons]
    rcases List.mem_cons.1 hx with rfl | hx
    · omega
    · have := ih hx; omega
theorem wsum_le {α : Type} (w z : α → Nat) (c : Nat) (l : List α) (h : ∀ x ∈ l, w x ≤ c * (z x + 1)) : wsum w l ≤ c * (l.length + wsum z l) := by
  induction l with
  | nil => simp [wsum]
  | cons y l ih =>
    rw [wsum_cons, wsum_cons, List.length_cons]
    have h1 := h y (by simp)
    have h2 := ih fun x hx => h x (by simp [hx])
    have e : c * (l.length + 1 + (z y + wsum z l)) = c * (z y + 1) + c * (l.length + wsum z l) := by rw [← Nat.mul_add]; congr 1; omega
    omega
def Sz (f : Option Int) (n : Int) (z : Nat) : Prop := ∃ r, f = some r ∧ r ≤ n ∧ (0 ≤ r → r = n - (z : Int))
theorem szS_gen {α : Type} {body : Int × Int → Option ((Int × Int) ⊕ Int)} {z : α → Nat} (a : List α) (n : Int) (hl : a.length ≤ maxLen) (h0 : 0 ≤ n) (h1 : n ≤ 1048576)
    (hb : ∀ (k : Nat) (x : Int) (hk : k < a.length), 0 ≤ x → x ≤ 1048576 → ∃ r, r ≤ x ∧ (0 ≤ r → r = x - (z a[k] : Int)) ∧ body (x, (k : Int)) = if r < 0 then some (.inr (-1)) else some (.inl (r, (k : Int) + 1)))
    (hn : ∀ x, body (x, (a.length : Int)) = some (.inr x)) :
    Sz (if (decide ((IntKind.wrap .i64 (n - (a.length : Int))) < (0 : Int))) = true then (some (-1 : Int)) else iter body ((IntKind.wrap .i64 (n - (a.length : Int))), (0 : Int))) n (a.length + wsum z a) := by
  simp only [maxLen] at hl
  rw [w64 (by omega) (by omega)]
  by_cases hneg : n - (a.length : Int) < 0
  · rw [if_pos (by simpa using hneg)]
    exact ⟨-1, rfl, by omega, fun h => by omega⟩
  · rw [if_neg (by simpa using hneg)]
    have key : ∀ (m i : Nat) (x : Int), i + m = a.length → 0 ≤ x → x ≤ 1048576 → ∃ r, iter body (x, (i : Int)) = some r ∧ r ≤ x ∧ (0 ≤ r → r = x - (wsum z (a.drop i) : Int)) := by
      intro m
      induction m with
      | zero =>
        intro i x hi hx0 hx1
        have : i = a.length := by omega
        subst this
        refine ⟨x, iter_r (hn x), by omega, fun _ => ?_⟩
        rw [List.drop_length]; simp [wsum]
      | succ m ih =>
        intro i x hi hx0 hx1
        have hk : i < a.length := by omega
        obtain ⟨r, hr, hr2, hbb⟩ := hb i x hk hx0 hx1
        by_cases hrn : r < 0
        · rw [if_pos hrn] at hbb
          exact ⟨-1, iter_r hbb, by omega, fun h => by omega⟩
        · rw [if_neg hrn] at hbb
          rw [iter_l hbb]
          have e : (i : Int) + 1 = ((i + 1 : Nat) : Int) := by omega
          rw [e]
          obtain ⟨q, eq, hq, hq2⟩ := ih (i + 1) r (by omega) (by omega) (by omega)
          refine ⟨q, eq, by omega, fun h => ?_⟩
          have := hq2 h
          have := hr2 (by omega)
          rw [List.drop_eq_getElem_cons hk, wsum_cons]
          omega
    obtain ⟨r, er, hr, hr2⟩ := key a.length 0 (n - (a.length : Int)) (by omega) (by omega) (by omega)
    refine ⟨r, er, by omega, fun h => ?_⟩
    have := hr2 h
    rw [List.drop_zero] at this
    omega
theorem markS_gen {α : Type} {mb : List α × Int × Int → Option ((List α × Int × Int) ⊕ (Int × List α))} {hb : List α → Int × Int → Option ((Int × Int) ⊕ Int)} {wt : α → Nat} (HE : α → Int → Nat → Prop) (a : List α) (x : Int) (h0 : 0 ≤ x) (h1 : x + (wsum wt a : Int) ≤ 100000000000)
    (hm : ∀ (l : List α) (x : Int) (k : Nat) (hk : k < l.length), l.length = a.length → 0 ≤ x → x + (wt l[k] : Int) ≤ 100000000000 → ∃ e', mb (l, x, (k : Int)) = some (.inl (l.set k e', x + (wt l[k] : Int), (k : Int) + 1)) ∧ HE e' x (wt l[k]))
    (hmn : ∀ l x, l.length = a.length → mb (l, x, (l.length : Int)) = some (.inr (x, l)))
    (hh : ∀ (l : List α) (x : Int) (k n : Nat) (hk : k < l.length), l.length = a.length → HE l[k] x n → 0 ≤ x → x + (n : Int) ≤ 100000000000 → hb l (x, (k : Int)) = some (.inl (x + (n : Int), (k : Int) + 1)))
    (hhn : ∀ l x, l.length = a.length → hb l (x, (l.length : Int)) = some (.inr x)) :
    ∃ a', iter mb (a, x, (0 : Int)) = some (x + (wsum wt a : Int), a') ∧ a'.length = a.length ∧ iter (hb a') (x, (0 : Int)) = some (x + (wsum wt a : Int)) := by
  have key : ∀ (m i : Nat) (x : Int) (l : List α), i + m = l.length → l.length = a.length → 0 ≤ x → x + (wsum wt (l.drop i) : Int) ≤ 100000000000 →
      ∃ l', iter mb (l, x, (i : Int)) = some (x + (wsum wt (l.drop i) : Int), l') ∧ l'.length = l.length ∧ (∀ j, j < i → l'[j]? = l[j]?) ∧ iter (hb l') (x, (i : Int)) = some (x + (wsum wt (l.drop i) : Int)) := by
    intro m
    induction m with
    | zero =>
      intro i x l hi hla hx0 hx1
      have : i = l.length := by omega
      subst this
      rw [List.drop_length]
      refine ⟨l, ?_, rfl, fun _ _ => rfl, ?_⟩
      · rw [iter_r (hmn l x hla)]; simp [wsum]
      · rw [iter_r (hhn l x hla)]; simp [wsum]
    | succ m ih =>
      intro i x l hi hla hx0 hx1
      have hk : i < l.length := by omega
      have hd : l.drop i = l[i] :: l.drop (i + 1) := List.drop_eq_getElem_cons hk
      rw [hd, wsum_cons] at hx1 ⊢
      obtain ⟨e', hmb, hE⟩ := hm l x i hk hla hx0 (by omega)
      have e : (i : Int) + 1 = ((i + 1 : Nat) : Int) := by omega
      have hds : (l.set i e').drop (i + 1) = l.drop (i + 1) := List.drop_set_of_lt (by omega)
      obtain ⟨l', h1', h2', h3', h4'⟩ := ih (i + 1) (x + (wt l[i] : Int)) (l.set i e') (by rw [List.length_set]; omega) (by rw [List.length_set]; exact hla) (by omega) (by rw [hds]; omega)
      rw [hds] at h1' h4'
      rw [List.length_set] at h2'
      have hi' : i < l'.length := by omega
      have hli : l'[i] = e' := by
        have := h3' i (by omega)
        rw [List.getElem?_eq_getElem hi', List.getElem?_set_self hk] at this
        exact Option.some.inj this
      have hsum : x + (wt l[i] : Int) + (wsum wt (l.drop (i + 1)) : Int) = x + ((wt l[i] + wsum wt (l.drop (i + 1)) : Nat) : Int) := by omega
      refine ⟨l', ?_, h2', fun j hj => ?_, ?_⟩
      · rw [iter_l hmb, e, h1', hsum]
      · rw [h3' j (by omega), List.getElem?_set_ne (by omega)]
      · rw [iter_l (hh l' x i (wt l[i]) hi' (by omega) (by rw [hli]; exact hE) hx0 (by omega)), e, h4', hsum]
  obtain ⟨l', h1', h2', _, h4'⟩ := key a.length 0 x a (by omega) rfl h0 (by rw [List.drop_zero]; exact h1)
  rw [List.drop_zero] at h1' h4'
  exact ⟨l', h1', h2', h4'⟩
end Go.Proofs.Ytcagjdngannneaa
