import Derived.Test.YtcgbhldenkeplaaGreatG2
import Derived.Test.YtcgbhldenkeplaaGreatGs
set_option linter.unusedVariables false
set_option linter.unusedSimpArgs false
namespace Go.Proofs.YtcgbhldenkeplaaGreat
open Go V
theorem w64 {n : Int} (h0 : -9223372036854775808 ≤ n) (h1 : n ≤ 9223372036854775807) : IntKind.i64.wrap n = n := by
 rw [IntKind.wrap_i64]; omega
theorem i64_of {n : Int} (h : InK .i64 n) : -9223372036854775808 ≤ n ∧ n ≤ 9223372036854775807 := by
 simpa [InK, IntKind.min, IntKind.max, IntKind.signed, IntKind.bits] using h
theorem u8_of {n : Int} (h : InK .u8 n) : 0 ≤ n ∧ n ≤ 255 := by
 simpa [InK, IntKind.min, IntKind.max, IntKind.signed, IntKind.bits] using h
theorem i64_ok {n : Int} (h0 : -9223372036854775808 ≤ n) (h1 : n ≤ 9223372036854775807) : InK .i64 n := by
 simp [InK, IntKind.min, IntKind.max, IntKind.signed, IntKind.bits]; omega
theorem u8_ok {n : Int} (h0 : 0 ≤ n) (h1 : n ≤ 255) : InK .u8 n := by
 simp [InK, IntKind.min, IntKind.max, IntKind.signed, IntKind.bits]; omega
theorem u8n {b : Int} (h : InK .u8 b) : b = ((b.toNat : Nat) : Int) ∧ b.toNat < 256 := by have := u8_of h; omega
theorem wrap_u8n (b : Int) (h : InK .u8 b) : IntKind.wrap .i64 b = b := by have := u8_of h; exact w64 (by omega) (by omega)
theorem fdiv_nat (a b : Nat) : Int.fdiv (a : Int) (b : Int) = ((a / b : Nat) : Int) := by
 rw [Int.fdiv_eq_ediv_of_nonneg _ (by omega)]; rfl
theorem ishr_nat (k : IntKind) (a b : Nat) (h : b ≤ k.bits) : ishr k (a : Int) (b : Int) = ((a / 2 ^ b : Nat) : Int) := by
 unfold ishr
 rw [Int.toNat_natCast, Nat.min_eq_left h]
 have : (2 : Int) ^ b = ((2 ^ b : Nat) : Int) := by simp
 rw [this, fdiv_nat]
theorem ofInt_nat (w a : Nat) (h : a < 2 ^ w) : (BitVec.ofInt w (a : Int)).toNat = a := by
 rw [BitVec.ofInt_natCast, BitVec.toNat_ofNat, Nat.mod_eq_of_lt h]
theorem wu64 (a : Nat) (h : a < 18446744073709551616) : IntKind.wrap .u64 ((a : Nat) : Int) = (a : Int) := by rw [IntKind.wrap_u64]; omega
theorem ior_u64 (a b : Nat) (ha : a < 18446744073709551616) (hb : b < 18446744073709551616) : ior .u64 (a : Int) (b : Int) = ((a ||| b : Nat) : Int) := by
 unfold ior
 rw [BitVec.toNat_or, ofInt_nat _ a ha, ofInt_nat _ b hb]
 exact wu64 _ (Nat.or_lt_two_pow (n := 64) ha hb)
theorem iand_u64 (a b : Nat) (ha : a < 18446744073709551616) (hb : b < 18446744073709551616) : iand .u64 (a : Int) (b : Int) = ((a &&& b : Nat) : Int) := by
 unfold iand
 rw [BitVec.toNat_and, ofInt_nat _ a ha, ofInt_nat _ b hb]
 exact wu64 _ (Nat.and_lt_two_pow (n := 64) _ hb)
theorem ixor_u64 (a b : Nat) (ha : a < 18446744073709551616) (hb : b < 18446744073709551616) : ixor .u64 (a : Int) (b : Int) = ((a ^^^ b : Nat) : Int) := by
 unfold ixor
 rw [BitVec.toNat_xor, ofInt_nat _ a ha, ofInt_nat _ b hb]
 exact wu64 _ (Nat.xor_lt_two_pow (n := 64) ha hb)
theorem or_add (k n b : Nat) (h : b < 2 ^ k) : (n * 2 ^ k) ||| b = n * 2 ^ k + b := by
 have := Nat.two_pow_add_eq_or_of_lt (i := k) (b := b) h n
 rw [Nat.mul_comm n]
 exact this.symm
def rin (a b c : Int) : Bool := decide (b ≤ a) && decide (a ≤ c)
theorem rin_iff {a b c : Int} : rin a b c = true ↔ b ≤ a ∧ a ≤ c := by simp [rin]
theorem iter_for {S O : Type} {body : S → Option (S ⊕ O)} (n : Nat) (st : Nat → S) (o : O) (h : ∀ k, k < n → body (st k) = some (.inl (st (k + 1)))) (hn : body (st n) = some (.inr o)) : iter body (st 0) = some o := by
 have key : ∀ m, m ≤ n → iter body (st (n - m)) = some o := by
  intro m
  induction m with
  | zero => intro _; rw [iter_eq, Nat.sub_zero, hn]; rfl
  | succ m ih =>
   intro hm
   rw [iter_eq, h (n - (m + 1)) (by omega)]
   simp only [Option.bind_some]
   rw [show n - (m + 1) + 1 = n - m by omega]
   exact ih (by omega)
 have := key n (Nat.le_refl _)
 rwa [Nat.sub_self] at this
theorem iter_l {S O : Type} {body : S → Option (S ⊕ O)} {s s' : S} (h : body s = some (.inl s')) : iter body s = iter body s' := by rw [iter_eq, h]; rfl
theorem iter_r {S O : Type} {body : S → Option (S ⊕ O)} {s : S} {o : O} (h : body s = some (.inr o)) : iter body s = some o := by rw [iter_eq, h]; rfl
theorem iter_all {body : Int → Option (Int ⊕ Bool)} (n : Nat) (t : Nat → Bool) (h : ∀ k, k < n → body k = if t k = true then some (.inl ((k : Int) + 1)) else some (.inr false)) (hn : body n = some (.inr true)) : iter body 0 = some ((List.range n).all t) := by
 have key : ∀ m, m ≤ n → iter body ((n - m : Nat) : Int) = some ((List.range' (n - m) m).all t) := by
  intro m
  induction m with
  | zero => intro _; rw [iter_eq, Nat.sub_zero, hn]; rfl
  | succ m ih =>
   intro hm
   rw [iter_eq, h (n - (m + 1)) (by omega), List.range'_succ, List.all_cons]
   cases ht : t (n - (m + 1)) with
   | false => simp
   | true =>
    simp only [if_true, Option.bind_some, Bool.true_and]
    have e := ih (by omega)
    rw [show n - (m + 1) + 1 = n - m by omega, ← e]
    congr 1
    omega
 have := key n (Nat.le_refl _)
 rw [Nat.sub_self] at this
 rw [List.range_eq_range']
 exact this
theorem at_nat {α : Type} [Inhabited α] (xs : List α) (k : Nat) (h : k < xs.length) : at_ xs (k : Int) = xs[k] := by
 rw [at_eq xs k (by simpa using h)]; simp
theorem at_set {α : Type} [Inhabited α] (l : List α) (i : Nat) (v : α) (h : i < l.length) : at_ (l.set i v) (i : Int) = v := by
 rw [at_nat _ _ (by rw [List.length_set]; exact h)]; simp
theorem all_eq {α : Type} [DecidableEq α] (a b : List α) (h : a.length = b.length) : ((List.range a.length).all fun k => decide (a[k]? = b[k]?)) = decide (a = b) := by
  by_cases e : a = b
  · subst e; simp
  · have : ¬ ∀ k, k < a.length → a[k]? = b[k]? := fun hk => e (List.ext_getElem? fun k => by
      by_cases hl : k < a.length
      · exact hk k hl
      · rw [List.getElem?_eq_none (by omega), List.getElem?_eq_none (by omega)])
    simp only [e, decide_false]
    cases hb : (List.range a.length).all fun k => decide (a[k]? = b[k]?) with
    | false => rfl
    | true =>
      exact absurd (fun k hk => by
        have := List.all_eq_true.1 hb k (List.mem_range.2 hk)
        simpa using this) this
theorem eqS_gen {α : Type} [DecidableEq α] [Inhabited α] {body : Int → Option (Int ⊕ Bool)} (a b : List α) (hb : ∀ k : Nat, (h1 : k < a.length) → (h2 : k < b.length) → body (k : Int) = if decide (a[k] = b[k]) = true then some (.inl ((k : Int) + 1)) else some (.inr false))
    (hn : body (a.length : Int) = some (.inr true)) : (if ((a.length : Int) != (b.length : Int)) = true then some false else iter body 0) = some (decide (a = b)) := by
  by_cases hl : a.length = b.length
  · have hne : ((a.length : Int) != (b.length : Int)) = false := by simp [hl]
    rw [hne, if_neg (by decide), ← all_eq a b hl]
    refine iter_all a.length _ (fun k hk => ?_) hn
    rw [hb k hk (by omega), List.getElem?_eq_getElem hk, List.getElem?_eq_getElem (by omega)]
    simp
  · have hne : ((a.length : Int) != (b.length : Int)) = true := by simp; omega
    rw [hne, if_pos rfl]
    have : a ≠ b := fun e => hl (by rw [e])
    simp [this]
theorem toS_gen {α : Type} {body : List α × Int → Option ((List α × Int) ⊕ List α)} (a : List α) (z : α) (hb : ∀ (l : List α) (k : Nat) (h1 : k < a.length), l.length = a.length → body (l, (k : Int)) = some (.inl (l.set k a[k], (k : Int) + 1)))
    (hn : ∀ l : List α, body (l, (a.length : Int)) = some (.inr l)) : iter body (List.replicate ((a.length : Int)).toNat z, (0 : Int)) = some a := by
  have hst : (List.replicate ((a.length : Int)).toNat z, (0 : Int)) = (a.take 0 ++ List.replicate (a.length - 0) z, ((0 : Nat) : Int)) := by simp
  rw [hst]
  have e : (some a : Option (List α)) = some (a.take a.length ++ List.replicate (a.length - a.length) z) := by simp
  rw [e]
  refine iter_for a.length (fun k => (a.take k ++ List.replicate (a.length - k) z, (k : Int))) _ (fun k hk => ?_) (hn _)
  rw [hb _ k hk (by rw [List.length_append, List.length_take, List.length_replicate]; omega)]
  have hset : (a.take k ++ List.replicate (a.length - k) z).set k a[k] = a.take (k + 1) ++ List.replicate (a.length - (k + 1)) z := by
    rw [List.set_append, if_neg (by simp; omega)]
    have : (a.take k).length = k := by simp; omega
    rw [this, Nat.sub_self, show a.length - k = (a.length - (k + 1)) + 1 by omega, List.replicate_succ, List.set_cons_zero, List.take_succ_eq_append_getElem hk, List.append_assoc]
    rfl
  rw [hset]
  simp
def wsum {α : Type} (wt : α → Nat) (l : List α) : Nat := (l.map wt).sum
theorem wsum_cons {α : Type} (wt : α → Nat) (x : α) (l : List α) : wsum wt (x :: l) = wt x + wsum wt l := rfl
theorem wsum_mem {α : Type} (wt : α → Nat) (l : List α) : ∀ x ∈ l, wt x ≤ wsum wt l := by
 intro x hx
 induction l with
 | nil => cases hx
 | cons y l ih =>
  rw [wsum_cons]
  rcases List.mem_cons.1 hx with rfl | hx
  · omega
  · have := ih hx; omega
theorem wsum_le {α : Type} (w z : α → Nat) (c : Nat) (l : List α) (h : ∀ x ∈ l, w x ≤ c * (z x + 1)) : wsum w l ≤ c * (l.length + wsum z l) := by
 induction l with
 | nil => simp [wsum]
 | cons y l ih =>
  rw [wsum_cons, wsum_cons, List.length_cons]
  have h1 := h y (by simp)
  have h2 := ih fun x hx => h x (by simp [hx])
  have e : c * (l.length + 1 + (z y + wsum z l)) = c * (z y + 1) + c * (l.length + wsum z l) := by rw [← Nat.mul_add]; congr 1; omega
  omega
def Sz (f : Option Int) (n : Int) (z : Nat) : Prop := ∃ r, f = some r ∧ r ≤ n ∧ (0 ≤ r → r = n - (z : Int))
theorem szS_gen {α : Type} {body : Int × Int → Option ((Int × Int) ⊕ Int)} {z : α → Nat} (a : List α) (n : Int) (hl : a.length ≤ maxLen) (h0 : 0 ≤ n) (h1 : n ≤ 1048576)
    (hb : ∀ (k : Nat) (x : Int) (hk : k < a.length), 0 ≤ x → x ≤ 1048576 → ∃ r, r ≤ x ∧ (0 ≤ r → r = x - (z a[k] : Int)) ∧ body (x, (k : Int)) = if r < 0 then some (.inr (-1)) else some (.inl (r, (k : Int) + 1)))
    (hn : ∀ x, body (x, (a.length : Int)) = some (.inr x)) :
    Sz (if (decide ((IntKind.wrap .i64 (n - (a.length : Int))) < (0 : Int))) = true then (some (-1 : Int)) else iter body ((IntKind.wrap .i64 (n - (a.length : Int))), (0 : Int))) n (a.length + wsum z a) := by
  simp only [maxLen] at hl
  rw [w64 (by omega) (by omega)]
  by_cases hneg : n - (a.length : Int) < 0
  · rw [if_pos (by simpa using hneg)]
    exact ⟨-1, rfl, by omega, fun h => by omega⟩
  · rw [if_neg (by simpa using hneg)]
    have key : ∀ (m i : Nat) (x : Int), i + m = a.length → 0 ≤ x → x ≤ 1048576 → ∃ r, iter body (x, (i : Int)) = some r ∧ r ≤ x ∧ (0 ≤ r → r = x - (wsum z (a.drop i) : Int)) := by
      intro m
      induction m with
      | zero =>
        intro i x hi hx0 hx1
        have : i = a.length := by omega
        subst this
        refine ⟨x, iter_r (hn x), by omega, fun _ => ?_⟩
        rw [List.drop_length]; simp [wsum]
      | succ m ih =>
        intro i x hi hx0 hx1
        have hk : i < a.length := by omega
        obtain ⟨r, hr, hr2, hbb⟩ := hb i x hk hx0 hx1
        by_cases hrn : r < 0
        · rw [if_pos hrn] at hbb
          exact ⟨-1, iter_r hbb, by omega, fun h => by omega⟩
        · rw [if_neg hrn] at hbb
          rw [iter_l hbb]
          have e : (i : Int) + 1 = ((i + 1 : Nat) : Int) := by omega
          rw [e]
          obtain ⟨q, eq, hq, hq2⟩ := ih (i + 1) r (by omega) (by omega) (by omega)
          refine ⟨q, eq, by omega, fun h => ?_⟩
          have := hq2 h
          have := hr2 (by omega)
          rw [List.drop_eq_getElem_cons hk, wsum_cons]
          omega
    obtain ⟨r, er, hr, hr2⟩ := key a.length 0 (n - (a.length : Int)) (by omega) (by omega) (by omega)
    refine ⟨r, er, by omega, fun h => ?_⟩
    have := hr2 h
    rw [List.drop_zero] at this
    omega
theorem markS_gen {α : Type} {mb : List α × Int × Int → Option ((List α × Int × Int) ⊕ (Int × List α))} {hb : List α → Int × Int → Option ((Int × Int) ⊕ Int)} {wt : α → Nat} (HE : α → Int → Nat → Prop) (a : List α) (x : Int) (h0 : 0 ≤ x) (h1 : x + (wsum wt a : Int) ≤ 100000000000)
    (hm : ∀ (l : List α) (x : Int) (k : Nat) (hk : k < l.length), l.length = a.length → 0 ≤ x → x + (wt l[k] : Int) ≤ 100000000000 → ∃ e', mb (l, x, (k : Int)) = some (.inl (l.set k e', x + (wt l[k] : Int), (k : Int) + 1)) ∧ HE e' x (wt l[k]))
    (hmn : ∀ l x, l.length = a.length → mb (l, x, (l.length : Int)) = some (.inr (x, l)))
    (hh : ∀ (l : List α) (x : Int) (k n : Nat) (hk : k < l.length), l.length = a.length → HE l[k] x n → 0 ≤ x → x + (n : Int) ≤ 100000000000 → hb l (x, (k : Int)) = some (.inl (x + (n : Int), (k : Int) + 1)))
    (hhn : ∀ l x, l.length = a.length → hb l (x, (l.length : Int)) = some (.inr x)) :
    ∃ a', iter mb (a, x, (0 : Int)) = some (x + (wsum wt a : Int), a') ∧ a'.length = a.length ∧ iter (hb a') (x, (0 : Int)) = some (x + (wsum wt a : Int)) := by
  have key : ∀ (m i : Nat) (x : Int) (l : List α), i + m = l.length → l.length = a.length → 0 ≤ x → x + (wsum wt (l.drop i) : Int) ≤ 100000000000 →
      ∃ l', iter mb (l, x, (i : Int)) = some (x + (wsum wt (l.drop i) : Int), l') ∧ l'.length = l.length ∧ (∀ j, j < i → l'[j]? = l[j]?) ∧ iter (hb l') (x, (i : Int)) = some (x + (wsum wt (l.drop i) : Int)) := by
    intro m
    induction m with
    | zero =>
      intro i x l hi hla hx0 hx1
      have : i = l.length := by omega
      subst this
      rw [List.drop_length]
      refine ⟨l, ?_, rfl, fun _ _ => rfl, ?_⟩
      · rw [iter_r (hmn l x hla)]; simp [wsum]
      · rw [iter_r (hhn l x hla)]; simp [wsum]
    | succ m ih =>
      intro i x l hi hla hx0 hx1
      have hk : i < l.length := by omega
      have hd : l.drop i = l[i] :: l.drop (i + 1) := List.drop_eq_getElem_cons hk
      rw [hd, wsum_cons] at hx1 ⊢
      obtain ⟨e', hmb, hE⟩ := hm l x i hk hla hx0 (by omega)
      have e : (i : Int) + 1 = ((i + 1 : Nat) : Int) := by omega
      have hds : (l.set i e').drop (i + 1) = l.drop (i + 1) := List.drop_set_of_lt (by omega)
      obtain ⟨l', h1', h2', h3', h4'⟩ := ih (i + 1) (x + (wt l[i] : Int)) (l.set i e') (by rw [List.length_set]; omega) (by rw [List.length_set]; exact hla) (by omega) (by rw [hds]; omega)
      rw [hds] at h1' h4'
      rw [List.length_set] at h2'
      have hi' : i < l'.length := by omega
      have hli : l'[i] = e' := by
        have := h3' i (by omega)
        rw [List.getElem?_eq_getElem hi', List.getElem?_set_self hk] at this
        exact Option.some.inj this
      have hsum : x + (wt l[i] : Int) + (wsum wt (l.drop (i + 1)) : Int) = x + ((wt l[i] + wsum wt (l.drop (i + 1)) : Nat) : Int) := by omega
      refine ⟨l', ?_, h2', fun j hj => ?_, ?_⟩
      · rw [iter_l hmb, e, h1', hsum]
      · rw [h3' j (by omega), List.getElem?_set_ne (by omega)]
      · rw [iter_l (hh l' x i (wt l[i]) hi' (by omega) (by rw [hli]; exact hE) hx0 (by omega)), e, h4', hsum]
  obtain ⟨l', h1', h2', _, h4'⟩ := key a.length 0 x a (by omega) rfl h0 (by rw [List.drop_zero]; exact h1)
  rw [List.drop_zero] at h1' h4'
  exact ⟨l', h1', h2', h4'⟩
end Go.Proofs.YtcgbhldenkeplaaGreat
set_option linter.unusedVariables false
set_option linter.unusedSimpArgs false
set_option linter.unusedSectionVars false
namespace Go.Proofs.YtcgbhldenkeplaaGreat
open Go V
def Ok {α : Type} (m : Option α) (P : α → Prop) : Prop := ∃ r, m = some r ∧ P r
section
variable {α β S O : Type} {P : α → Prop} {Q : β → Prop}
theorem Ok.eq {m : Option α} {x : α} (e : m = some x) (h : P x) : Ok m P := ⟨x, e, h⟩
theorem Ok.bind {m : Option α} {k : α → Option β} (h : Ok m P) (hk : ∀ r, P r → Ok (k r) Q) : Ok (m.bind k) Q := by
 obtain ⟨r, rfl, hp⟩ := h
 exact hk r hp
theorem Ok.mono {P' : α → Prop} {m : Option α} (h : Ok m P) (hk : ∀ r, P r → P' r) : Ok m P' := by
 obtain ⟨r, e, hp⟩ := h
 exact ⟨r, e, hk r hp⟩
theorem Ok.iter {body : S → Option (S ⊕ O)} {Q : O → Prop} (Inv : S → Prop) (μ : S → Nat) (h : ∀ s, Inv s → Ok (body s) (Sum.elim (fun s' => Inv s' ∧ μ s' < μ s) Q)) : ∀ s, Inv s → Ok (iter body s) Q := by
 have key : ∀ n s, μ s < n → Inv s → Ok (V.iter body s) Q := by
  intro n
  induction n with
  | zero => intro s hs; omega
  | succ n ih =>
   intro s hs hi
   obtain ⟨r, e, hr⟩ := h s hi
   rw [iter_eq, e]
   cases r with
   | inl s' => exact ih s' (by have := hr.2; omega) hr.1
   | inr o => exact ⟨o, rfl, hr⟩
 intro s hi
 exact key _ s (Nat.lt_succ_self _) hi
end
end Go.Proofs.YtcgbhldenkeplaaGreat
set_option linter.unusedVariables false
set_option linter.unusedSimpArgs false
namespace Go.Proofs.YtcgbhldenkeplaaGreat
open Go V
end Go.Proofs.YtcgbhldenkeplaaGreat
set_option linter.unusedVariables false
set_option linter.unusedSimpArgs false
set_option linter.unusedSectionVars false
namespace Go.Proofs.YtcgbhldenkeplaaGreat
open Go V Ieee
theorem iter_pass {S O : Type} {body : S → Option (S ⊕ O)} {s : S} {m : Option O} (h : body s = m.bind fun o => some (Sum.inr o)) : iter body s = m := by
 rw [iter_eq, h]
 cases m <;> rfl
def wd (M e : Nat) : Nat := D.word false (e * 4503599627370496 + M)
theorem wd_eq (M e : Nat) : wd M e = e * 4503599627370496 + M := rfl
theorem wd_v {M e : Nat} (h1 : M < 9007199254740992) (h2 : e = 0 ∨ 4503599627370496 ≤ M) (h3 : e ≤ 2045) : IsV (wd M e) false (M * pw e) := ⟨M, e, h1, h2, h3, rfl, rfl⟩
theorem rep_of {M : Nat} (h1 : M < 9007199254740992) : ∀ e, e ≤ 2045 → Rep (M * pw e) := by
 intro e
 induction e generalizing M with
 | zero => intro _; exact ⟨M, 0, h1, .inl rfl, by omega, rfl⟩
 | succ e ih =>
  intro he
  by_cases hm : 4503599627370496 ≤ M
  · exact ⟨M, e + 1, h1, .inr hm, he, rfl⟩
  · have := ih (M := 2 * M) (by omega) (by omega)
    rwa [show 2 * M * pw e = M * pw (e + 1) by rw [pw_succ, Nat.mul_comm 2 M, Nat.mul_assoc, Nat.mul_comm 2]] at this
theorem v0 : IsV 0 false 0 := ⟨0, 0, by decide, .inl rfl, by omega, by simp, rfl⟩
theorem v1 : IsV 4607182418800017408 false (4503599627370496 * pw 1022) := ⟨4503599627370496, 1022, by decide, .inr (Nat.le_refl _), by omega, rfl, rfl⟩
theorem v2 : IsV 4611686018427387904 false (4503599627370496 * pw 1023) := ⟨4503599627370496, 1023, by decide, .inr (Nat.le_refl _), by omega, rfl, rfl⟩
theorem vM : IsV 9218868437227405311 false (9007199254740991 * pw 2045) := ⟨9007199254740991, 2045, by decide, .inr (by decide), by omega, rfl, rfl⟩
section
variable {a b u v : Nat} (ha : IsV a false u) (hb : IsV b false v)
include ha hb
theorem cmp_v : fcmp .f64 a b = some (compare u v) := by
 have h := order_v ha hb
 rw [signed_f, signed_f, Nat.pow_zero, Nat.mul_one, Nat.mul_one] at h
 show D.order a b = _
 rw [h]
 show some (compareOfLessAndEq (u : Int) (v : Int)) = some (compareOfLessAndEq u v)
 unfold compareOfLessAndEq
 by_cases h1 : u < v
 · rw [if_pos h1, if_pos (by omega)]
 · rw [if_neg h1, if_neg (by omega)]
   by_cases h2 : u = v
   · rw [if_pos h2, if_pos (by omega)]
   · rw [if_neg h2, if_neg (by omega)]
theorem cmp_lt : (fcmp .f64 a b == some .lt) = decide (u < v) := by
 rw [cmp_v ha hb]
 by_cases h : u < v
 · simp [Nat.compare_eq_lt.2 h, h]
 · have : compare u v ≠ .lt := fun hc => h (Nat.compare_eq_lt.1 hc)
   simp [this, h]
theorem cmp_gt : (fcmp .f64 a b == some .gt) = decide (v < u) := by
 rw [cmp_v ha hb]
 by_cases h : v < u
 · simp [Nat.compare_eq_gt.2 h, h]
 · have : compare u v ≠ .gt := fun hc => h (Nat.compare_eq_gt.1 hc)
   simp [this, h]
theorem cmp_eq : (fcmp .f64 a b == some .eq) = decide (u = v) := by
 rw [cmp_v ha hb]
 by_cases h : u = v
 · simp [Nat.compare_eq_eq.2 h, h]
 · have : compare u v ≠ .eq := fun hc => h (Nat.compare_eq_eq.1 hc)
   simp [this, h]
end
theorem far_half {a u : Nat} (h : IsV a false (u * 2)) (hu : Rep u) : IsV (far .quo a 4611686018427387904) false u := by
 obtain ⟨w', hw, hv⟩ := div_pow (j := 1) c_two (by simpa [pw] using h) hu
 have : far .quo a 4611686018427387904 = w' := by show (D.div a _).getD _ = _; rw [hw]; rfl
 rwa [this]
theorem far_dbl {a u : Nat} (h : IsV a false u) (hu : Rep (u * 2)) : IsV (far .mul a 4611686018427387904) false (u * 2) := by
 obtain ⟨w', hw, hv⟩ := mul_pow_ (j := 1) c_two h (by simpa using hu)
 have : far .mul a 4611686018427387904 = w' := by show (D.mul a _).getD _ = _; rw [hw]; rfl
 rw [this]; simpa using hv
theorem far_big {a u : Nat} (h : IsV a false u) (hu : Rep (u * pw 52)) : IsV (far .mul a 4841369599423283200) false (u * pw 52) := by
 obtain ⟨w', hw, hv⟩ := mul_pow_ (j := 52) c_big h hu
 have : far .mul a 4841369599423283200 = w' := by show (D.mul a _).getD _ = _; rw [hw]; rfl
 rwa [this]
theorem far_sub1 {a v : Nat} (h : IsV a false (U1 + v)) (hv : Rep v) : IsV (far .sub a 4607182418800017408) false v := by
 obtain ⟨w', hw, hv⟩ := sub_one h hv
 have : far .sub a 4607182418800017408 = w' := by show (D.sub a _).getD _ = _; rw [hw]; rfl
 rwa [this]
theorem f2i_v {a n : Nat} (h : IsV a false (n * pw 1074)) (hn : n < 18446744073709551616) : floatToIntVal .f64 a .u64 = some (n : Int) := by
 unfold floatToIntVal
 have := toInt_p h
 show (match (D.read a).toInt .zero with | some n => _ | none => _) = _
 rw [this]
 simp only []
 rw [if_pos]
 simp [IntKind.min, IntKind.max, IntKind.signed, IntKind.bits]; omega
section
variable (S E : Nat) (A : Nat)
theorem bits_num (s E K : Nat) (hs : s ≤ 1) (hE : E < 2048) (hK : K < 4503599627370496) : ior .u64 (ior .u64 ((s * 9223372036854775808 : Nat) : Int) (ishl .u64 (IntKind.wrap .u64 (IntKind.wrap .i64 (E : Int))) 52)) (K : Int) = ((s * 9223372036854775808 + E * 4503599627370496 + K : Nat) : Int) := by
 rw [w64 (by omega) (by omega), wu64 E (by omega)]
 have h1 : ishl .u64 (E : Int) 52 = ((E * 4503599627370496 : Nat) : Int) := by
  unfold ishl
  show IntKind.wrap .u64 ((E : Int) * 2 ^ 52) = _
  have : (E : Int) * 2 ^ 52 = ((E * 4503599627370496 : Nat) : Int) := by rw [show (2 : Int) ^ 52 = 4503599627370496 by decide]; omega
  rw [this, wu64 _ (by omega)]
 rw [h1, ior_u64 _ _ (by omega) (by omega)]
 have h2 : s * 9223372036854775808 ||| E * 4503599627370496 = s * 9223372036854775808 + E * 4503599627370496 := by
  have := or_add 63 s (E * 4503599627370496) (by show _ < 9223372036854775808; omega)
  exact this
 rw [h2, ior_u64 _ _ (by omega) (by omega)]
 have h3 := or_add 52 (s * 2048 + E) K (by show _ < 4503599627370496; omega)
 have e : (s * 2048 + E) * 2 ^ 52 = s * 9223372036854775808 + E * 4503599627370496 := by
  rw [show (2 : Nat) ^ 52 = 4503599627370496 by decide]; omega
 rw [e] at h3
 rw [h3]
theorem bits_sub (s K : Nat) (hs : s ≤ 1) (hK : K < 4503599627370496) : ior .u64 ((s * 9223372036854775808 : Nat) : Int) (K : Int) = ((s * 9223372036854775808 + K : Nat) : Int) := by
 rw [ior_u64 _ _ (by omega) (by omega)]
 have h3 := or_add 63 s K (by show _ < 9223372036854775808; omega)
 rw [show (s * 2 ^ 63 : Nat) = s * 9223372036854775808 from rfl] at h3
 rw [h3]
end
theorem p_lt {M e : Nat} (k k' : Nat) (h : M < 9007199254740992) (he : e ≤ k) (hk : k' = k + 1) : M * pw e < 4503599627370496 * pw k' := by
 have h1 : M * pw e < 9007199254740992 * pw e := Nat.mul_lt_mul_of_pos_right h (pw_pos e)
 have h2 : 9007199254740992 * pw e ≤ 9007199254740992 * pw k := Nat.mul_le_mul_left _ (pw_le he)
 have h3 : 4503599627370496 * (pw k * 2) = 9007199254740992 * pw k := by
  generalize pw k = q
  omega
 rw [hk, pw_succ, h3]
 exact Nat.lt_of_lt_of_le h1 h2
theorem p_ge {M e k : Nat} (h : 4503599627370496 ≤ M) (he : k ≤ e) : 4503599627370496 * pw k ≤ M * pw e :=
 Nat.mul_le_mul h (pw_le he)
theorem fb_one (s M : Nat) (A : Nat) (c : Int) (E : Nat) (hs : s ≤ 1) (h1 : M < 9007199254740992) (h2 : 4503599627370496 ≤ M) (hE : E < 2048) (hc : c + 1023 = (E : Int)) : iter (spec_FloatBits.b1 (((s * 9223372036854775808 : Nat) : Int), A)) (wd M 1022, c) = some ((s * 9223372036854775808 + E * 4503599627370496 + (M - 4503599627370496) : Nat) : Int) := by
 have hv := wd_v h1 (.inr h2) (show 1022 ≤ 2045 by omega)
 have hlt := cmp_lt hv v1
 have hnl : ¬ M * pw 1022 < 4503599627370496 * pw 1022 := Nat.not_lt.2 (p_ge h2 (Nat.le_refl _))
 rw [decide_eq_false hnl] at hlt
 have hsum : M * pw 1022 = U1 + (M - 4503599627370496) * pw 1022 := by
  rw [U1_eq, ← Nat.add_mul, show 4503599627370496 + (M - 4503599627370496) = M by omega]
 have hK : M - 4503599627370496 < 9007199254740992 := by omega
 rw [hsum] at hv
 have hs1 := far_sub1 hv (rep_of hK 1022 (by omega))
 have hb := far_big hs1 (by rw [Nat.mul_assoc, ← pw_add]; exact rep_of hK _ (by omega))
 rw [Nat.mul_assoc, ← pw_add] at hb
 have hi := f2i_v hb (by omega)
 refine iter_r ?_
 unfold spec_FloatBits.b1
 simp only [hlt, hi, Bool.false_and, Bool.false_eq_true, if_false, Option.bind_some]
 rw [hc, bits_num s E _ hs hE (by omega)]
theorem fb_up (s M : Nat) (A : Nat) (hs : s ≤ 1) (h1 : M < 9007199254740992) (h2 : 4503599627370496 ≤ M) : ∀ (j i : Nat), i + j ≤ 1022 → iter (spec_FloatBits.b1 (((s * 9223372036854775808 : Nat) : Int), A)) (wd M (1022 - j), -(i : Int)) = some ((s * 9223372036854775808 + (1023 - i - j) * 4503599627370496 + (M - 4503599627370496) : Nat) : Int) := by
 intro j
 induction j with
 | zero => intro i hi; exact fb_one s M A _ _ hs h1 h2 (by omega) (by omega)
 | succ j ih =>
  intro i hi
  have hv := wd_v h1 (.inr h2) (show 1022 - (j + 1) ≤ 2045 by omega)
  have hlt := cmp_lt hv v1
  have hl : M * pw (1022 - (j + 1)) < 4503599627370496 * pw 1022 := p_lt 1021 1022 h1 (by omega) rfl
  rw [decide_eq_true hl] at hlt
  have he : M * pw (1022 - (j + 1)) * 2 = M * pw (1022 - j) := by
   rw [Nat.mul_assoc, ← pw_succ, show 1022 - (j + 1) + 1 = 1022 - j by omega]
  have hd := far_dbl hv (by rw [he]; exact rep_of h1 _ (by omega))
  rw [he] at hd
  have hw := hd.eq (wd_v h1 (.inr h2) (show 1022 - j ≤ 2045 by omega))
  have hstep : spec_FloatBits.b1 (((s * 9223372036854775808 : Nat) : Int), A) (wd M (1022 - (j + 1)), -(i : Int)) = some (.inl (wd M (1022 - j), -((i + 1 : Nat) : Int))) := by
   unfold spec_FloatBits.b1
   simp only [hlt, Bool.true_and]
   rw [if_pos (by simp; omega), hw, w64 (by omega) (by omega), show -(i : Int) - 1 = -((i + 1 : Nat) : Int) by omega]
  rw [iter_l hstep, ih (i + 1) (by omega), show 1023 - (i + 1) - j = 1023 - i - (j + 1) by omega]
theorem fb_sub (s M : Nat) (A : Nat) (hs : s ≤ 1) (h1 : M < 4503599627370496) : ∀ (j i a : Nat), i + j = 1022 → IsV a false (M * pw i) → iter (spec_FloatBits.b1 (((s * 9223372036854775808 : Nat) : Int), A)) (a, -(i : Int)) = some ((s * 9223372036854775808 + M : Nat) : Int) := by
 intro j
 induction j with
 | zero =>
  intro i a hi hv
  have hlt := cmp_lt hv v1
  have hl : M * pw i < 4503599627370496 * pw 1022 := by
   rw [show i = 1022 by omega]
   exact Nat.mul_lt_mul_of_pos_right h1 (pw_pos _)
  rw [decide_eq_true hl] at hlt
  have hb := far_big hv (by rw [Nat.mul_assoc, ← pw_add]; exact rep_of (by omega) _ (by omega))
  rw [Nat.mul_assoc, ← pw_add, show i + 52 = 1074 by omega] at hb
  have hi2 := f2i_v hb (by omega)
  refine iter_r ?_
  unfold spec_FloatBits.b1
  have hc : decide (-(i : Int) > -1022) = false := by simp; omega
  simp only [hlt, hc, hi2, Bool.true_and, Bool.false_eq_true, if_false, if_true, Option.bind_some]
  rw [bits_sub s M hs h1]
 | succ j ih =>
  intro i a hi hv
  have hlt := cmp_lt hv v1
  have hl : M * pw i < 4503599627370496 * pw 1022 := p_lt 1021 1022 (by omega) (by omega) rfl
  rw [decide_eq_true hl] at hlt
  have he : M * pw i * 2 = M * pw (i + 1) := by rw [Nat.mul_assoc, ← pw_succ]
  have hd := far_dbl hv (by rw [he]; exact rep_of (by omega) _ (by omega))
  rw [he] at hd
  have hstep : spec_FloatBits.b1 (((s * 9223372036854775808 : Nat) : Int), A) (a, -(i : Int)) = some (.inl (far .mul a 4611686018427387904, -((i + 1 : Nat) : Int))) := by
   unfold spec_FloatBits.b1
   simp only [hlt, Bool.true_and]
   rw [if_pos (by simp; omega), w64 (by omega) (by omega), show -(i : Int) - 1 = -((i + 1 : Nat) : Int) by omega]
  rw [iter_l hstep, ih (i + 1) _ (by omega) hd]
theorem fb_pass {y : Int × Nat} {a u : Nat} {c : Int} (hv : IsV a false u) (hu : u < 4503599627370496 * pw 1023) : iter (spec_FloatBits.b0 y) (a, c) = iter (spec_FloatBits.b1 y) (a, c) := by
 refine iter_pass ?_
 unfold spec_FloatBits.b0
 have h1 := cmp_gt hv v2
 have h2 := cmp_eq hv v2
 rw [decide_eq_false (by omega)] at h1
 rw [decide_eq_false (by omega)] at h2
 simp only [h1, h2, Bool.or_self, Bool.false_eq_true, if_false]
theorem fb_down (y : Int × Nat) (M : Nat) (h1 : M < 9007199254740992) (h2 : 4503599627370496 ≤ M) : ∀ (n e : Nat) (c : Int), e = 1022 + n → e ≤ 2045 → 0 ≤ c → c ≤ 10000 - n → iter (spec_FloatBits.b0 y) (wd M e, c) = iter (spec_FloatBits.b1 y) (wd M 1022, c + n) := by
 intro n
 induction n with
 | zero =>
  intro e c he _ _ _
  have : e = 1022 := by omega
  subst this
  rw [fb_pass (wd_v h1 (.inr h2) (by omega)) (p_lt 1022 1023 h1 (by omega) rfl)]
  simp
 | succ n ih =>
  intro e c he he2 hc0 hc1
  obtain ⟨e, rfl⟩ : ∃ e', e = e' + 1 := ⟨e - 1, by omega⟩
  have hv := wd_v h1 (.inr h2) he2
  have g1 := cmp_gt hv v2
  have g2 := cmp_eq hv v2
  have hge : 4503599627370496 * pw 1023 ≤ M * pw (e + 1) := p_ge h2 (by omega)
  have hor : (fcmp .f64 (wd M (e + 1)) 4611686018427387904 == some .gt || fcmp .f64 (wd M (e + 1)) 4611686018427387904 == some .eq) = true := by
   rw [g1, g2, Bool.or_eq_true, decide_eq_true_eq, decide_eq_true_eq]
   generalize 4503599627370496 * pw 1023 = q at hge ⊢
   omega
  have hv2 : IsV (wd M (e + 1)) false (M * pw e * 2) := by rw [Nat.mul_assoc, ← pw_succ]; exact hv
  have hw := (far_half hv2 (rep_of h1 _ (by omega))).eq (wd_v h1 (.inr h2) (by omega))
  have hstep : spec_FloatBits.b0 y (wd M (e + 1), c) = some (.inl (wd M e, c + 1)) := by
   unfold spec_FloatBits.b0
   simp only [hor, if_true]
   rw [hw, w64 (by omega) (by omega)]
  rw [iter_l hstep, ih e (c + 1) (by omega) (by omega) (by omega) (by omega), show c + 1 + (n : Int) = c + ((n + 1 : Nat) : Int) by omega]
theorem xor_sign (r : Nat) (h : r < 9223372036854775808) : Op.negFloat .f64 (9223372036854775808 + r) = r := by
 show (9223372036854775808 + r) ^^^ 2 ^ 63 = r
 have e : 9223372036854775808 + r = 2 ^ 63 ||| r := by
  have := Nat.two_pow_add_eq_or_of_lt (i := 63) (b := r) h 1
  simpa using this
 have e2 : 2 ^ 63 ||| r = 2 ^ 63 ^^^ r := by
  apply Nat.eq_of_testBit_eq
  intro i
  rw [Nat.testBit_or, Nat.testBit_xor]
  by_cases hi : i = 63
  · subst hi
    have : r.testBit 63 = false := Nat.testBit_lt_two_pow h
    rw [this]; simp
  · have : (2 ^ 63).testBit i = false := by rw [Nat.testBit_two_pow]; simp; omega
    rw [this]; simp
 rw [e, e2, Nat.xor_comm (2 ^ 63) r, Nat.xor_assoc, Nat.xor_self, Nat.xor_zero]
theorem fin_word {x : Nat} (hx : x < 18446744073709551616) (h : x % 9223372036854775808 < 9218868437227405312) : ∃ s M e, s ≤ 1 ∧ M < 9007199254740992 ∧ (e = 0 ∨ 4503599627370496 ≤ M) ∧ e ≤ 2045 ∧ x = s * 9223372036854775808 + wd M e := by
 refine ⟨x / 9223372036854775808, ?_⟩
 by_cases hr : x % 9223372036854775808 < 4503599627370496
 · exact ⟨x % 9223372036854775808, 0, by omega, by omega, .inl rfl, by omega, by rw [wd_eq]; omega⟩
 · refine ⟨4503599627370496 + x % 9223372036854775808 % 4503599627370496, x % 9223372036854775808 / 4503599627370496 - 1, by omega, by omega, .inr (by omega), by omega, ?_⟩
   rw [wd_eq]; omega
theorem fb_loops (s M e : Nat) (A : Nat) (hs : s ≤ 1) (h1 : M < 9007199254740992) (h2 : e = 0 ∨ 4503599627370496 ≤ M) (h3 : e ≤ 2045) : iter (spec_FloatBits.b0 (((s * 9223372036854775808 : Nat) : Int), A)) (wd M e, (0 : Int)) = some ((s * 9223372036854775808 + wd M e : Nat) : Int) := by
 by_cases hm : 4503599627370496 ≤ M
 · by_cases he : 1022 ≤ e
   · rw [fb_down _ M h1 hm (e - 1022) e 0 (by omega) h3 (by omega) (by omega)]
     rw [fb_one s M A _ (e + 1) hs h1 hm (by omega) (by omega), wd_eq, show s * 9223372036854775808 + (e + 1) * 4503599627370496 + (M - 4503599627370496) = s * 9223372036854775808 + (e * 4503599627370496 + M) by omega]
   · rw [fb_pass (wd_v h1 (.inr hm) h3) (p_lt 1022 1023 h1 (by omega) rfl)]
     have := fb_up s M A hs h1 hm (1022 - e) 0 (by omega)
     rw [show 1022 - (1022 - e) = e by omega] at this
     rw [show (0 : Int) = -((0 : Nat) : Int) by simp, this, wd_eq, show s * 9223372036854775808 + (1023 - 0 - (1022 - e)) * 4503599627370496 + (M - 4503599627370496) = s * 9223372036854775808 + (e * 4503599627370496 + M) by omega]
 · have he : e = 0 := by omega
   subst he
   have hv := wd_v h1 (.inl rfl) h3
   rw [fb_pass hv (p_lt 1022 1023 h1 (by omega) rfl)]
   have h0 : M * pw 0 = M * pw 0 := rfl
   have := fb_sub s M A hs (by omega) 1022 0 (wd M 0) (by omega) hv
   rw [show (0 : Int) = -((0 : Nat) : Int) by simp, this, wd_eq, show 0 * 4503599627370496 + M = M by omega]
theorem nan_word {x : Nat} (h : okF x) (hn : isN x = true) : x = nanB := by rw [← h.1, cn_nan hn]
theorem fb_nan : spec_FloatBits.f 9221120237041090560 = some 9221120237041090560 := by
 unfold spec_FloatBits.f
 rw [if_pos (by decide)]
theorem fb_inf : spec_FloatBits.f 9218868437227405312 = some 9218868437227405312 := by
 have h1 : (fcmp .f64 9218868437227405312 9218868437227405312 != some .eq) = false := by decide
 have h2 : (fcmp .f64 9218868437227405312 0 == some .lt) = false := by decide
 have h3 : (fcmp .f64 9218868437227405312 0 == some .eq) = false := by decide
 have h4 : (fcmp .f64 9218868437227405312 9218868437227405311 == some .gt) = true := by decide
 unfold spec_FloatBits.f
 simp only [h1, h2, h3, h4, Bool.false_eq_true, if_false, if_true, Option.bind_some]
 rfl
theorem fb_ninf : spec_FloatBits.f 18442240474082181120 = some 18442240474082181120 := by
 have h1 : (fcmp .f64 18442240474082181120 18442240474082181120 != some .eq) = false := by decide
 have h2 : (fcmp .f64 18442240474082181120 0 == some .lt) = true := by decide
 have h0 : fneg 18442240474082181120 = 9218868437227405312 := by decide
 have h3 : (fcmp .f64 9218868437227405312 0 == some .eq) = false := by decide
 have h4 : (fcmp .f64 9218868437227405312 9218868437227405311 == some .gt) = true := by decide
 unfold spec_FloatBits.f
 simp only [h1, h2, h0, h3, h4, Bool.false_eq_true, if_false, if_true, Option.bind_some]
 rfl
theorem fb_zero : spec_FloatBits.f 0 = some 0 := by
 have h1 : (fcmp .f64 0 0 != some .eq) = false := by decide
 have h2 : (fcmp .f64 0 0 == some .lt) = false := by decide
 have h3 : (fcmp .f64 0 0 == some .eq) = true := by decide
 have h4 : (fcmp .f64 (far .quo 4607182418800017408 0) 0 == some .lt) = false := by decide
 unfold spec_FloatBits.f
 simp only [h1, h2, h3, h4, Bool.false_eq_true, if_false, if_true, Option.bind_some]
theorem fb_nzero : spec_FloatBits.f 9223372036854775808 = some 9223372036854775808 := by
 have h1 : (fcmp .f64 9223372036854775808 9223372036854775808 != some .eq) = false := by decide
 have h2 : (fcmp .f64 9223372036854775808 0 == some .lt) = false := by decide
 have h3 : (fcmp .f64 9223372036854775808 0 == some .eq) = true := by decide
 have h4 : (fcmp .f64 (far .quo 4607182418800017408 9223372036854775808) 0 == some .lt) = true := by decide
 have h5 : (fcmp .f64 (fneg 9223372036854775808) 0 == some .eq) = true := by decide
 unfold spec_FloatBits.f
 simp only [h1, h2, h3, h4, h5, Bool.false_eq_true, if_false, if_true, Option.bind_some]
theorem ifF {α : Type} {b : Bool} {x y : α} (h : b = false) : (if b = true then x else y) = y := by subst h; rfl
theorem ifT {α : Type} {b : Bool} {x y : α} (h : b = true) : (if b = true then x else y) = x := by subst h; rfl
theorem cmp_self {w u : Nat} {s : Bool} (hw : IsV w s u) : (fcmp .f64 w w != some .eq) = false := by
 have : fcmp .f64 w w = some .eq := by
  show D.order w w = _
  rw [order_v hw hw]
  show (some (compareOfLessAndEq _ _)) = some _
  unfold compareOfLessAndEq
  rw [if_neg (Int.lt_irrefl _), if_pos rfl]
 rw [this]; rfl
theorem cmp_le {M e : Nat} (h1 : M < 9007199254740992) (h3 : e ≤ 2045) : ¬ 9007199254740991 * pw 2045 < M * pw e := by
 have : M * pw e ≤ 9007199254740991 * pw 2045 := Nat.mul_le_mul (by omega) (pw_le h3)
 exact Nat.not_lt.2 this
section
variable {M e : Nat} (h1 : M < 9007199254740992) (h2 : e = 0 ∨ 4503599627370496 ≤ M) (h3 : e ≤ 2045) (hM : 0 < M)
include h1 h2 h3
theorem wd_lt : wd M e < 9218868437227405312 := by rw [wd_eq]; omega
theorem wd_max : (fcmp .f64 (wd M e) 9218868437227405311 == some .gt) = false := by
 rw [cmp_gt (wd_v h1 h2 h3) vM, decide_eq_false (cmp_le h1 h3)]
theorem wd_neg : IsV (9223372036854775808 + wd M e) true (M * pw e) := ⟨M, e, h1, h2, h3, rfl, by rw [wd_eq]; rfl⟩
include hM
theorem wd_pos : 0 < M * pw e := Nat.mul_pos hM (pw_pos e)
theorem wd_ne0 : (fcmp .f64 (wd M e) 0 == some .eq) = false := by
 have := wd_pos h1 h2 h3 hM
 rw [cmp_eq (wd_v h1 h2 h3) v0, decide_eq_false (Nat.ne_of_gt this)]
theorem wd_nl : (fcmp .f64 (wd M e) 0 == some .lt) = false := by
 rw [cmp_lt (wd_v h1 h2 h3) v0, decide_eq_false (Nat.not_lt_zero _)]
theorem wd_gt : (fcmp .f64 (wd M e) 0 == some .gt) = true := by
 have := wd_pos h1 h2 h3 hM
 rw [cmp_gt (wd_v h1 h2 h3) v0, decide_eq_true this]
theorem neg_cmp : fcmp .f64 (9223372036854775808 + wd M e) 0 = some .lt := by
 have hp := wd_pos h1 h2 h3 hM
 have ho := order_v (wd_neg h1 h2 h3) v0
 rw [signed_t, signed_f, Nat.pow_zero, Nat.mul_one, Nat.zero_mul] at ho
 show D.order _ _ = _
 rw [ho]
 show (some (compareOfLessAndEq _ _)) = some _
 unfold compareOfLessAndEq
 generalize M * pw e = q at hp
 rw [if_pos (show (-((q : Nat) : Int)) < ((0 : Nat) : Int) by omega)]
theorem neg_neg' : fneg (9223372036854775808 + wd M e) = wd M e := by
 have hl := wd_lt h1 h2 h3
 unfold fneg
 have hn : isN (9223372036854775808 + wd M e) = false := by
  unfold isN
  generalize wd M e = q at hl
  simp; omega
 rw [hn, cond_false]
 exact xor_sign _ (by omega)
theorem fb_plus : spec_FloatBits.f (wd M e) = some ((wd M e : Nat) : Int) := by
 have hl := fb_loops 0 M e (wd M e) (by omega) h1 h2 h3
 have e0 : 0 * 9223372036854775808 + wd M e = wd M e := by rw [Nat.zero_mul, Nat.zero_add]
 have eS : ((0 * 9223372036854775808 : Nat) : Int) = 0 := by omega
 rw [e0, eS] at hl
 unfold spec_FloatBits.f
 rw [ifF (cmp_self (wd_v h1 h2 h3)), ifF (wd_nl h1 h2 h3 hM), ifF (wd_ne0 h1 h2 h3 hM), Option.bind_some, Option.bind_some, ifF rfl, Option.bind_some, ifF (wd_ne0 h1 h2 h3 hM), ifF (wd_max h1 h2 h3)]
 exact hl
theorem fb_minus : spec_FloatBits.f (9223372036854775808 + wd M e) = some ((9223372036854775808 + wd M e : Nat) : Int) := by
 have hl := fb_loops 1 M e (wd M e) (by omega) h1 h2 h3
 have eS : ((1 * 9223372036854775808 : Nat) : Int) = 9223372036854775808 := by omega
 rw [eS, Nat.one_mul] at hl
 have h4 : (fcmp .f64 (9223372036854775808 + wd M e) 0 == some .lt) = true := by rw [neg_cmp h1 h2 h3 hM]; rfl
 unfold spec_FloatBits.f
 rw [ifF (cmp_self (wd_neg h1 h2 h3)), ifT h4, Option.bind_some, ifT rfl, Option.bind_some, neg_neg' h1 h2 h3 hM, ifF (wd_ne0 h1 h2 h3 hM), ifF (wd_max h1 h2 h3)]
 exact hl
end
theorem word_cases {x : Nat} (h : okF x) (P : Nat → Prop) (hnan : P nanB) (hi : P 9218868437227405312) (hni : P 18442240474082181120) (h0 : P 0) (hn0 : P 9223372036854775808)
    (hp : ∀ M e, M < 9007199254740992 → (e = 0 ∨ 4503599627370496 ≤ M) → e ≤ 2045 → 0 < M → P (wd M e)) (hm : ∀ M e, M < 9007199254740992 → (e = 0 ∨ 4503599627370496 ≤ M) → e ≤ 2045 → 0 < M → P (9223372036854775808 + wd M e)) : P x := by
  cases hn : isN x with
  | true => rw [nan_word h hn]; exact hnan
  | false =>
    have hx := h.2
    have hr : x % 9223372036854775808 ≤ 9218868437227405312 := by
      unfold isN at hn
      have := of_decide_eq_false hn
      omega
    by_cases hi' : x % 9223372036854775808 = 9218868437227405312
    · rcases (show x = 9218868437227405312 ∨ x = 18442240474082181120 by omega) with rfl | rfl
      · exact hi
      · exact hni
    · obtain ⟨s, M, e, hs, h1, h2, h3, rfl⟩ := fin_word hx (by omega)
      by_cases hM : M = 0
      · subst hM
        have he : e = 0 := by omega
        subst he
        rcases (show s = 0 ∨ s = 1 by omega) with rfl | rfl
        · exact h0
        · exact hn0
      · rcases (show s = 0 ∨ s = 1 by omega) with rfl | rfl
        · rw [Nat.zero_mul, Nat.zero_add]; exact hp M e h1 h2 h3 (by omega)
        · rw [Nat.one_mul]; exact hm M e h1 h2 h3 (by omega)
theorem spec_FloatBits (x : Nat) (h : okF x) : spec_FloatBits.f x = some (x : Int) :=
 word_cases h (fun x => spec_FloatBits.f x = some (x : Int)) fb_nan fb_inf fb_ninf fb_zero fb_nzero (fun M e h1 h2 h3 hM => fb_plus h1 h2 h3 hM) (fun M e h1 h2 h3 hM => fb_minus h1 h2 h3 hM)
end Go.Proofs.YtcgbhldenkeplaaGreat
set_option linter.unusedVariables false
set_option linter.unusedSimpArgs false
set_option linter.unusedSectionVars false
namespace Go.Proofs.YtcgbhldenkeplaaGreat
open Go V Ieee
theorem wd_rng {M e : Nat} (h1 : M < 9007199254740992) (h3 : e ≤ 2045) (hM : 0 < M) : 0 < wd M e ∧ wd M e < 9218868437227405312 := by rw [wd_eq]; omega
theorem cmp_facts (x : Nat) (h : okF x) : (fcmp .f64 x x != some .eq) = decide (x = 9221120237041090560) ∧ (fcmp .f64 x 0 == some .eq) = decide (x = 0 ∨ x = 9223372036854775808) ∧
    (x ≠ 9221120237041090560 → (fcmp .f64 x 0 == some .gt) = decide (0 < x ∧ x < 9223372036854775808)) ∧ isN x = decide (x = 9221120237041090560) := by
  refine word_cases h (fun x => (fcmp .f64 x x != some .eq) = decide (x = 9221120237041090560) ∧ (fcmp .f64 x 0 == some .eq) = decide (x = 0 ∨ x = 9223372036854775808) ∧
    (x ≠ 9221120237041090560 → (fcmp .f64 x 0 == some .gt) = decide (0 < x ∧ x < 9223372036854775808)) ∧ isN x = decide (x = 9221120237041090560)) ?_ ?_ ?_ ?_ ?_ (fun M e h1 h2 h3 hM => ?_) (fun M e h1 h2 h3 hM => ?_)
  · exact ⟨by decide, by decide, fun h => absurd rfl h, by decide⟩
  · exact ⟨by decide, by decide, fun _ => by decide, by decide⟩
  · exact ⟨by decide, by decide, fun _ => by decide, by decide⟩
  · exact ⟨by decide, by decide, fun _ => by decide, by decide⟩
  · exact ⟨by decide, by decide, fun _ => by decide, by decide⟩
  · obtain ⟨q0, q1⟩ := wd_rng h1 h3 hM
    have c1 := cmp_self (wd_v h1 h2 h3)
    have c2 := wd_ne0 h1 h2 h3 hM
    have c3 := wd_gt h1 h2 h3 hM
    rw [c1, c2, c3]
    generalize wd M e = q at q0 q1
    refine ⟨?_, ?_, fun _ => ?_, ?_⟩
    · rw [decide_eq_false (by omega)]
    · rw [decide_eq_false (by omega)]
    · rw [decide_eq_true (by omega)]
    · unfold isN
      rw [decide_eq_false (by omega), decide_eq_false (by omega)]
  · obtain ⟨q0, q1⟩ := wd_rng h1 h3 hM
    have c1 := cmp_self (wd_neg h1 h2 h3)
    have c2 := neg_cmp h1 h2 h3 hM
    rw [c1, c2]
    generalize wd M e = q at q0 q1
    refine ⟨?_, ?_, fun _ => ?_, ?_⟩
    · rw [decide_eq_false (by omega)]
    · rw [decide_eq_false (by omega)]; rfl
    · rw [decide_eq_false (by omega)]; rfl
    · unfold isN
      rw [decide_eq_false (by omega), decide_eq_false (by omega)]
def FRK (x : Nat) : Nat := if x = 9221120237041090560 then 18446744073709551615 else if x = 0 ∨ x = 9223372036854775808 then 9223372036854775808 else if 9223372036854775808 ≤ x then 18446744073709551615 ^^^ x else x ||| 9223372036854775808
theorem max_u64 : IntKind.max .u64 = ((18446744073709551615 : Nat) : Int) := by decide
theorem FRK_lt (x : Nat) (h : x < 18446744073709551616) : FRK x < 18446744073709551616 := by
 unfold FRK
 split
 · omega
 · split
   · omega
   · split
     · exact Nat.xor_lt_two_pow (n := 64) (by omega) h
     · exact Nat.or_lt_two_pow (n := 64) h (by omega)
theorem ishr63 (n : Nat) : (ishr .u64 (n : Int) (63 : Int) == (1 : Int)) = decide (n / 9223372036854775808 = 1) := by
 have h2 : ishr .u64 (n : Int) (63 : Int) = ((n / 9223372036854775808 : Nat) : Int) := ishr_nat .u64 n 63 (by decide)
 rw [h2]
 generalize n / 9223372036854775808 = q
 by_cases hq : q = 1
 · rw [decide_eq_true hq, hq]; rfl
 · rw [decide_eq_false hq]; simp; omega
end Go.Proofs.YtcgbhldenkeplaaGreat
set_option linter.unusedVariables false
set_option linter.unusedSimpArgs false
set_option linter.unusedSectionVars false
namespace Go.Proofs.YtcgbhldenkeplaaGreat
open Go V Ieee
theorem near_v (n : Nat) (h : n < 9007199254740992) : IsV (FloatKind.f64.nearest (n : Int)) false (n * pw 1074) := by
 have hr := rep_of h 1074 (by omega)
 have := write_rep false n 0 (n * pw 1074) hr (by
  rw [show ((0 : Int) + 1074).toNat = 1074 by omega, show (-((0 : Int) + 1074)).toNat = 0 by omega, Nat.pow_zero, Nat.mul_one, pw])
 have e : FloatKind.f64.nearest (n : Int) = D.write (.number false n 0) := by
  show D.write (.number (decide ((n : Int) < 0)) (n : Int).natAbs 0) = _
  rw [decide_eq_false (by omega), Int.natAbs_natCast]
 rwa [e]
theorem near_self (n : Int) (h0 : 0 ≤ n) (h1 : n < 9007199254740992) : (fcmp .f64 (FloatKind.f64.nearest n) (FloatKind.f64.nearest n) != some .eq) = false := by
 obtain ⟨m, rfl⟩ := Int.eq_ofNat_of_zero_le h0
 exact cmp_self (near_v m (by omega))
end Go.Proofs.YtcgbhldenkeplaaGreat
set_option linter.unusedVariables false
set_option linter.unusedSimpArgs false
set_option linter.unusedSectionVars false
namespace Go.Proofs.YtcgbhldenkeplaaGreat
open Go V Ieee
theorem impl_FloatBits (x : Nat) (h : okF x) : impl_FloatBits.f x = some (x : Int) := by
 obtain ⟨c1, _, _, c4⟩ := cmp_facts x h
 unfold impl_FloatBits.f
 by_cases hx : x = 9221120237041090560
 · rw [ifT (by rw [c1]; exact decide_eq_true hx), hx]; rfl
 · rw [ifF (by rw [c1]; exact decide_eq_false hx), if_pos (by rw [c4]; exact decide_eq_false hx)]
end Go.Proofs.YtcgbhldenkeplaaGreat
set_option linter.unusedVariables false
set_option linter.unusedSimpArgs false
set_option linter.unusedSectionVars false
namespace Go.Proofs.YtcgbhldenkeplaaGreat
open Go V Ieee
theorem far_quob {a u : Nat} (h : IsV a false (u * pw 52)) (hu : Rep u) : IsV (far .quo a 4841369599423283200) false u := by
 obtain ⟨w', hw, hv⟩ := div_pow (j := 52) c_big h hu
 have : far .quo a 4841369599423283200 = w' := by show (D.div a _).getD _ = _; rw [hw]; rfl
 rwa [this]
theorem far_add1 {a v : Nat} (h : IsV a false v) (hv : Rep (U1 + v)) : IsV (far .add a 4607182418800017408) false (U1 + v) := by
 obtain ⟨w', hw, hv⟩ := add_one h hv
 have : far .add a 4607182418800017408 = w' := by show (D.add a _).getD _ = _; rw [hw]; rfl
 rwa [this]
theorem fo_dn (M : Nat) (hM : M < 9007199254740992) : ∀ (n c a : Nat), c + n ≤ 2045 → IsV a false (M * pw (c + n)) → ∃ a', iter spec_FloatOf.b1 (a, -(n : Int)) = some (Sum.inl a') ∧ IsV a' false (M * pw c) := by
 intro n
 induction n with
 | zero =>
  intro c a hc hv
  refine ⟨a, iter_r ?_, hv⟩
  unfold spec_FloatOf.b1
  rw [if_neg (by simp)]; rfl
 | succ n ih =>
  intro c a hc hv
  have hv2 : IsV a false (M * pw (c + n) * 2) := by rw [Nat.mul_assoc, ← pw_succ]; exact hv
  obtain ⟨a', ha, hav⟩ := ih c _ (by omega) (far_half hv2 (rep_of hM _ (by omega)))
  refine ⟨a', ?_, hav⟩
  have hstep : spec_FloatOf.b1 (a, -((n + 1 : Nat) : Int)) = some (.inl (far .quo a 4611686018427387904, -(n : Int))) := by
   unfold spec_FloatOf.b1
   rw [if_pos (decide_eq_true (by show -((n + 1 : Nat) : Int) < 0; omega)), w64 (by omega) (by omega), show -((n + 1 : Nat) : Int) + 1 = -(n : Int) by omega]
  rw [iter_l hstep, ha]
theorem fo_0 (a : Nat) (k : Int) (h : k ≤ 0) : iter spec_FloatOf.b0 (a, k) = iter spec_FloatOf.b1 (a, k) := by
 refine iter_pass ?_
 unfold spec_FloatOf.b0
 rw [if_neg (by simp; omega)]
theorem fo_up (M : Nat) (hM : M < 9007199254740992) : ∀ (n e a : Nat), e + n ≤ 2045 → IsV a false (M * pw e) → ∃ a', iter spec_FloatOf.b0 (a, (n : Int)) = some (Sum.inl a') ∧ IsV a' false (M * pw (e + n)) := by
 intro n
 induction n with
 | zero =>
  intro e a he hv
  rw [fo_0 _ _ (by omega)]
  exact fo_dn M hM 0 e a (by omega) hv
 | succ n ih =>
  intro e a he hv
  have hd := far_dbl hv (by rw [Nat.mul_assoc, ← pw_succ]; exact rep_of hM _ (by omega))
  rw [Nat.mul_assoc, ← pw_succ] at hd
  obtain ⟨a', ha, hav⟩ := ih (e + 1) _ (by omega) hd
  refine ⟨a', ?_, by rw [show e + (n + 1) = e + 1 + n by omega]; exact hav⟩
  have hstep : spec_FloatOf.b0 (a, ((n + 1 : Nat) : Int)) = some (.inl (far .mul a 4611686018427387904, (n : Int))) := by
   unfold spec_FloatOf.b0
   rw [if_pos (decide_eq_true (by show ((n + 1 : Nat) : Int) > 0; omega)), w64 (by omega) (by omega), show ((n + 1 : Nat) : Int) - 1 = (n : Int) by omega]
  rw [iter_l hstep, ha]
theorem efield (n : Nat) (h : n < 18446744073709551616) : IntKind.wrap .i64 (iand .u64 (ishr .u64 (n : Int) (52 : Int)) (2047 : Int)) = ((n / 4503599627370496 % 2048 : Nat) : Int) := by
 have h1 : ishr .u64 (n : Int) (52 : Int) = ((n / 4503599627370496 : Nat) : Int) := ishr_nat .u64 n 52 (by decide)
 have h2 : iand .u64 ((n / 4503599627370496 : Nat) : Int) (2047 : Int) = (((n / 4503599627370496) &&& 2047 : Nat) : Int) := iand_u64 _ 2047 (by omega) (by omega)
 have h3 : (n / 4503599627370496) &&& 2047 = n / 4503599627370496 % 2048 := Nat.and_two_pow_sub_one_eq_mod _ 11
 rw [h1, h2, h3, w64 (by omega) (by omega)]
theorem ffield (n : Nat) (h : n < 18446744073709551616) : iand .u64 (n : Int) (4503599627370495 : Int) = ((n % 4503599627370496 : Nat) : Int) := by
 have h2 : iand .u64 (n : Int) (4503599627370495 : Int) = ((n &&& 4503599627370495 : Nat) : Int) := iand_u64 _ 4503599627370495 h (by omega)
 have h3 : n &&& 4503599627370495 = n % 4503599627370496 := Nat.and_two_pow_sub_one_eq_mod _ 52
 rw [h2, h3]
theorem fneg_wd (r : Nat) (h : r ≤ 9218868437227405312) : fneg r = 9223372036854775808 + r := by
 have hn : isN r = false := by unfold isN; rw [decide_eq_false (by omega)]
 unfold fneg
 rw [hn, cond_false]
 show r ^^^ 2 ^ 63 = _
 have := xor_sign r (by omega)
 have h2 : (9223372036854775808 + r) ^^^ 2 ^ 63 = r := this
 have h3 : ((9223372036854775808 + r) ^^^ 2 ^ 63) ^^^ 2 ^ 63 = r ^^^ 2 ^ 63 := by rw [h2]
 rw [Nat.xor_assoc, Nat.xor_self, Nat.xor_zero] at h3
 exact h3.symm
theorem fo_sign (n r : Nat) (hn : n = n / 9223372036854775808 * 9223372036854775808 + r) (h2 : n / 9223372036854775808 ≤ 1) (h : r ≤ 9218868437227405312) :
    (if ((ishr .u64 (n : Int) (63 : Int)) == (1 : Int)) = true then (some (fneg r)) else (some r)) = some (cn n) := by
  have hc : cn n = n := by
    refine cn_of ?_
    unfold isN
    rw [decide_eq_false (by omega)]
  rw [hc]
  by_cases h1 : n / 9223372036854775808 = 1
  · rw [ifT (by rw [ishr63]; exact decide_eq_true h1), fneg_wd r h, show 9223372036854775808 + r = n by omega]
  · rw [ifF (by rw [ishr63]; exact decide_eq_false h1), show r = n by omega]
theorem spec_FloatOf (n : Nat) (h : n < 18446744073709551616) : spec_FloatOf.f (n : Int) = some (cn n) := by
 unfold spec_FloatOf.f
 rw [efield n h, ffield n h]
 have hE : n / 4503599627370496 % 2048 < 2048 := Nat.mod_lt _ (by decide)
 have hF : n % 4503599627370496 < 4503599627370496 := Nat.mod_lt _ (by decide)
 have hn : n = n / 9223372036854775808 * 9223372036854775808 + (n / 4503599627370496 % 2048 * 4503599627370496 + n % 4503599627370496) := by omega
 have h2 : n / 9223372036854775808 ≤ 1 := by omega
 have hfs := fo_sign n
 generalize hEe : n / 4503599627370496 % 2048 = E at *
 generalize hFf : n % 4503599627370496 = f at *
 by_cases hinf : E = 2047
 · rw [ifT (by simp; omega)]
   by_cases hf : f = 0
   · rw [ifF (by simp; omega)]
     have e : far .quo 4607182418800017408 0 = 9218868437227405312 := by decide
     have hA := hfs 9218868437227405312 (by omega) h2 (by omega)
     rw [Option.bind_some, sel_inl, e]
     exact hA
   · rw [ifT (by simp; omega)]
     have e : far .quo 0 0 = 9221120237041090560 := by decide
     rw [Option.bind_some, sel_inr, e]
     rw [cn_nan (by unfold isN; rw [decide_eq_true (by omega)])]
     rfl
 · rw [ifF (by simp; omega)]
   have hq : IsV (far .quo (FloatKind.f64.nearest (f : Int)) 4841369599423283200) false (f * pw 1022) := by
    refine far_quob ?_ (rep_of (by omega) _ (by omega))
    rw [Nat.mul_assoc, ← pw_add]
    exact near_v f (by omega)
   by_cases h0 : E = 0
   · have hA := hfs f (by omega) h2 (by omega)
     have hB : 0 * 4503599627370496 + f = f := by omega
     rw [ifT (by simp; omega), Option.bind_some, fo_0 _ _ (by show (-1022 : Int) ≤ 0; decide)]
     obtain ⟨a', ha, hav⟩ := fo_dn f (by omega) 1022 0 _ (by omega) hq
     have hk : (-1022 : Int) = -((1022 : Nat) : Int) := by decide
     rw [hk, ha, Option.bind_some, sel_inl]
     have := hav.eq (wd_v (e := 0) (by omega) (.inl rfl) (by omega))
     rw [this, wd_eq, hB]
     exact hA
   · have hA := hfs (E * 4503599627370496 + f) (by omega) h2 (by omega)
     have hB : (E - 1) * 4503599627370496 + (4503599627370496 + f) = E * 4503599627370496 + f := by omega
     rw [ifF (by simp; omega), Option.bind_some, w64 (by omega) (by omega)]
     have hsum : U1 + f * pw 1022 = (4503599627370496 + f) * pw 1022 := by rw [U1_eq, Nat.add_mul]
     have hM : 4503599627370496 + f < 9007199254740992 := by omega
     have ha1 := far_add1 hq (by rw [hsum]; exact rep_of hM _ (by omega))
     rw [hsum] at ha1
     have key : ∃ a', iter spec_FloatOf.b0 (far .add (far .quo (FloatKind.f64.nearest (f : Int)) 4841369599423283200) 4607182418800017408, (E : Int) - 1023) = some (Sum.inl a') ∧ IsV a' false ((4503599627370496 + f) * pw (E - 1)) := by
      by_cases hk : 1023 ≤ E
      · obtain ⟨a', ha, hav⟩ := fo_up _ hM (E - 1023) 1022 _ (by omega) ha1
        refine ⟨a', ?_, by rw [show E - 1 = 1022 + (E - 1023) by omega]; exact hav⟩
        rw [show (E : Int) - 1023 = ((E - 1023 : Nat) : Int) by omega]; exact ha
      · obtain ⟨a', ha, hav⟩ := fo_dn _ hM (1023 - E) (E - 1) _ (by omega) (by rw [show E - 1 + (1023 - E) = 1022 by omega]; exact ha1)
        refine ⟨a', ?_, hav⟩
        rw [fo_0 _ _ (by omega), show (E : Int) - 1023 = -((1023 - E : Nat) : Int) by omega]; exact ha
     obtain ⟨a', ha, hav⟩ := key
     rw [ha, Option.bind_some, sel_inl]
     have := hav.eq (wd_v hM (.inr (by omega)) (by omega))
     rw [this, wd_eq, hB]
     exact hA
theorem impl_FloatOf (n : Nat) : impl_FloatOf.f (n : Int) = some (cn n) := rfl
end Go.Proofs.YtcgbhldenkeplaaGreat
set_option linter.unusedVariables false
set_option linter.unusedSimpArgs false
set_option linter.unusedSectionVars false
namespace Go.Proofs.YtcgbhldenkeplaaGreat
open Go V Ieee
def highP (n k : Nat) : List Int := (List.range k).map fun j : Nat => ((n / 2 ^ (56 - 8 * j) % 256 : Nat) : Int)
def highB (n : Nat) : List Int := highP n 8
theorem highP_succ (n k : Nat) : highP n (k + 1) = highP n k ++ [((n / 2 ^ (56 - 8 * k) % 256 : Nat) : Int)] := by simp [highP, List.range_succ]
theorem highP_len (n k : Nat) : (highP n k).length = k := by simp [highP]
theorem highB_u8 (n : Nat) : ∀ x ∈ highB n, InK .u8 x := by
 intro x hx
 simp only [highB, highP, List.mem_map] at hx
 obtain ⟨j, _, rfl⟩ := hx
 have := Nat.mod_lt (n / 2 ^ (56 - 8 * j)) (show 256 > 0 by omega)
 exact u8_ok (by omega) (by omega)
theorem wrap8 (q : Nat) : IntKind.wrap .u8 ((q : Nat) : Int) = ((q % 256 : Nat) : Int) := by rw [IntKind.wrap_u8]; omega
theorem impl_highFirst (n : Nat) : impl_highFirst.f (n : Int) = some (highB n) := by
 unfold impl_highFirst.f
 have hst : (([] : List Int), (56 : Int)) = (highP n 0, (56 : Int) - 8 * ((0 : Nat) : Int)) := rfl
 rw [hst]
 refine iter_for 8 (fun k => (highP n k, (56 : Int) - 8 * (k : Int))) _ (fun k hk => ?_) ?_
 · unfold impl_highFirst.b0
   simp only []
   have e1 : (56 : Int) - 8 * (k : Int) = ((56 - 8 * k : Nat) : Int) := by omega
   rw [if_pos (by simp; omega), if_pos (by omega), if_pos (by rw [highP_len]; simp [Lim]; omega), e1, ishr_nat .u64 n _ (by show 56 - 8 * k ≤ 64; omega), wrap8, highP_succ, w64 (by omega) (by omega)]
   rw [show ((56 - 8 * k : Nat) : Int) - 8 = (56 : Int) - 8 * ((k + 1 : Nat) : Int) by omega]
 · unfold impl_highFirst.b0
   simp only []
   rw [if_neg (by simp)]; rfl
theorem spec_l3high (n : Nat) (h : n < 18446744073709551616) : spec_l3high.f (n : Int) = some (highB n) := by
 unfold spec_l3high.f
 have hst : (([] : List Int), (7 : Int)) = (highP n 0, (7 : Int) - ((0 : Nat) : Int)) := rfl
 rw [hst]
 refine iter_for 8 (fun k => (highP n k, (7 : Int) - (k : Int))) _ (fun k hk => ?_) ?_
 · unfold spec_l3high.b0
   simp only []
   have e1 : IntKind.wrap .u64 (IntKind.wrap .i64 ((8 : Int) * ((7 : Int) - (k : Int)))) = ((56 - 8 * k : Nat) : Int) := by
    rw [w64 (by omega) (by omega), show (8 : Int) * ((7 : Int) - (k : Int)) = ((56 - 8 * k : Nat) : Int) by omega, wu64 _ (by omega)]
   have h2 : iand .u64 ((n / 2 ^ (56 - 8 * k) : Nat) : Int) (255 : Int) = (((n / 2 ^ (56 - 8 * k)) &&& 255 : Nat) : Int) := iand_u64 _ 255 (Nat.lt_of_le_of_lt (Nat.div_le_self _ _) h) (by omega)
   have h3 : (n / 2 ^ (56 - 8 * k)) &&& 255 = n / 2 ^ (56 - 8 * k) % 256 := Nat.and_two_pow_sub_one_eq_mod _ 8
   rw [e1, if_pos (by simp; omega), if_pos (by omega), if_pos (by rw [highP_len]; simp [Lim]; omega), ishr_nat .u64 n _ (by show 56 - 8 * k ≤ 64; omega), h2, h3, wrap8, Nat.mod_mod, highP_succ, w64 (by omega) (by omega)]
   rw [show (7 : Int) - (k : Int) - 1 = (7 : Int) - ((k + 1 : Nat) : Int) by omega]
 · unfold spec_l3high.b0
   simp only []
   rw [if_neg (by simp)]; rfl
end Go.Proofs.YtcgbhldenkeplaaGreat
set_option linter.unusedVariables false
set_option linter.unusedSimpArgs false
set_option linter.unusedSectionVars false
namespace Go.Proofs.YtcgbhldenkeplaaGreat
open Go V Ieee
theorem within_rin (a b c : Int) : impl_within.f a b c = some (rin a b c) := rfl
def IOK (a : Item) : Bool := ((rin a.Kind 0 3 && ((a.N == (0 : Int)) || (a.Kind == (1 : Int)))) && (((a.F : Int) == 0) || (a.Kind == (2 : Int)))) && (((a.T.length : Int) == (0 : Int)) || ((a.Kind == (3 : Int)) && (decide ((a.T.length : Int) ≤ (40 : Int)))))
theorem impl_ItemOk (a : Item) : impl_ItemOk.f a = some (IOK a) := by
 unfold impl_ItemOk.f
 rw [within_rin, Option.bind_some]; rfl
theorem iok_iff (a : Item) : IOK a = true ↔ ((0 ≤ a.Kind ∧ a.Kind ≤ 3) ∧ (a.N = 0 ∨ a.Kind = 1)) ∧ (a.F = 0 ∨ a.Kind = 2) ∧ (a.T.length = 0 ∨ a.Kind = 3 ∧ a.T.length ≤ 40) := by
 simp only [IOK, rin, Bool.and_eq_true, Bool.or_eq_true, decide_eq_true_eq, beq_iff_eq]
 constructor
 · rintro ⟨⟨⟨h1, h2⟩, h3⟩, h4⟩; exact ⟨⟨h1, h2⟩, by omega, by omega⟩
 · rintro ⟨⟨h1, h2⟩, h3, h4⟩; exact ⟨⟨⟨h1, h2⟩, by omega⟩, by omega⟩
theorem spec_ItemOk (a : Item) (h : okF a.F) : spec_ItemOk.f a = some (IOK a) := by
  unfold spec_ItemOk.f
  rw [spec_FloatBits a.F h]
  obtain ⟨k, n, f, t⟩ := a
  have hi := iok_iff ⟨k, n, f, t⟩
  simp only at hi ⊢
  generalize t.length = l at hi ⊢
  by_cases c1 : (((decide (k < (0 : Int))) || (decide (k > (3 : Int)))) || (decide ((l : Int) > (40 : Int)))) = true
  · rw [if_pos c1]
    have : IOK ⟨k, n, f, t⟩ = false := by
      cases hh : IOK ⟨k, n, f, t⟩ with
      | false => rfl
      | true =>
        have := hi.1 hh
        simp only [Bool.or_eq_true, decide_eq_true_eq] at c1
        omega
    rw [this]
  · rw [if_neg c1]
    simp only [Bool.or_eq_true, decide_eq_true_eq, not_or] at c1
    by_cases c2 : ((k != (1 : Int)) && (n != (0 : Int))) = true
    · rw [if_pos c2]
      have : IOK ⟨k, n, f, t⟩ = false := by
        cases hh : IOK ⟨k, n, f, t⟩ with
        | false => rfl
        | true =>
          have := hi.1 hh
          simp only [Bool.and_eq_true, bne_iff_ne, ne_eq] at c2
          omega
      rw [this]
    · rw [if_neg c2]
      simp only [Bool.and_eq_true, bne_iff_ne, ne_eq, not_and, Decidable.not_not] at c2
      by_cases c3 : k = 2
      · rw [if_neg (by simp [c3])]
        simp only [Option.bind_some, Bool.false_eq_true, if_false]
        congr 1
        have e : ((k == (3 : Int)) || ((l : Int) == (0 : Int))) = decide (k = 3 ∨ l = 0) := by
          by_cases q : k = 3 <;> by_cases q2 : l = 0 <;> simp [q, q2]
        rw [e]
        cases hh : IOK ⟨k, n, f, t⟩ with
        | true => exact decide_eq_true (by have := hi.1 hh; omega)
        | false => exact decide_eq_false (fun hc => by
            have : IOK ⟨k, n, f, t⟩ = true := hi.2 (by omega)
            rw [hh] at this; cases this)
      · rw [if_pos (by simp [c3])]
        simp only [Option.bind_some]
        by_cases c4 : f = 0
        · rw [if_neg (by simp [c4])]
          congr 1
          have e : ((k == (3 : Int)) || ((l : Int) == (0 : Int))) = decide (k = 3 ∨ l = 0) := by
            by_cases q : k = 3 <;> by_cases q2 : l = 0 <;> simp [q, q2]
          rw [e]
          cases hh : IOK ⟨k, n, f, t⟩ with
          | true => exact decide_eq_true (by have := hi.1 hh; omega)
          | false => exact decide_eq_false (fun hc => by
              have : IOK ⟨k, n, f, t⟩ = true := hi.2 (by omega)
              rw [hh] at this; cases this)
        · rw [if_pos (by simp; exact c4)]
          have : IOK ⟨k, n, f, t⟩ = false := by
            cases hh : IOK ⟨k, n, f, t⟩ with
            | false => rfl
            | true =>
              have := hi.1 hh
              omega
          rw [this]
def KOK (a : Item) : Bool := (IOK a && (a.Kind != (0 : Int))) && decide (a.F ≠ 9223372036854775808)
theorem impl_KeyOk (a : Item) (h : okF a.F) : impl_KeyOk.f a = some (KOK a) := by
 unfold impl_KeyOk.f KOK
 rw [impl_ItemOk, Option.bind_some]
 obtain ⟨_, c2, _, _⟩ := cmp_facts a.F h
 have e : ((fcmp .f64 a.F 0 != some .eq) || ((a.F : Int) == 0)) = decide (a.F ≠ 9223372036854775808) := by
  have hb : (fcmp .f64 a.F 0 != some .eq) = !(fcmp .f64 a.F 0 == some .eq) := rfl
  rw [hb, c2]
  generalize a.F = q
  by_cases h0 : q = 0
  · subst h0; rfl
  · by_cases h1 : q = 9223372036854775808
    · subst h1; rfl
    · rw [decide_eq_false (by omega), decide_eq_true h1]; rfl
 rw [e]
theorem spec_KeyOk (a : Item) (h : okF a.F) : spec_KeyOk.f a = some (KOK a) := by
 unfold spec_KeyOk.f KOK
 rw [spec_ItemOk a h, Option.bind_some]
 obtain ⟨_, c2, _, _⟩ := cmp_facts a.F h
 cases hc : (IOK a && (a.Kind != (0 : Int))) with
 | false => rfl
 | true =>
  rw [if_pos rfl, c2, spec_FloatBits a.F h]
  generalize a.F = q
  by_cases h0 : q = 0
  · subst h0; rfl
  · by_cases h1 : q = 9223372036854775808
    · subst h1; rfl
    · rw [decide_eq_false (by omega), decide_eq_true h1]; rfl
theorem iok_T {a : Item} (h : IOK a = true) : a.T.length ≤ 40 := by have := (iok_iff a).1 h; omega
theorem kok_iok {a : Item} (h : KOK a = true) : IOK a = true := by
 simp only [KOK, Bool.and_eq_true] at h; exact h.1.1
end Go.Proofs.YtcgbhldenkeplaaGreat
set_option linter.unusedVariables false
set_option linter.unusedSimpArgs false
set_option linter.unusedSectionVars false
namespace Go.Proofs.YtcgbhldenkeplaaGreat
open Go V Ieee
theorem impl_FloatRank (x : Nat) (h : okF x) : impl_FloatRank.f x = some (FRK x : Int) := by
 obtain ⟨c1, c2, c3, c4⟩ := cmp_facts x h
 unfold impl_FloatRank.f FRK
 by_cases hx : x = 9221120237041090560
 · rw [ifT (by rw [c1]; exact decide_eq_true hx), if_pos hx]; rfl
 · rw [ifF (by rw [c1]; exact decide_eq_false hx), if_neg hx]
   by_cases h0 : x = 0 ∨ x = 9223372036854775808
   · rw [ifT (by rw [c2]; exact decide_eq_true h0), if_pos h0]; rfl
   · rw [ifF (by rw [c2]; exact decide_eq_false h0), if_neg h0]
     have hn : isN x = false := by rw [c4]; exact decide_eq_false hx
     have hl := h.2
     by_cases hs : 9223372036854775808 ≤ x
     · rw [ifF (by rw [c3 hx]; exact decide_eq_false (by omega)), if_pos hn, if_pos hs, max_u64, ixor_u64 _ _ (by omega) hl]
     · rw [ifT (by rw [c3 hx]; exact decide_eq_true (by omega)), if_pos hn, if_neg hs]
       exact congrArg some (ior_u64 x 9223372036854775808 hl (by omega))
theorem spec_FloatRank (x : Nat) (h : okF x) : spec_FloatRank.f x = some (FRK x : Int) := by
 obtain ⟨c1, c2, c3, c4⟩ := cmp_facts x h
 unfold spec_FloatRank.f FRK
 rw [spec_FloatBits x h, Option.bind_some]
 have hl := h.2
 by_cases hx : x = 9221120237041090560
 · rw [ifT (by rw [hx]; rfl), if_pos hx]; rfl
 · rw [ifF (by simp; omega), if_neg hx]
   by_cases h0 : x = 0 ∨ x = 9223372036854775808
   · rw [ifT (by rw [c2]; exact decide_eq_true h0), if_pos h0]; rfl
   · rw [ifF (by rw [c2]; exact decide_eq_false h0), if_neg h0]
     by_cases hs : 9223372036854775808 ≤ x
     · rw [ifT (by rw [ishr63]; exact decide_eq_true (by omega)), if_pos hs, max_u64, ixor_u64 _ _ (by omega) hl]
     · rw [ifF (by rw [ishr63]; exact decide_eq_false (by omega)), if_neg hs]
       exact congrArg some (ior_u64 x 9223372036854775808 hl (by omega))
end Go.Proofs.YtcgbhldenkeplaaGreat
set_option linter.unusedVariables false
set_option linter.unusedSimpArgs false
set_option linter.unusedSectionVars false
namespace Go.Proofs.YtcgbhldenkeplaaGreat
open Go V
theorem str_list (xs : List Int) : (str xs).toList = xs.map fun n => UInt8.ofNat n.toNat := by
 have key : ∀ (xs : List Int) (b : ByteArray), (xs.foldl (fun r n => r.push (UInt8.ofNat n.toNat)) b).data.toList = b.data.toList ++ xs.map fun n => UInt8.ofNat n.toNat := by
  intro xs
  induction xs with
  | nil => intro b; simp
  | cons x xs ih => intro b; rw [List.foldl_cons, ih]; simp [ByteArray.push]
 have := key xs ByteArray.empty
 rw [show (ByteArray.empty).data.toList = [] from rfl, List.nil_append] at this
 rw [← this]
 unfold str
 exact ByteArray.toList_eq _
theorem str_eq (a b : List Int) (ha : ∀ x ∈ a, InK .u8 x) (hb : ∀ x ∈ b, InK .u8 x) : ((str a).toList == (str b).toList) = decide (a = b) := by
  rw [str_list, str_list]
  by_cases h : a = b
  · subst h; simp
  · have hne : (a.map fun n => UInt8.ofNat n.toNat) ≠ (b.map fun n => UInt8.ofNat n.toNat) := by
      intro hm
      apply h
      have hlen : a.length = b.length := by simpa using congrArg List.length hm
      apply List.ext_getElem hlen
      intro i h1 h2
      have := congrArg (fun l => l[i]?) hm
      simp only [List.getElem?_map, List.getElem?_eq_getElem h1, List.getElem?_eq_getElem h2, Option.map_some, Option.some.injEq] at this
      have e1 := u8n (ha a[i] (List.getElem_mem h1))
      have e2 := u8n (hb b[i] (List.getElem_mem h2))
      have := congrArg UInt8.toNat this
      simp only [UInt8.toNat_ofNat'] at this
      omega
    simp only [h, decide_false]
    exact beq_eq_false_iff_ne.2 hne
end Go.Proofs.YtcgbhldenkeplaaGreat
set_option linter.unusedVariables false
set_option linter.unusedSimpArgs false
namespace Go.Proofs.YtcgbhldenkeplaaGreat
open Go V
def le (n k : Nat) : List Int := (List.range k).map fun j : Nat => ((n / 256 ^ j % 256 : Nat) : Int)
theorem le_succ (n k : Nat) : le n (k + 1) = le n k ++ [((n / 256 ^ k % 256 : Nat) : Int)] := by simp [le, List.range_succ]
theorem le_len (n k : Nat) : (le n k).length = k := by simp [le]
def PN (n k : Int) : List Int := if 1 ≤ k ∧ k ≤ 8 ∧ 0 ≤ n ∧ n.toNat / 256 ^ k.toNat = 0 then le n.toNat k.toNat else []
theorem div_step (n k : Nat) : n / 256 ^ k / 256 = n / 256 ^ (k + 1) := by rw [Nat.div_div_eq_div_mul, Nat.pow_succ]
theorem div_le (n k : Nat) : n / 256 ^ k ≤ n := Nat.div_le_self _ _
theorem div_i64 (n j : Nat) (h : (n : Int) ≤ 9223372036854775807) : -9223372036854775808 ≤ ((n / 256 ^ j : Nat) : Int) ∧ ((n / 256 ^ j : Nat) : Int) ≤ 9223372036854775807 := by
 have := div_le n j
 generalize n / 256 ^ j = q at *
 omega
theorem pos_nat (q : Nat) : decide ((q : Int) > 0) = !(decide (q = 0)) := by
 by_cases h : q = 0
 · simp [h]
 · have : (q : Int) > 0 := by omega
   simp only [this, h, decide_true, decide_false, Bool.not_false]
theorem ne_nat (q : Nat) : ((q : Int) != 0) = !(decide (q = 0)) := by
 by_cases h : q = 0
 · simp [h]
 · have : (q : Int) ≠ 0 := by omega
   simp [h, this]
theorem spec_PutNum (n k : Int) (hn : InK .i64 n) : spec_PutNum.f n k = some (PN n k) := by
 have hn' := i64_of hn
 unfold spec_PutNum.f PN
 by_cases hg : 1 ≤ k ∧ k ≤ 8 ∧ 0 ≤ n
 · obtain ⟨h1, h2, h3⟩ := hg
   rw [if_neg (by simp; omega)]
   obtain ⟨n, rfl⟩ := Int.eq_ofNat_of_zero_le h3
   obtain ⟨k, rfl⟩ := Int.eq_ofNat_of_zero_le (show 0 ≤ k by omega)
   simp only [Int.toNat_natCast]
   have hst : ((n : Int), ([] : List Int), (0 : Int)) = (((n / 256 ^ 0 : Nat) : Int), le n 0, ((0 : Nat) : Int)) := by simp [le]
   rw [hst]
   refine iter_for k (fun j => (((n / 256 ^ j : Nat) : Int), le n j, (j : Int))) _ (fun j hj => ?_) ?_
   · unfold spec_PutNum.b0
     have hd := div_le n j
     simp only []
     rw [if_pos (by simp; omega), if_pos (by rw [le_len]; simp [Lim]; omega)]
     have e1 : Int.tmod ((n / 256 ^ j : Nat) : Int) 256 = ((n / 256 ^ j % 256 : Nat) : Int) := rfl
     have e2 : Int.tdiv ((n / 256 ^ j : Nat) : Int) 256 = ((n / 256 ^ (j + 1) : Nat) : Int) := by rw [← div_step]; rfl
     have e3 : IntKind.wrap .u8 ((n / 256 ^ j % 256 : Nat) : Int) = ((n / 256 ^ j % 256 : Nat) : Int) := by rw [IntKind.wrap_u8]; omega
     have hd2 := div_le n (j + 1)
     have hb := div_i64 n (j + 1) (by omega)
     rw [e1, e2, e3, w64 hb.1 hb.2, w64 (by omega) (by omega), le_succ]
     rfl
   · unfold spec_PutNum.b0
     simp only []
     rw [if_neg (by simp)]
     by_cases hz : n / 256 ^ k = 0
     · rw [pos_nat, if_neg (by simp [hz]), if_pos ⟨by omega, by omega, by omega, hz⟩]; rfl
     · rw [pos_nat, if_pos (by simp [hz]), if_neg (fun h => hz h.2.2.2)]; rfl
 · rw [if_pos (by simp; omega), if_neg (fun h => hg ⟨h.1, h.2.1, h.2.2.1⟩)]
theorem impl_PutNum (n k : Int) (hn : InK .i64 n) (hk : InK .i64 k) : impl_PutNum.f n k = some (PN n k) := by
 have hn' := i64_of hn
 have hk' := i64_of hk
 unfold impl_PutNum.f impl_within.f
 simp only [Option.bind_some]
 by_cases hg : 1 ≤ k ∧ k ≤ 8 ∧ 0 ≤ n
 · obtain ⟨h1, h2, h3⟩ := hg
   have hc : ((!(decide ((1 : Int) ≤ k) && decide (k ≤ 8))) || decide (n < 0)) = false := by simp; omega
   rw [hc, if_neg (by decide)]
   obtain ⟨n, rfl⟩ := Int.eq_ofNat_of_zero_le h3
   obtain ⟨k, rfl⟩ := Int.eq_ofNat_of_zero_le (show 0 ≤ k by omega)
   have hloop : iter (impl_PutNum.b0 (k : Int)) ((n : Int), ([] : List Int), (0 : Int)) = some (le n k) := by
    have hst : ((n : Int), ([] : List Int), (0 : Int)) = (((n / 256 ^ 0 : Nat) : Int), le n 0, ((0 : Nat) : Int)) := by simp [le]
    rw [hst]
    refine iter_for k (fun j => (((n / 256 ^ j : Nat) : Int), le n j, (j : Int))) _ (fun j hj => ?_) ?_
    · unfold impl_PutNum.b0
      simp only []
      rw [if_pos (by simp; omega), if_pos (by rw [le_len]; simp [Lim]; omega)]
      have e2 : ishr .i64 ((n / 256 ^ j : Nat) : Int) 8 = ((n / 256 ^ (j + 1) : Nat) : Int) := by
       rw [show (8 : Int) = ((8 : Nat) : Int) from rfl, ishr_nat _ _ _ (by decide), ← div_step]
      have e3 : IntKind.wrap .u8 ((n / 256 ^ j : Nat) : Int) = ((n / 256 ^ j % 256 : Nat) : Int) := by rw [IntKind.wrap_u8]; omega
      rw [e2, e3, w64 (by omega) (by omega), le_succ]
      rfl
    · unfold impl_PutNum.b0
      simp only []
      rw [if_neg (by simp)]; rfl
   have hm : IntKind.wrap .i64 (8 * (k : Int)) = ((8 * k : Nat) : Int) := by rw [w64 (by omega) (by omega)]; omega
   rw [hm, ishr_nat _ _ _ (by show 8 * k ≤ 64; omega)]
   have hp : 2 ^ (8 * k) = 256 ^ k := by rw [Nat.pow_mul]
   rw [hp, hloop]
   have hP : PN (n : Int) (k : Int) = if n / 256 ^ k = 0 then le n k else [] := by
    unfold PN
    simp only [Int.toNat_natCast]
    by_cases hz : n / 256 ^ k = 0
    · rw [if_pos ⟨by omega, by omega, by omega, hz⟩, if_pos hz]
    · rw [if_neg (fun h => hz h.2.2.2), if_neg hz]
   rw [hP, ne_nat]
   by_cases h8 : k < 8
   · rw [if_pos (by simpa using (show (k : Int) < 8 by omega)), if_pos (by omega)]
     by_cases hz : n / 256 ^ k = 0 <;> simp [hz]
   · obtain rfl : k = 8 := by omega
     have hz : n / 256 ^ 8 = 0 := Nat.div_eq_of_lt (by omega)
     rw [if_neg (by decide), if_pos hz]; rfl
 · have hc : ((!(decide ((1 : Int) ≤ k) && decide (k ≤ 8))) || decide (n < 0)) = true := by simp; omega
   rw [hc, if_pos rfl]
   unfold PN
   rw [if_neg (fun h => hg ⟨h.1, h.2.1, h.2.2.1⟩)]; rfl
theorem grow_nil (n : Int) (h0 : 0 ≤ n) (h1 : n ≤ 1000000000) : slices_Grow_byte_byte_nil.f n = some [] := by
 unfold slices_Grow_byte_byte_nil.f
 have e : IntKind.wrap .i64 (n - IntKind.wrap .i64 ((0 : Int) - (([] : List Int).length : Int))) = n := by
  rw [List.length_nil, w64 (n := (0 : Int) - ((0 : Nat) : Int)) (by omega) (by omega)]
  rw [w64 (by omega) (by omega)]; omega
 rw [e, if_neg (by simp; omega)]
 by_cases hp : n > 0
 · rw [if_pos (by simpa using hp), if_pos (by simp [Lim]; omega), if_pos (by simp; omega)]
   simp
 · rw [if_neg (by simpa using hp)]; rfl
theorem flat_le {α : Type} (xs : List (List α)) (k : Nat) : (xs.take k).flatten.length ≤ xs.flatten.length := by
 conv => rhs; rw [← List.take_append_drop k xs, List.flatten_append, List.length_append]
 omega
theorem flat_succ {α : Type} (xs : List (List α)) (k : Nat) (h : k < xs.length) : (xs.take (k + 1)).flatten = (xs.take k).flatten ++ xs[k] := by
 rw [List.take_succ_eq_append_getElem h, List.flatten_append]; simp
theorem concatB (xs : List (List Int)) (hl : xs.length ≤ 1000000) (ht : xs.flatten.length ≤ 1000000000) : slices_Concat_byte_byte.f xs = some xs.flatten := by
 unfold slices_Concat_byte_byte.f
 have hst : ((0 : Int), (0 : Int)) = ((((xs.take 0).flatten.length : Nat) : Int), ((0 : Nat) : Int)) := by simp
 rw [hst]
 refine iter_for xs.length (fun k => ((((xs.take k).flatten.length : Nat) : Int), (k : Int))) _ (fun k hk => ?_) ?_
 · unfold slices_Concat_byte_byte.b0
   have h1 := flat_le xs (k + 1)
   simp only []
   rw [if_pos (by simp; omega), if_pos ⟨by omega, by omega⟩, at_nat xs k hk]
   rw [flat_succ xs k hk, List.length_append] at h1 ⊢
   rw [w64 (by omega) (by omega), if_neg (by simp; omega), w64 (by omega) (by omega)]
   simp
 · unfold slices_Concat_byte_byte.b0
   simp only [List.take_length]
   rw [if_neg (by simp), grow_nil _ (by omega) (by omega)]
   simp only [Option.bind_some]
   have : iter (slices_Concat_byte_byte.b1 xs) (([] : List Int), (0 : Int)) = some xs.flatten := by
    have hst : (([] : List Int), (0 : Int)) = ((xs.take 0).flatten, ((0 : Nat) : Int)) := by simp
    rw [hst]
    refine iter_for xs.length (fun k => ((xs.take k).flatten, (k : Int))) _ (fun k hk => ?_) ?_
    · unfold slices_Concat_byte_byte.b1
      have h1 := flat_le xs (k + 1)
      simp only []
      rw [if_pos (by simp; omega), if_pos ⟨by omega, by omega⟩, at_nat xs k hk]
      rw [flat_succ xs k hk] at h1 ⊢
      rw [List.length_append] at h1
      rw [if_pos (by simp only [Lim]; omega), w64 (by omega) (by omega)]
      simp
    · unfold slices_Concat_byte_byte.b1
      simp only [List.take_length]
      rw [if_neg (by simp)]; rfl
   rw [this]; rfl
theorem pn_u8 (n k : Int) : ∀ x ∈ PN n k, InK .u8 x := by
 intro x hx
 unfold PN at hx
 split at hx
 · simp only [le, List.mem_map] at hx
   obtain ⟨j, _, rfl⟩ := hx
   have := Nat.mod_lt (n.toNat / 256 ^ j) (show 256 > 0 by omega)
   simp [InK, IntKind.min, IntKind.max, IntKind.signed, IntKind.bits]
   omega
 · cases hx
def val (l : List Int) : Nat := l.foldr (fun b acc => b.toNat + 256 * acc) 0
theorem val_cons (b : Int) (l : List Int) : val (b :: l) = b.toNat + 256 * val l := rfl
theorem val_lt (l : List Int) (h : ∀ x ∈ l, InK .u8 x) : val l < 256 ^ l.length := by
 induction l with
 | nil => simp [val]
 | cons b l ih =>
  have hb := u8_of (h b (by simp))
  have := ih fun x hx => h x (by simp [hx])
  rw [val_cons, List.length_cons, Nat.pow_succ]
  omega
theorem val_app (l : List Int) (b : Int) : val (l ++ [b]) = val l + 256 ^ l.length * b.toNat := by
 induction l with
 | nil => simp [val]
 | cons c l ih =>
  rw [List.cons_append, val_cons, val_cons, ih, List.length_cons, Nat.pow_succ, Nat.mul_add, Nat.add_assoc]
  congr 2
  rw [← Nat.mul_assoc, Nat.mul_comm 256]
def cut (x : List Int) (a k : Nat) : List Int := (x.drop a).take k
theorem cut_len (x : List Int) (a k : Nat) (h : a + k ≤ x.length) : (cut x a k).length = k := by simp [cut]; omega
theorem cut_u8 (x : List Int) (a k : Nat) (h : ∀ y ∈ x, InK .u8 y) : ∀ y ∈ cut x a k, InK .u8 y := fun y hy => h y (List.mem_of_mem_drop (List.mem_of_mem_take hy))
theorem cut_succ (x : List Int) (a k : Nat) (h : a < x.length) : cut x a (k + 1) = x[a] :: cut x (a + 1) k := by
 unfold cut
 rw [List.drop_eq_getElem_cons h, List.take_succ_cons]
def GN (x : List Int) (a k : Int) : Int × Bool :=
 if 1 ≤ k ∧ k ≤ 8 ∧ 0 ≤ a ∧ a + k ≤ (x.length : Int) then (if val (cut x a.toNat k.toNat) < 9223372036854775808 then (((val (cut x a.toNat k.toNat) : Nat) : Int), true) else (0, false)) else (0, false)
theorem pow_le8 (k : Nat) (h : k ≤ 8) : 256 ^ k ≤ 18446744073709551616 := by
 have := Nat.pow_le_pow_right (show 256 > 0 by omega) h
 simpa using this
theorem impl_GetNum (x : List Int) (a k : Int) (hx : ∀ y ∈ x, InK .u8 y) (hl : x.length ≤ 1000000000000) (ha : InK .i64 a) (hk : InK .i64 k) : impl_GetNum.f x a k = some (GN x a k) := by
 have ha' := i64_of ha
 have hk' := i64_of hk
 unfold impl_GetNum.f impl_hasBytes.f impl_within.f GN
 simp only [Option.bind_some]
 by_cases hg : 1 ≤ k ∧ k ≤ 8 ∧ 0 ≤ a ∧ a + k ≤ (x.length : Int)
 · rw [if_pos hg]
   obtain ⟨h1, h2, h3, h4⟩ := hg
   obtain ⟨a, rfl⟩ := Int.eq_ofNat_of_zero_le h3
   obtain ⟨k, rfl⟩ := Int.eq_ofNat_of_zero_le (show 0 ≤ k by omega)
   have hw : IntKind.wrap .i64 ((x.length : Int) - (a : Int)) = (x.length : Int) - (a : Int) := w64 (by omega) (by omega)
   have hc : (!(decide ((1 : Int) ≤ (k : Int)) && decide ((k : Int) ≤ 8))) = false := by simp; omega
   have hc2 : ((decide ((0 : Int) ≤ (a : Int)) && decide ((a : Int) ≤ (x.length : Int))) && decide ((k : Int) ≤ (x.length : Int) - (a : Int))) = true := by simp; omega
   simp only [hc, hw, Bool.false_eq_true, if_false, Option.bind_some]
   first
    | rw [hc2]
    | (simp only [hc2])
   simp only [Option.bind_some, Bool.not_true, Bool.false_eq_true, if_false, Int.toNat_natCast]
   have hst : ((0 : Int), IntKind.wrap .i64 ((k : Int) - 1)) = (((val (cut x (a + (k - 0)) 0) : Nat) : Int), (k : Int) - 1 - ((0 : Nat) : Int)) := by
    rw [w64 (by omega) (by omega)]; simp [cut, val]
   rw [hst]
   refine iter_for k (fun j => (((val (cut x (a + (k - j)) j) : Nat) : Int), (k : Int) - 1 - (j : Int))) _ (fun j hj => ?_) ?_
   · unfold impl_GetNum.b0
     have hi : a + (k - (j + 1)) < x.length := by omega
     have hb := u8n (hx x[a + (k - (j + 1))] (List.getElem_mem hi))
     have hv := val_lt _ (cut_u8 x (a + (k - j)) j hx)
     rw [cut_len x _ j (by omega)] at hv
     have hp := pow_le8 (j + 1) (by omega)
     rw [Nat.pow_succ] at hp
     simp only []
     have hi2 : (a : Int) + ((k : Int) - 1 - (j : Int)) = ((a + (k - (j + 1)) : Nat) : Int) := by omega
     rw [if_pos (by simp; omega), hi2, w64 (by omega) (by omega), if_pos ⟨by omega, by omega⟩, at_nat x _ hi]
     have hcs : cut x (a + (k - (j + 1))) (j + 1) = x[a + (k - (j + 1))] :: cut x (a + (k - j)) j := by
      rw [cut_succ x _ j hi]
      congr 2
      omega
     rw [hcs, val_cons]
     generalize val (cut x (a + (k - j)) j) = n at *
     generalize x[a + (k - (j + 1))] = b at *
     have e1 : ishl .u64 ((n : Nat) : Int) 8 = ((n * 256 : Nat) : Int) := by
      unfold ishl
      have : min (8 : Int).toNat IntKind.u64.bits = 8 := by decide
      rw [this, IntKind.wrap_u64]; omega
     have e2 : IntKind.wrap .u64 b = ((b.toNat : Nat) : Int) := by rw [IntKind.wrap_u64]; omega
     rw [e1, e2, ior_u64 _ _ (by omega) (by omega), or_add 8 _ _ hb.2, w64 (by omega) (by omega)]
     congr 3
     · omega
     · omega
   · unfold impl_GetNum.b0
     simp only [Nat.sub_self, Nat.add_zero]
     have hv := val_lt _ (cut_u8 x a k hx)
     rw [cut_len x _ k (by omega)] at hv
     have hp := pow_le8 k (by omega)
     generalize val (cut x a k) = n at *
     rw [if_neg (by simp; omega)]
     by_cases hn : n < 9223372036854775808
     · rw [if_neg (by simp; omega), if_pos hn, w64 (by omega) (by omega)]; rfl
     · rw [if_pos (by simp; omega), if_neg hn]; rfl
 · rw [if_neg hg]
   by_cases hk1 : 1 ≤ k ∧ k ≤ 8
   · have hc : (!(decide ((1 : Int) ≤ k) && decide (k ≤ 8))) = false := by simp; omega
     simp only [hc, Bool.false_eq_true, if_false, Option.bind_some]
     by_cases ha2 : 0 ≤ a ∧ a ≤ (x.length : Int)
     · have hw : IntKind.wrap .i64 ((x.length : Int) - a) = (x.length : Int) - a := w64 (by omega) (by omega)
       have hc2 : ((decide ((0 : Int) ≤ a) && decide (a ≤ (x.length : Int))) && decide (k ≤ (x.length : Int) - a)) = false := by simp; omega
       rw [hw]
       first
        | rw [hc2]
        | (simp only [hc2])
       rfl
     · have hc2 : (decide ((0 : Int) ≤ a) && decide (a ≤ (x.length : Int))) = false := by simp; omega
       first
        | rw [hc2]
        | (simp only [hc2])
       rfl
   · have hc : (!(decide ((1 : Int) ≤ k) && decide (k ≤ 8))) = true := by simp; omega
     simp only [hc, if_true, Option.bind_some]
theorem spec_GetNum (x : List Int) (a k : Int) (hx : ∀ y ∈ x, InK .u8 y) (hl : x.length ≤ 1000000000000) (ha : InK .i64 a) (hk : InK .i64 k) : spec_GetNum.f x a k = some (GN x a k) := by
  have ha' := i64_of ha
  have hk' := i64_of hk
  unfold spec_GetNum.f GN
  by_cases hg : 1 ≤ k ∧ k ≤ 8 ∧ 0 ≤ a ∧ a + k ≤ (x.length : Int)
  · rw [if_pos hg]
    obtain ⟨h1, h2, h3, h4⟩ := hg
    obtain ⟨a, rfl⟩ := Int.eq_ofNat_of_zero_le h3
    obtain ⟨k, rfl⟩ := Int.eq_ofNat_of_zero_le (show 0 ≤ k by omega)
    have hw : IntKind.wrap .i64 ((x.length : Int) - (a : Int)) = (x.length : Int) - (a : Int) := w64 (by omega) (by omega)
    rw [hw, if_neg (by simp; omega)]
    simp only [Int.toNat_natCast]
    have hst : ((0 : Int), IntKind.wrap .i64 ((k : Int) - 1)) = (((val (cut x (a + (k - 0)) 0) : Nat) : Int), (k : Int) - 1 - ((0 : Nat) : Int)) := by
      rw [w64 (by omega) (by omega)]; simp [cut, val]
    rw [hst]
    by_cases ht : ∃ h8 : k = 8, x[a + 7]'(by omega) > 127
    · obtain ⟨rfl, hbig⟩ := ht
      rw [iter_eq]
      have : val (cut x a 8) ≥ 9223372036854775808 := by
        have e : cut x a 8 = cut x a 7 ++ [x[a + 7]'(by omega)] := by
          unfold cut
          rw [List.take_succ_eq_append_getElem (by simp; omega)]
          simp
        rw [e, val_app, cut_len x a 7 (by omega)]
        have : 128 ≤ (x[a + 7]'(by omega)).toNat := by omega
        have := Nat.mul_le_mul_left (256 ^ 7) this
        omega
      rw [if_neg (by omega)]
      have hb : spec_GetNum.b0 x (a : Int) (((val (cut x (a + (8 - 0)) 0) : Nat) : Int), ((8 : Nat) : Int) - 1 - ((0 : Nat) : Int)) = some (.inr ((0 : Int), false)) := by
        unfold spec_GetNum.b0
        simp only []
        have hi2 : (a : Int) + (((8 : Nat) : Int) - 1 - ((0 : Nat) : Int)) = ((a + 7 : Nat) : Int) := by omega
        rw [if_pos (by simp), hi2, w64 (by omega) (by omega), if_pos ⟨by omega, by omega⟩, at_nat x _ (by omega), wrap_u8n _ (hx _ (List.getElem_mem _)), if_pos (by simp; omega)]
      rw [hb]; rfl
    · have hlow : ∀ h8 : k = 8, x[a + 7]'(by omega) ≤ 127 := fun h8 => by
        by_cases hq : x[a + 7]'(by omega) ≤ 127
        · exact hq
        · exact absurd ⟨h8, by omega⟩ ht
      have hsmall : ∀ j, j ≤ k → val (cut x (a + (k - j)) j) < 9223372036854775808 := by
        intro j hj
        have hv := val_lt _ (cut_u8 x (a + (k - j)) j hx)
        rw [cut_len x _ j (by omega)] at hv
        by_cases h7 : j ≤ 7
        · have := Nat.pow_le_pow_right (show 256 > 0 by omega) h7
          omega
        · have hk8 : k = 8 := by omega
          have hj8 : j = 8 := by omega
          subst hj8; subst hk8
          have hlow := hlow rfl
          have e : cut x (a + (8 - 8)) 8 = cut x a 7 ++ [x[a + 7]'(by omega)] := by
            unfold cut
            rw [List.take_succ_eq_append_getElem (by simp; omega)]
            simp
          have hv7 := val_lt _ (cut_u8 x a 7 hx)
          rw [cut_len x a 7 (by omega)] at hv7
          rw [e, val_app, cut_len x a 7 (by omega)]
          have : (x[a + 7]'(by omega)).toNat ≤ 127 := by omega
          have := Nat.mul_le_mul_left (256 ^ 7) this
          omega
      have hfin := hsmall k (Nat.le_refl _)
      rw [Nat.sub_self, Nat.add_zero] at hfin
      rw [if_pos hfin]
      refine iter_for k (fun j => (((val (cut x (a + (k - j)) j) : Nat) : Int), (k : Int) - 1 - (j : Int))) _ (fun j hj => ?_) ?_
      · unfold spec_GetNum.b0
        have hi : a + (k - (j + 1)) < x.length := by omega
        have hb := u8n (hx x[a + (k - (j + 1))] (List.getElem_mem hi))
        have hs1 := hsmall (j + 1) (by omega)
        simp only []
        have hi2 : (a : Int) + ((k : Int) - 1 - (j : Int)) = ((a + (k - (j + 1)) : Nat) : Int) := by omega
        have hno : ¬ ((((k : Int) - 1 - (j : Int)) == (7 : Int)) && decide (x[a + (k - (j + 1))] > 127)) = true := by
          intro h
          simp only [Bool.and_eq_true, beq_iff_eq, decide_eq_true_eq] at h
          have hk8 : k = 8 := by omega
          have hj0 : j = 0 := by omega
          subst hk8; subst hj0
          have := hlow rfl
          have h2 : x[a + 7]'(by omega) > 127 := h.2
          omega
        rw [if_pos (by simp; omega), hi2, w64 (n := ((a + (k - (j + 1)) : Nat) : Int)) (by omega) (by omega), if_pos ⟨by omega, by omega⟩, at_nat x _ hi, wrap_u8n _ (hx _ (List.getElem_mem hi)), if_neg hno]
        have hcs : cut x (a + (k - (j + 1))) (j + 1) = x[a + (k - (j + 1))] :: cut x (a + (k - j)) j := by
          rw [cut_succ x _ j hi]
          congr 2
          omega
        rw [hcs, val_cons] at hs1 ⊢
        generalize val (cut x (a + (k - j)) j) = n at *
        generalize x[a + (k - (j + 1))] = b at *
        rw [w64 (n := (n : Int) * 256) (by omega) (by omega), w64 (by omega) (by omega), w64 (by omega) (by omega)]
        congr 3
        · omega
        · omega
      · unfold spec_GetNum.b0
        simp only [Nat.sub_self, Nat.add_zero]
        rw [if_neg (by simp; omega)]; rfl
  · rw [if_neg hg]
    by_cases ha2 : 0 ≤ a ∧ a ≤ (x.length : Int)
    · have hw : IntKind.wrap .i64 ((x.length : Int) - a) = (x.length : Int) - a := w64 (by omega) (by omega)
      rw [hw, if_pos (by simp; omega)]
    · rw [if_pos (by simp; omega)]
theorem take_drop (x : List Int) (e a : Nat) : (x.take e).drop a = cut x a (e - a) := by
 unfold cut; rw [List.drop_take]
theorem gn_in (x : List Int) (a k : Nat) (hx : ∀ y ∈ x, InK .u8 y) (h1 : 1 ≤ k) (h2 : k ≤ 7) (h : a + k ≤ x.length) : GN x (a : Int) (k : Int) = (((val (cut x a k) : Nat) : Int), true) := by
 unfold GN
 rw [if_pos ⟨by omega, by omega, by omega, by omega⟩]
 simp only [Int.toNat_natCast]
 have hv := val_lt _ (cut_u8 x a k hx)
 rw [cut_len x _ k h] at hv
 have := Nat.pow_le_pow_right (show 256 > 0 by omega) h2
 rw [if_pos (by omega)]
theorem bytesEqual (a b : List Int) (ha : ∀ x ∈ a, InK .u8 x) (hb : ∀ x ∈ b, InK .u8 x) : bytes_Equal.f a b = some (decide (a = b)) := by
 unfold bytes_Equal.f
 rw [str_eq a b ha hb]
theorem cloneB (a : List Int) (h : a.length ≤ 1000000000) : slices_Clone_byte_byte.f a = some a := by
 unfold slices_Clone_byte_byte.f
 rw [if_pos (by simp [Lim]; omega)]; rfl
end Go.Proofs.YtcgbhldenkeplaaGreat
set_option linter.unusedVariables false
set_option linter.unusedSimpArgs false
set_option linter.unusedSectionVars false
namespace Go.Proofs.YtcgbhldenkeplaaGreat
open Go V Ieee
theorem sgn_bit (n : Int) (h : InK .i64 n) : ∃ q : Nat, q < 18446744073709551616 ∧ IntKind.wrap .u64 ((IntKind.wrap .u64 n) + (9223372036854775808 : Int)) = (q : Int) ∧ ixor .u64 (IntKind.wrap .u64 n) (9223372036854775808 : Int) = (q : Int) := by
 have hn := i64_of h
 obtain ⟨m, hm, hml⟩ : ∃ m : Nat, IntKind.wrap .u64 n = (m : Int) ∧ m < 18446744073709551616 := ⟨(IntKind.wrap .u64 n).toNat, by rw [IntKind.wrap_u64]; omega, by rw [IntKind.wrap_u64]; omega⟩
 rw [hm]
 have hx : ixor .u64 (m : Int) (9223372036854775808 : Int) = ((m ^^^ 9223372036854775808 : Nat) : Int) := ixor_u64 m 9223372036854775808 hml (by omega)
 by_cases hs : m < 9223372036854775808
 · refine ⟨m + 9223372036854775808, by omega, by rw [IntKind.wrap_u64]; omega, ?_⟩
   rw [hx]
   have := xor_sign m hs
   have h2 : (9223372036854775808 + m) ^^^ 2 ^ 63 = m := this
   have h3 : ((9223372036854775808 + m) ^^^ 2 ^ 63) ^^^ 2 ^ 63 = m ^^^ 2 ^ 63 := by rw [h2]
   rw [Nat.xor_assoc, Nat.xor_self, Nat.xor_zero] at h3
   have h4 : m ^^^ 9223372036854775808 = 9223372036854775808 + m := h3.symm
   rw [h4, Nat.add_comm]
 · obtain ⟨r, rfl⟩ : ∃ r, m = 9223372036854775808 + r := ⟨m - 9223372036854775808, by omega⟩
   refine ⟨r, by omega, by rw [IntKind.wrap_u64]; omega, ?_⟩
   rw [hx]
   have h2 : (9223372036854775808 + r) ^^^ 9223372036854775808 = r := xor_sign r (by omega)
   rw [h2]
noncomputable def IB (a : Item) (n : Nat) : List Int := if a.Kind = 1 then IntKind.wrap .u8 a.Kind :: highB (ixor .u64 (IntKind.wrap .u64 a.N) 9223372036854775808).toNat else if a.Kind = 2 then IntKind.wrap .u8 a.Kind :: highB n else IntKind.wrap .u8 a.Kind :: a.T
theorem highBl8 (n : Nat) : (highB n).length = 8 := highP_len n 8
theorem impl_itemBytes (a : Item) (n : Nat) (h : InK .i64 a.N) (hT : a.T.length ≤ 1000000) : impl_itemBytes.f a (n : Int) = some (IB a n) := by
 obtain ⟨q, hq, e1, e2⟩ := sgn_bit a.N h
 unfold impl_itemBytes.f IB
 rw [e1, e2, impl_highFirst, impl_highFirst]
 by_cases h1 : a.Kind = 1
 · rw [if_pos (by simpa using h1), if_pos h1, Option.bind_some, if_pos (by rw [highBl8]; simp [Lim])]; rfl
 · rw [if_neg (by simpa using h1), if_neg h1]
   by_cases h2 : a.Kind = 2
   · rw [if_pos (by simpa using h2), if_pos h2, Option.bind_some, if_pos (by rw [highBl8]; simp [Lim])]; rfl
   · rw [if_neg (by simpa using h2), if_neg h2, if_pos (by simp [Lim]; omega)]; rfl
theorem spec_l3bytes (a : Item) (n : Nat) (hn : n < 18446744073709551616) (h : InK .i64 a.N) (hT : a.T.length ≤ 1000000) : spec_l3bytes.f a (n : Int) = some (IB a n) := by
 obtain ⟨q, hq, e1, e2⟩ := sgn_bit a.N h
 unfold spec_l3bytes.f IB
 rw [e2, spec_l3high _ hq, spec_l3high _ hn]
 by_cases h1 : a.Kind = 1
 · rw [if_pos (by simpa using h1), if_pos h1, Option.bind_some, if_pos (by rw [highBl8]; simp [Lim])]; rfl
 · rw [if_neg (by simpa using h1), if_neg h1]
   by_cases h2 : a.Kind = 2
   · rw [if_pos (by simpa using h2), if_pos h2, Option.bind_some, if_pos (by rw [highBl8]; simp [Lim])]; rfl
   · rw [if_neg (by simpa using h2), if_neg h2, if_pos (by simp [Lim]; omega)]; rfl
noncomputable def KB (a : Item) : List Int := if KOK a = true then IB a (FRK a.F) else []
noncomputable def VB (a : Item) : List Int := if IOK a = true ∧ a.Kind ≠ 0 then IB a a.F else []
theorem impl_KeyBytes (a : Item) (h : ok_Item a) : impl_KeyBytes.f a = some (KB a) := by
 unfold impl_KeyBytes.f KB
 rw [impl_KeyOk a h.2.2.1, Option.bind_some]
 cases hk : KOK a with
 | false => rfl
 | true =>
  have := iok_T (kok_iok hk)
  rw [if_neg (by decide), impl_FloatRank a.F h.2.2.1, Option.bind_some, impl_itemBytes a _ h.2.1 (by omega), if_pos rfl]; rfl
theorem spec_KeyBytes (a : Item) (h : ok_Item a) : spec_KeyBytes.f a = some (KB a) := by
 unfold spec_KeyBytes.f KB
 rw [spec_KeyOk a h.2.2.1, Option.bind_some]
 cases hk : KOK a with
 | false => rfl
 | true =>
  have := iok_T (kok_iok hk)
  rw [if_neg (by decide), spec_FloatRank a.F h.2.2.1, Option.bind_some, spec_l3bytes a _ (FRK_lt _ h.2.2.1.2) h.2.1 (by omega), if_pos rfl]; rfl
theorem impl_ValueBytes (a : Item) (h : ok_Item a) : impl_ValueBytes.f a = some (VB a) := by
  unfold impl_ValueBytes.f VB
  rw [impl_ItemOk a, Option.bind_some]
  by_cases hk : IOK a = true ∧ a.Kind ≠ 0
  · have := iok_T hk.1
    rw [if_neg (by simp [hk.1, hk.2]), impl_FloatBits a.F h.2.2.1, Option.bind_some, impl_itemBytes a _ h.2.1 (by omega), if_pos hk]; rfl
  · rw [if_pos (by
      cases hi : IOK a with
      | false => rfl
      | true => simp [hi] at hk ⊢; exact hk), if_neg hk]
theorem spec_ValueBytes (a : Item) (h : ok_Item a) : spec_ValueBytes.f a = some (VB a) := by
  unfold spec_ValueBytes.f VB
  rw [spec_ItemOk a h.2.2.1, Option.bind_some]
  by_cases hk : IOK a = true ∧ a.Kind ≠ 0
  · have := iok_T hk.1
    rw [if_neg (by simp [hk.1, hk.2]), spec_FloatBits a.F h.2.2.1, Option.bind_some, spec_l3bytes a _ h.2.2.1.2 h.2.1 (by omega), if_pos hk]; rfl
  · rw [if_pos (by
      cases hi : IOK a with
      | false => rfl
      | true => simp [hi] at hk ⊢; exact hk), if_neg hk]
theorem u8w (x : Int) : InK .u8 (IntKind.wrap .u8 x) := by rw [IntKind.wrap_u8]; exact u8_ok (by omega) (by omega)
theorem ib_u8 (a : Item) (n : Nat) (h : ok_Item a) : ∀ x ∈ IB a n, InK .u8 x := by
 intro x hx
 unfold IB at hx
 split at hx
 · rcases List.mem_cons.1 hx with rfl | hx
   · exact u8w _
   · exact highB_u8 _ x hx
 · split at hx
   · rcases List.mem_cons.1 hx with rfl | hx
     · exact u8w _
     · exact highB_u8 _ x hx
   · rcases List.mem_cons.1 hx with rfl | hx
     · exact u8w _
     · exact h.2.2.2.2 x hx
theorem kb_u8 (a : Item) (h : ok_Item a) : ∀ x ∈ KB a, InK .u8 x := by
 intro x hx; unfold KB at hx; split at hx
 · exact ib_u8 a _ h x hx
 · cases hx
theorem vb_u8 (a : Item) (h : ok_Item a) : ∀ x ∈ VB a, InK .u8 x := by
 intro x hx; unfold VB at hx; split at hx
 · exact ib_u8 a _ h x hx
 · cases hx
theorem ib_len (a : Item) (n : Nat) : (IB a n).length = if a.Kind = 1 ∨ a.Kind = 2 then 9 else a.T.length + 1 := by
 unfold IB
 by_cases h1 : a.Kind = 1
 · rw [if_pos h1, if_pos (.inl h1), List.length_cons, highBl8]
 · by_cases h2 : a.Kind = 2
   · rw [if_neg h1, if_pos h2, if_pos (.inr h2), List.length_cons, highBl8]
   · rw [if_neg h1, if_neg h2, if_neg (by omega), List.length_cons]
theorem kb_len (a : Item) : (KB a).length ≤ 41 := by
 unfold KB
 split
 · rename_i h; have := iok_T (kok_iok h); rw [ib_len]; split <;> omega
 · simp
theorem vb_len (a : Item) : (VB a).length ≤ 41 := by
 unfold VB
 split
 · rename_i h; have := iok_T h.1; rw [ib_len]; split <;> omega
 · simp
end Go.Proofs.YtcgbhldenkeplaaGreat
set_option linter.unusedVariables false
set_option linter.unusedSimpArgs false
set_option linter.unusedSectionVars false
namespace Go.Proofs.YtcgbhldenkeplaaGreat
open Go V Ieee
theorem i64w (x : Int) : InK .i64 (IntKind.wrap .i64 x) := by rw [IntKind.wrap_i64]; exact i64_ok (by omega) (by omega)
theorem okF_cn (n : Nat) (h : n < 18446744073709551616) : okF (cn n) := by
 refine ⟨cn_cn n, ?_⟩
 unfold cn
 cases isN n with
 | true => show nanB < _; decide
 | false => exact h
theorem okF_0 : okF 0 := ⟨by decide, by decide⟩
def lwS (n : Nat) (b : Int) : Nat := (n * 256 % 18446744073709551616) ||| b.toNat
def LW (l : List Int) : Nat := l.foldl lwS 0
theorem lw_lt (l : List Int) (h : ∀ x ∈ l, InK .u8 x) : LW l < 18446744073709551616 := by
 unfold LW
 have : ∀ (l : List Int) (n : Nat), (∀ x ∈ l, InK .u8 x) → n < 18446744073709551616 → l.foldl lwS n < 18446744073709551616 := by
  intro l
  induction l with
  | nil => intro n _ h; exact h
  | cons x l ih =>
   intro n hx hn
   have := u8n (hx x (by simp))
   exact ih _ (fun y hy => hx y (by simp [hy])) (Nat.or_lt_two_pow (n := 64) (Nat.mod_lt _ (by decide)) (by omega))
 exact this l 0 h (by decide)
theorem lw_take (l : List Int) (k : Nat) (h : k < l.length) : LW (l.take (k + 1)) = lwS (LW (l.take k)) l[k] := by
 unfold LW
 rw [List.take_succ_eq_append_getElem h, List.foldl_append]; rfl
theorem lw_step (n : Nat) (b : Int) (hn : n < 18446744073709551616) (hb : InK .u8 b) : ior .u64 (ishl .u64 (n : Int) (8 : Int)) (IntKind.wrap .u64 b) = ((lwS n b : Nat) : Int) := by
 obtain ⟨e, hl⟩ := u8n hb
 have h1 : ishl .u64 (n : Int) (8 : Int) = ((n * 256 % 18446744073709551616 : Nat) : Int) := by
  unfold ishl
  show IntKind.wrap .u64 ((n : Int) * 2 ^ 8) = _
  rw [IntKind.wrap_u64, show (2 : Int) ^ 8 = 256 by decide]
  omega
 rw [h1, e, wu64 _ (by omega), ior_u64 _ _ (Nat.mod_lt _ (by decide)) (by omega), ← e]; rfl
theorem spec_l3low (l : List Int) (h : ∀ x ∈ l, InK .u8 x) (hl : l.length ≤ 1000000000) : spec_l3low.f l = some ((LW l : Nat) : Int) := by
 unfold spec_l3low.f
 have hst : ((0 : Int), (0 : Int)) = (((LW (l.take 0) : Nat) : Int), ((0 : Nat) : Int)) := rfl
 have he : LW l = LW (l.take l.length) := by rw [List.take_length]
 rw [hst, he]
 refine iter_for l.length (fun k => (((LW (l.take k) : Nat) : Int), (k : Int))) _ (fun k hk => ?_) ?_
 · unfold spec_l3low.b0
   simp only []
   rw [if_pos (by simp; omega), if_pos ⟨by omega, by omega⟩, at_nat l k hk, lw_step _ _ (lw_lt _ fun x hx => h x (List.mem_of_mem_take hx)) (h _ (List.getElem_mem hk)), w64 (by omega) (by omega), lw_take l k hk]
   rfl
 · unfold spec_l3low.b0
   simp only []
   rw [if_neg (by simp)]; rfl
theorem impl_fromHigh (l : List Int) (h : ∀ x ∈ l, InK .u8 x) (hl : l.length ≤ 1000000000) : impl_fromHigh.f l = some ((LW l : Nat) : Int) := by
 rw [← spec_l3low l h hl]; rfl
end Go.Proofs.YtcgbhldenkeplaaGreat
set_option linter.unusedVariables false
set_option linter.unusedSimpArgs false
set_option linter.unusedSectionVars false
namespace Go.Proofs.YtcgbhldenkeplaaGreat
open Go V Ieee
def UY (n : Nat) : Nat := if 9223372036854775808 ≤ n then n % 9223372036854775808 else 18446744073709551615 ^^^ n
def UR (n : Nat) : Nat × Bool := if n = 18446744073709551615 then (nanB, true) else if FRK (cn (UY n)) = n then (cn (UY n), true) else (0, false)
theorem uy_lt (n : Nat) (h : n < 18446744073709551616) : UY n < 18446744073709551616 := by
 unfold UY
 split
 · omega
 · exact Nat.xor_lt_two_pow (n := 64) (by omega) h
theorem ur_ok (n : Nat) (h : n < 18446744073709551616) : okF (UR n).1 := by
 unfold UR
 split
 · exact ⟨by decide, by decide⟩
 · split
   · exact okF_cn _ (uy_lt n h)
   · exact okF_0
theorem iandn63 (n : Nat) (h : n < 18446744073709551616) : iandn .u64 (n : Int) (9223372036854775808 : Int) = ((n % 9223372036854775808 : Nat) : Int) := by
 unfold iandn
 have e : (BitVec.ofInt IntKind.u64.bits (n : Int) &&& ~~~ BitVec.ofInt IntKind.u64.bits (9223372036854775808 : Int)).toNat = n &&& 9223372036854775807 := by
  rw [BitVec.toNat_and, BitVec.toNat_not, ofInt_nat IntKind.u64.bits n h]
  have : (BitVec.ofInt IntKind.u64.bits (9223372036854775808 : Int)).toNat = 9223372036854775808 := by decide
  rw [this]; rfl
 rw [e]
 have h3 : n &&& 9223372036854775807 = n % 9223372036854775808 := Nat.and_two_pow_sub_one_eq_mod _ 63
 rw [h3, wu64 _ (by omega)]
theorem beq_nat (a b : Nat) : ((a : Int) == (b : Int)) = decide (a = b) := by
 by_cases h : a = b
 · subst h; simp
 · rw [decide_eq_false h]; simp; omega
theorem bne_nat (a b : Nat) : ((a : Int) != (b : Int)) = !decide (a = b) := by rw [← beq_nat]; rfl
theorem spec_FloatUnrank (n : Nat) (h : n < 18446744073709551616) : spec_FloatUnrank.f (n : Int) = some (UR n) := by
  unfold spec_FloatUnrank.f UR
  by_cases h1 : n = 18446744073709551615
  · subst h1
    rw [ifT (by decide), if_pos rfl, Option.bind_some]
    have e1 : spec_FloatOf.f (9221120237041090560 : Int) = some nanB := by
      have := spec_FloatOf 9221120237041090560 (by decide)
      exact this
    rw [e1, Option.bind_some, spec_FloatRank nanB ⟨by decide, by decide⟩, Option.bind_some]
    rfl
  · have hb : ((n : Int) == (18446744073709551615 : Int)) = false := by
      have := beq_nat n 18446744073709551615
      rw [decide_eq_false h1] at this
      exact this
    rw [if_neg (by rw [hb]; decide), if_neg h1]
    have hy : (if (ishr .u64 (n : Int) (63 : Int) == (1 : Int)) = true then some (iand .u64 (n : Int) (9223372036854775807 : Int)) else some (ixor .u64 (IntKind.max .u64) (n : Int))) = some ((UY n : Nat) : Int) := by
      unfold UY
      rw [ishr63]
      by_cases hs : 9223372036854775808 ≤ n
      · have h2 : iand .u64 (n : Int) (9223372036854775807 : Int) = ((n &&& 9223372036854775807 : Nat) : Int) := iand_u64 n 9223372036854775807 h (by omega)
        have h3 : n &&& 9223372036854775807 = n % 9223372036854775808 := Nat.and_two_pow_sub_one_eq_mod _ 63
        rw [if_pos (decide_eq_true (by omega)), if_pos hs, h2, h3]
      · rw [if_neg (by rw [decide_eq_false (by omega)]; decide), if_neg hs, max_u64, ixor_u64 _ _ (by omega) h]
    rw [hy]
    simp only [Option.bind_some]
    rw [spec_FloatOf _ (uy_lt n h)]
    simp only [Option.bind_some]
    rw [spec_FloatRank _ (okF_cn _ (uy_lt n h))]
    simp only [Option.bind_some]
    rw [bne_nat]
    by_cases hr : FRK (cn (UY n)) = n
    · rw [if_pos hr, decide_eq_true hr]; rfl
    · rw [if_neg hr, decide_eq_false hr]; rfl
theorem impl_FloatUnrank (n : Nat) (h : n < 18446744073709551616) : impl_FloatUnrank.f (n : Int) = some (UR n) := by
  unfold impl_FloatUnrank.f UR
  have hy : (if (decide ((n : Int) < (9223372036854775808 : Int))) = true then some (ixor .u64 (IntKind.max .u64) (n : Int)) else some (iandn .u64 (n : Int) (9223372036854775808 : Int))) = some ((UY n : Nat) : Int) := by
    unfold UY
    by_cases hs : 9223372036854775808 ≤ n
    · rw [if_neg (by simp; omega), if_pos hs, iandn63 n h]
    · rw [if_pos (by simp; omega), if_neg hs, max_u64, ixor_u64 _ _ (by omega) h]
  rw [hy, Option.bind_some, Int.toNat_natCast]
  by_cases h1 : n = 18446744073709551615
  · subst h1
    rw [ifT (by decide), if_pos rfl]
    have : math_NaN.f = some nanB := by unfold math_NaN.f; decide
    rw [this]; rfl
  · have hb : ((n : Int) == (18446744073709551615 : Int)) = false := by
      have := beq_nat n 18446744073709551615
      rw [decide_eq_false h1] at this
      exact this
    rw [if_neg (by rw [hb]; decide), if_neg h1]
    have hk := okF_cn _ (uy_lt n h)
    obtain ⟨c1, _, _, _⟩ := cmp_facts _ hk
    generalize cn (UY n) = f at hk c1 ⊢
    by_cases hx : f = 9221120237041090560
    · rw [ifT (by rw [c1]; exact decide_eq_true hx), Option.bind_some, ifT rfl, if_neg]
      rw [hx]
      show ¬ FRK 9221120237041090560 = n
      have : FRK 9221120237041090560 = 18446744073709551615 := by decide
      rw [this]; omega
    · rw [ifF (by rw [c1]; exact decide_eq_false hx), impl_FloatRank f hk, Option.bind_some, Option.bind_some, bne_nat]
      by_cases hr : FRK f = n
      · rw [if_pos hr, decide_eq_true hr]; rfl
      · rw [if_neg hr, decide_eq_false hr]; rfl
def I0 : Item := Item.mk 0 0 0 []
def PK (fl : Nat → Nat) (b : List Int) : Item := Item.mk (at_ b 0) (if at_ b 0 = 1 then IntKind.wrap .i64 (ixor .u64 ((LW (b.drop 1) : Nat) : Int) 9223372036854775808) else 0) (if at_ b 0 = 2 then fl (LW (b.drop 1)) else 0) (if at_ b 0 = 3 then b.drop 1 else [])
noncomputable def RD (By : Item → List Int) (fl : Nat → Nat) (b : List Int) : Item × Bool := if 1 ≤ b.length ∧ b.length ≤ 41 ∧ By (PK fl b) = b then (PK fl b, true) else (I0, false)
section
variable (b : List Int) (hb : ∀ x ∈ b, InK .u8 x)
include hb
theorem at0_u8 (h : 1 ≤ b.length) : InK .u8 (at_ b 0) := by
 have : at_ b 0 = b[0] := at_nat b 0 (by omega)
 rw [this]; exact hb _ (List.getElem_mem _)
theorem drop_u8 (k : Nat) : ∀ x ∈ b.drop k, InK .u8 x := fun x hx => hb x (List.mem_of_mem_drop hx)
theorem pk_ok (fl : Nat → Nat) (hf : ∀ n, n < 18446744073709551616 → okF (fl n)) (h : 1 ≤ b.length) (h2 : b.length ≤ 1000000000) : ok_Item (PK fl b) := by
 have h0 := u8_of (at0_u8 b hb h)
 refine ⟨i64_ok (by simp only [PK]; omega) (by simp only [PK]; omega), ?_, ?_, ?_, ?_⟩
 · simp only [PK]; split
   · exact i64w _
   · exact i64_ok (by omega) (by omega)
 · simp only [PK]; split
   · exact hf _ (lw_lt _ (drop_u8 b hb 1))
   · exact okF_0
 · simp only [PK]; split
   · simp [maxLen]; omega
   · simp
 · simp only [PK]; split
   · exact drop_u8 b hb 1
   · intro y hy; cases hy
theorem spec_parse (fl : Nat → Nat) (F : Int → Option Nat) (hF : ∀ n : Nat, n < 18446744073709551616 → F (n : Int) = some (fl n)) (h : 1 ≤ b.length) (h2 : b.length ≤ 1000000000) :
    ((if ((IntKind.wrap .i64 (at_ b (0 : Int))) == (1 : Int)) = true then (if 0 ≤ (1 : Int) ∧ (1 : Int) ≤ (b.length : Int) then ((spec_l3low.f (b.drop ((1 : Int)).toNat)).bind fun r26 => (some ((IntKind.wrap .i64 (ixor .u64 r26 (9223372036854775808 : Int))), (0 : Nat), ([] : (List Int))))) else none) else ((if ((IntKind.wrap .i64 (at_ b (0 : Int))) == (2 : Int)) = true then (if 0 ≤ (1 : Int) ∧ (1 : Int) ≤ (b.length : Int) then ((spec_l3low.f (b.drop ((1 : Int)).toNat)).bind fun r39 => ((F r39).bind fun r41 => (some (r41, ([] : (List Int)))))) else none) else ((if ((IntKind.wrap .i64 (at_ b (0 : Int))) == (3 : Int)) = true then (if 0 ≤ (1 : Int) ∧ (1 : Int) ≤ (b.length : Int) then (if ([] : (List Int)).length + (b.drop ((1 : Int)).toNat).length ≤ Lim then (some (([] : (List Int)) ++ (b.drop ((1 : Int)).toNat))) else none) else none) else (some ([] : (List Int)))).bind fun y48 => (some ((0 : Nat), y48)))).bind fun y33 => (some ((0 : Int), y33.1, y33.2))))) = some ((PK fl b).N, (PK fl b).F, (PK fl b).T) := by
  have h0 := at0_u8 b hb h
  have hl := lw_lt _ (drop_u8 b hb 1)
  rw [wrap_u8n _ h0, show ((1 : Int)).toNat = 1 from rfl, spec_l3low _ (drop_u8 b hb 1) (by simp; omega)]
  have hlen : (b.drop 1).length ≤ Lim := by simp [Lim]; omega
  simp only [Option.bind_some, hF _ hl, List.nil_append, List.length_nil, Nat.zero_add, if_pos hlen]
  have hg : (0 : Int) ≤ 1 ∧ (1 : Int) ≤ (b.length : Int) := ⟨by omega, by omega⟩
  simp only [if_pos hg, PK]
  by_cases c1 : at_ b 0 = 1
  · simp [c1]
  · by_cases c2 : at_ b 0 = 2
    · simp [c2]
    · by_cases c3 : at_ b 0 = 3
      · simp [c3]
      · simp [c1, c2, c3]
end
theorem pk_eta (fl : Nat → Nat) (b : List Int) : Item.mk (at_ b 0) (PK fl b).N (PK fl b).F (PK fl b).T = PK fl b := rfl
theorem RD_no {By : Item → List Int} {fl : Nat → Nat} {b : List Int} (h : ¬ (1 ≤ b.length ∧ b.length ≤ 41 ∧ By (PK fl b) = b)) : RD By fl b = (I0, false) := if_neg h
theorem RD_yes {By : Item → List Int} {fl : Nat → Nat} {b : List Int} (h : 1 ≤ b.length ∧ b.length ≤ 41 ∧ By (PK fl b) = b) : RD By fl b = (PK fl b, true) := if_pos h
def urf (n : Nat) : Nat := (UR n).1
theorem spec_KeyRead (b : List Int) (hb : ∀ x ∈ b, InK .u8 x) : spec_KeyRead.f b = some (RD KB urf b) := by
 unfold spec_KeyRead.f
 by_cases hl : 1 ≤ b.length ∧ b.length ≤ 41
 · rw [if_neg (by simp; omega), if_pos ⟨by omega, by omega⟩]
   have hp := spec_parse b hb urf (fun n => (spec_FloatUnrank.f n).bind fun r => some r.1) (fun n hn => by
    show (spec_FloatUnrank.f (n : Int)).bind _ = _
    rw [spec_FloatUnrank n hn]; rfl) hl.1 (by omega)
   have hk := pk_ok b hb urf (fun n hn => ur_ok n hn) hl.1 (by omega)
   have hbind : ∀ (X : Option (Nat × Bool)), (X.bind fun r41 => (some (r41.1, ([] : List Int)))) = ((X.bind fun r => some r.1).bind fun r41 => some (r41, ([] : List Int))) := fun X => by cases X <;> rfl
   simp only [hbind]
   rw [hp]
   simp only [Option.bind_some]
   rw [wrap_u8n _ (at0_u8 b hb hl.1), pk_eta, spec_KeyBytes _ hk, Option.bind_some, str_eq _ _ (kb_u8 _ hk) hb]
   by_cases he : KB (PK urf b) = b
   · rw [decide_eq_true he, RD_yes ⟨hl.1, hl.2, he⟩]; rfl
   · rw [decide_eq_false he, RD_no (fun h => he h.2.2)]; rfl
 · rw [if_pos (by simp; omega), RD_no (fun h => hl ⟨h.1, h.2.1⟩)]; rfl
theorem spec_ValueRead (b : List Int) (hb : ∀ x ∈ b, InK .u8 x) : spec_ValueRead.f b = some (RD VB cn b) := by
 unfold spec_ValueRead.f
 by_cases hl : 1 ≤ b.length ∧ b.length ≤ 41
 · rw [if_neg (by simp; omega), if_pos ⟨by omega, by omega⟩]
   have hp := spec_parse b hb cn spec_FloatOf.f (fun n hn => spec_FloatOf n hn) hl.1 (by omega)
   have hk := pk_ok b hb cn (fun n hn => okF_cn n hn) hl.1 (by omega)
   rw [hp]
   simp only [Option.bind_some]
   rw [wrap_u8n _ (at0_u8 b hb hl.1), pk_eta, spec_ValueBytes _ hk, Option.bind_some, str_eq _ _ (vb_u8 _ hk) hb]
   by_cases he : VB (PK cn b) = b
   · rw [decide_eq_true he, RD_yes ⟨hl.1, hl.2, he⟩]; rfl
   · rw [decide_eq_false he, RD_no (fun h => he h.2.2)]; rfl
 · rw [if_pos (by simp; omega), RD_no (fun h => hl ⟨h.1, h.2.1⟩)]; rfl
theorem impl_readItem (b : List Int) (hb : ∀ x ∈ b, InK .u8 x) (hl : b.length ≤ 1000000000) (fl : Nat → Nat) (F : Int → Option Nat) (hF : ∀ n : Nat, n < 18446744073709551616 → F (n : Int) = some (fl n)) :
    impl_readItem.f b F = some (if 1 ≤ b.length ∧ (at_ b 0 = 3 ∨ b.length = 9) then PK fl b else I0) := by
  unfold impl_readItem.f
  by_cases h : 1 ≤ b.length
  · have h0 := at0_u8 b hb h
    have hlw := lw_lt _ (drop_u8 b hb 1)
    rw [if_neg (by simp; intro hh; subst hh; simp at h), if_pos ⟨by omega, by omega⟩, if_pos ⟨by omega, by omega⟩, wrap_u8n _ h0, show ((1 : Int)).toNat = 1 from rfl, impl_fromHigh _ (drop_u8 b hb 1) (by simp; omega), cloneB _ (by simp; omega)]
    simp only [Option.bind_some, hF _ hlw]
    have hx : IntKind.wrap .u64 (((LW (b.drop 1) : Nat) : Int) - 9223372036854775808) = ixor .u64 ((LW (b.drop 1) : Nat) : Int) 9223372036854775808 := by
      generalize LW (b.drop 1) = m at hlw
      have hx2 : ixor .u64 (m : Int) (9223372036854775808 : Int) = ((m ^^^ 9223372036854775808 : Nat) : Int) := ixor_u64 m 9223372036854775808 hlw (by omega)
      rw [hx2]
      by_cases hs : m < 9223372036854775808
      · have h2 : (9223372036854775808 + m) ^^^ 2 ^ 63 = m := xor_sign m hs
        have h3 : ((9223372036854775808 + m) ^^^ 2 ^ 63) ^^^ 2 ^ 63 = m ^^^ 2 ^ 63 := by rw [h2]
        rw [Nat.xor_assoc, Nat.xor_self, Nat.xor_zero] at h3
        have h4 : m ^^^ 9223372036854775808 = 9223372036854775808 + m := h3.symm
        rw [h4, IntKind.wrap_u64]; omega
      · obtain ⟨r, rfl⟩ : ∃ r, m = 9223372036854775808 + r := ⟨m - 9223372036854775808, by omega⟩
        have h2 : (9223372036854775808 + r) ^^^ 9223372036854775808 = r := xor_sign r (by omega)
        rw [h2, IntKind.wrap_u64]; omega
    rw [hx]
    have hlen : ((((b.drop 1).length : Int) != (8 : Int)) = true) ↔ ¬ b.length = 9 := by simp; omega
    by_cases c3 : at_ b 0 = 3
    · rw [if_pos (by simp [c3]), (if_pos (c := 1 ≤ b.length ∧ (at_ b 0 = 3 ∨ b.length = 9)) ⟨h, .inl c3⟩)]
      simp [PK, c3]
    · rw [if_neg (by simp [c3])]
      by_cases c9 : b.length = 9
      · rw [if_neg (by rw [hlen]; simp [c9]), (if_pos (c := 1 ≤ b.length ∧ (at_ b 0 = 3 ∨ b.length = 9)) ⟨h, .inr c9⟩)]
        simp only [PK, if_neg c3]
        by_cases c1 : at_ b 0 = 1
        · simp [c1]
        · by_cases c2 : at_ b 0 = 2
          · simp [c2]
          · simp [c1, c2]
      · rw [if_pos (by rw [hlen]; exact c9), (if_neg (c := 1 ≤ b.length ∧ (at_ b 0 = 3 ∨ b.length = 9)) fun hh => hh.2.elim c3 c9)]
        rfl
  · have hn : b = [] := by cases b with | nil => rfl | cons x l => simp at h
    subst hn; rfl
theorem ok_I0 : ok_Item I0 := ⟨i64_ok (by decide) (by decide), i64_ok (by decide) (by decide), okF_0, by simp [I0], fun y hy => by cases hy⟩
theorem kok_0 : KOK I0 = false := by decide
theorem kb_kind {a : Item} (h : KB a ≠ []) : a.Kind ≠ 0 ∧ IOK a = true := by
 unfold KB at h
 split at h
 · rename_i hk
   simp only [KOK, Bool.and_eq_true, bne_iff_ne, ne_eq] at hk
   exact ⟨hk.1.2, hk.1.1⟩
 · exact absurd rfl h
theorem vb_kind {a : Item} (h : VB a ≠ []) : a.Kind ≠ 0 ∧ IOK a = true := by
 unfold VB at h
 split at h
 · rename_i hk; exact ⟨hk.2, hk.1⟩
 · exact absurd rfl h
theorem kb_9 {a : Item} (h : KB a ≠ []) (h3 : a.Kind ≠ 3) : (KB a).length = 9 := by
 have hk := kb_kind h
 have := (iok_iff a).1 hk.2
 unfold KB at h ⊢
 split at h
 · rename_i hh; rw [if_pos hh, ib_len, if_pos (by omega)]
 · exact absurd rfl h
theorem vb_9 {a : Item} (h : VB a ≠ []) (h3 : a.Kind ≠ 3) : (VB a).length = 9 := by
 have hk := vb_kind h
 have := (iok_iff a).1 hk.2
 unfold VB at h ⊢
 split at h
 · rename_i hh; rw [if_pos hh, ib_len, if_pos (by omega)]
 · exact absurd rfl h
theorem impl_KeyRead (b : List Int) (hb : ∀ x ∈ b, InK .u8 x) (hl : b.length ≤ 1000000000) : impl_KeyRead.f b = some (RD KB urf b) := by
  unfold impl_KeyRead.f
  rw [impl_readItem b hb hl urf impl_KeyRead_1.f (fun n hn => by unfold impl_KeyRead_1.f; rw [impl_FloatUnrank n hn]; rfl), Option.bind_some]
  by_cases hc : 1 ≤ b.length ∧ (at_ b 0 = 3 ∨ b.length = 9)
  · rw [if_pos hc]
    have hk := pk_ok b hb urf (fun n hn => ur_ok n hn) hc.1 hl
    rw [impl_KeyOk _ hk.2.2.1, Option.bind_some, impl_KeyBytes _ hk, Option.bind_some, bytesEqual _ _ (kb_u8 _ hk) hb, Option.bind_some]
    by_cases he : KB (PK urf b) = b
    · have hkok : KOK (PK urf b) = true := by
        cases hh : KOK (PK urf b) with
        | true => rfl
        | false =>
          unfold KB at he
          rw [if_neg (by rw [hh]; decide)] at he
          rw [← he] at hc; simp at hc
      have hlen := kb_len (PK urf b)
      rw [he] at hlen
      rw [hkok, decide_eq_true he, RD_yes ⟨hc.1, hlen, he⟩]; rfl
    · rw [decide_eq_false he, RD_no (fun h => he h.2.2)]
      cases KOK (PK urf b) <;> rfl
  · rw [if_neg hc, impl_KeyOk _ okF_0, Option.bind_some, kok_0]
    rw [RD_no]
    · rfl
    · rintro ⟨h1, h2, h3⟩
      have hne : KB (PK urf b) ≠ [] := by rw [h3]; intro h; subst h; simp at h1
      refine hc ⟨h1, ?_⟩
      by_cases c3 : at_ b 0 = 3
      · exact .inl c3
      · have := kb_9 hne c3
        rw [h3] at this
        exact .inr this
theorem impl_ValueRead (b : List Int) (hb : ∀ x ∈ b, InK .u8 x) (hl : b.length ≤ 1000000000) : impl_ValueRead.f b = some (RD VB cn b) := by
 unfold impl_ValueRead.f
 rw [impl_readItem b hb hl cn impl_FloatOf.f (fun n hn => impl_FloatOf n), Option.bind_some]
 by_cases hc : 1 ≤ b.length ∧ (at_ b 0 = 3 ∨ b.length = 9)
 · rw [if_pos hc]
   have hk := pk_ok b hb cn (fun n hn => okF_cn n hn) hc.1 hl
   rw [impl_ItemOk, Option.bind_some, impl_ValueBytes _ hk, Option.bind_some, bytesEqual _ _ (vb_u8 _ hk) hb, Option.bind_some]
   by_cases he : VB (PK cn b) = b
   · have hne : VB (PK cn b) ≠ [] := by rw [he]; intro h; subst h; simp at hc
     obtain ⟨hk0, hiok⟩ := vb_kind hne
     have hlen := vb_len (PK cn b)
     rw [he] at hlen
     rw [hiok, decide_eq_true he, RD_yes ⟨hc.1, hlen, he⟩, if_neg (by simp [hk0])]; rfl
   · rw [decide_eq_false he, RD_no (fun h => he h.2.2)]
     cases hq : ((!IOK (PK cn b)) || ((PK cn b).Kind == (0 : Int))) <;> rfl
 · rw [if_neg hc, impl_ItemOk, Option.bind_some]
   have : ((!IOK I0) || (I0.Kind == (0 : Int))) = true := by decide
   rw [if_pos this, RD_no]
   · rfl
   · rintro ⟨h1, h2, h3⟩
     have hne : VB (PK cn b) ≠ [] := by rw [h3]; intro h; subst h; simp at h1
     refine hc ⟨h1, ?_⟩
     by_cases c3 : at_ b 0 = 3
     · exact .inl c3
     · have := vb_9 hne c3
       rw [h3] at this
       exact .inr this
end Go.Proofs.YtcgbhldenkeplaaGreat
set_option linter.unusedVariables false
set_option linter.unusedSimpArgs false
set_option linter.unusedSectionVars false
namespace Go.Proofs.YtcgbhldenkeplaaGreat
open Go V Ieee
theorem in_rin (a b c : Int) : spec_l5in.f a b c = some (rin a b c) := rfl
end Go.Proofs.YtcgbhldenkeplaaGreat
set_option linter.unusedVariables false
set_option linter.unusedSimpArgs false
set_option linter.unusedSectionVars false
namespace Go.Proofs.YtcgbhldenkeplaaGreat
open Go V Ieee
def TOK (t : Tuple) : Bool := rin t.Xmin 1 400 && rin t.Xmax 0 400 && KOK t.Key && IOK t.Value && (t.Value.Kind != (0 : Int))
theorem impl_TupleOk (t : Tuple) (h : ok_Tuple t) : impl_TupleOk.f t = some (TOK t) := by
 unfold impl_TupleOk.f TOK
 have e1 : impl_isXid.f t.Xmin = some (rin t.Xmin 1 400) := rfl
 simp only [e1, within_rin, impl_KeyOk _ h.2.2.1.2.2.1, impl_ItemOk, Option.bind_some]
 cases rin t.Xmin 1 400 <;> cases rin t.Xmax 0 400 <;> cases KOK t.Key <;> cases IOK t.Value <;> rfl
theorem spec_TupleOk (t : Tuple) (h : ok_Tuple t) : spec_TupleOk.f t = some (TOK t) := by
 unfold spec_TupleOk.f TOK
 simp only [in_rin, spec_KeyOk _ h.2.2.1.2.2.1, spec_ItemOk _ h.2.2.2.2.2.1, Option.bind_some]
 cases rin t.Xmin 1 400 <;> cases rin t.Xmax 0 400 <;> cases KOK t.Key <;> cases IOK t.Value <;> rfl
noncomputable def TB (t : Tuple) : List Int := if TOK t = true then ((((PN t.Xmin 4 ++ PN t.Xmax 4) ++ [IntKind.wrap .u8 ((KB t.Key).length : Int)]) ++ KB t.Key) ++ [IntKind.wrap .u8 ((VB t.Value).length : Int)]) ++ VB t.Value else []
theorem tb_u8 (t : Tuple) (h : ok_Tuple t) : ∀ x ∈ TB t, InK .u8 x := by
 unfold TB
 split
 · intro x hx
   simp only [List.mem_append, List.mem_singleton] at hx
   rcases hx with ((((hx | hx) | hx) | hx) | hx) | hx
   · exact pn_u8 _ _ x hx
   · exact pn_u8 _ _ x hx
   · subst hx; exact u8w _
   · exact kb_u8 _ h.2.2.1 x hx
   · subst hx; exact u8w _
   · exact vb_u8 _ h.2.2.2 x hx
 · intro x hx; cases hx
theorem pn4_len (n : Int) : (PN n 4).length ≤ 4 := by
 unfold PN
 split
 · rw [le_len]; decide
 · simp
theorem tb_len (t : Tuple) : (TB t).length ≤ 92 := by
 unfold TB
 have h1 := pn4_len t.Xmin
 have h2 := pn4_len t.Xmax
 have h3 := kb_len t.Key
 have h4 := vb_len t.Value
 split
 · simp only [List.length_append, List.length_singleton]; omega
 · simp
theorem impl_TupleBytes (t : Tuple) (h : ok_Tuple t) : impl_TupleBytes.f t = some (TB t) := by
 unfold impl_TupleBytes.f
 rw [impl_TupleOk t h, Option.bind_some]
 have h1 := pn4_len t.Xmin
 have h2 := pn4_len t.Xmax
 have h3 := kb_len t.Key
 have h4 := vb_len t.Value
 cases hT : TOK t with
 | false => unfold TB; rw [hT]; rfl
 | true =>
  rw [if_neg (by decide), impl_KeyBytes _ h.2.2.1, Option.bind_some, impl_ValueBytes _ h.2.2.2, Option.bind_some, impl_PutNum _ _ h.1 (i64_ok (by decide) (by decide)), Option.bind_some, impl_PutNum _ _ h.2.1 (i64_ok (by decide) (by decide)), Option.bind_some, Option.bind_some, concatB _ (by simp) (by simp; omega), Option.bind_some]
  unfold TB
  rw [hT]; simp
theorem spec_TupleBytes (t : Tuple) (h : ok_Tuple t) : spec_TupleBytes.f t = some (TB t) := by
 unfold spec_TupleBytes.f
 rw [spec_TupleOk t h, Option.bind_some]
 have h1 := pn4_len t.Xmin
 have h2 := pn4_len t.Xmax
 have h3 := kb_len t.Key
 have h4 := vb_len t.Value
 cases hT : TOK t with
 | false => unfold TB; rw [hT]; rfl
 | true =>
  rw [if_neg (by decide), spec_KeyBytes _ h.2.2.1, Option.bind_some, spec_ValueBytes _ h.2.2.2, Option.bind_some, spec_PutNum _ _ h.1, Option.bind_some, spec_PutNum _ _ h.2.1, Option.bind_some]
  rw [if_pos (by simp [Lim]; omega), if_pos (by simp [Lim]; omega), if_pos (by simp [Lim]; omega), if_pos (by simp [Lim]; omega), if_pos (by simp [Lim]; omega)]
  unfold TB
  rw [hT]; rfl
def T0 : Tuple := Tuple.mk 0 0 I0 I0
def x8 (b : List Int) : Nat := (at_ b 8).toNat
noncomputable def RK (b : List Int) : Item × Bool := RD KB urf (cut b 9 (x8 b))
noncomputable def RV (b : List Int) : Item × Bool := RD VB cn (b.drop (10 + x8 b))
noncomputable def TT (b : List Int) : Tuple := Tuple.mk (GN b 0 4).1 (GN b 4 4).1 (RK b).1 (RV b).1
noncomputable def TR (b : List Int) : Tuple × Bool := if 10 + x8 b ≤ b.length ∧ (RK b).2 = true ∧ (RV b).2 = true ∧ TB (TT b) = b then (TT b, true) else (T0, false)
theorem ok_T0 : ok_Tuple T0 := ⟨i64_ok (by decide) (by decide), i64_ok (by decide) (by decide), ok_I0, ok_I0⟩
theorem rd_ok (By : Item → List Int) (fl : Nat → Nat) (hf : ∀ n, n < 18446744073709551616 → okF (fl n)) (b : List Int) (hb : ∀ x ∈ b, InK .u8 x) : ok_Item (RD By fl b).1 := by
 unfold RD
 split
 · rename_i h; exact pk_ok b hb fl hf h.1 (by omega)
 · exact ok_I0
theorem gn_i64 (b : List Int) (a k : Int) : InK .i64 (GN b a k).1 := by
 unfold GN
 split
 · split
   · exact i64_ok (by simp only []; omega) (by simp only []; omega)
   · exact i64_ok (by decide) (by decide)
 · exact i64_ok (by decide) (by decide)
theorem tt_ok (b : List Int) (hb : ∀ x ∈ b, InK .u8 x) : ok_Tuple (TT b) := ⟨gn_i64 _ _ _, gn_i64 _ _ _, rd_ok _ _ (fun n hn => ur_ok n hn) _ (cut_u8 b _ _ hb), rd_ok _ _ (fun n hn => okF_cn n hn) _ (drop_u8 b hb _)⟩
theorem tr_ok (b : List Int) (hb : ∀ x ∈ b, InK .u8 x) : ok_Tuple (TR b).1 := by
 unfold TR
 split
 · exact tt_ok b hb
 · exact ok_T0
theorem TR_yes {b : List Int} (h : 10 + x8 b ≤ b.length ∧ (RK b).2 = true ∧ (RV b).2 = true ∧ TB (TT b) = b) : TR b = (TT b, true) := if_pos h
theorem TR_no {b : List Int} (h : ¬ (10 + x8 b ≤ b.length ∧ (RK b).2 = true ∧ (RV b).2 = true ∧ TB (TT b) = b)) : TR b = (T0, false) := if_neg h
theorem spec_TupleRead (b : List Int) (hb : ∀ x ∈ b, InK .u8 x) : spec_TupleRead.f b = some (TR b) := by
  unfold spec_TupleRead.f
  by_cases hl : 10 ≤ b.length ∧ b.length ≤ 92
  · have h8 : InK .u8 (at_ b 8) := by
      have : at_ b 8 = b[8] := at_nat b 8 (by omega)
      rw [this]; exact hb _ (List.getElem_mem _)
    have hx : at_ b 8 = (x8 b : Int) := (u8n h8).1
    have hx2 : x8 b < 256 := (u8n h8).2
    rw [if_neg (by simp; omega), spec_GetNum b 0 4 hb (by omega) (i64_ok (by decide) (by decide)) (i64_ok (by decide) (by decide)), Option.bind_some, spec_GetNum b 4 4 hb (by omega) (i64_ok (by decide) (by decide)) (i64_ok (by decide) (by decide)), Option.bind_some, if_pos ⟨by omega, by omega⟩, wrap_u8n _ h8, hx, w64 (n := (b.length : Int) - 10) (by omega) (by omega)]
    by_cases hc : 10 + x8 b ≤ b.length
    · rw [if_neg (by simp; omega), w64 (n := 9 + (x8 b : Int)) (by omega) (by omega), w64 (n := 10 + (x8 b : Int)) (by omega) (by omega), if_pos ⟨by omega, by omega, by omega⟩]
      rw [show (9 + (x8 b : Int)).toNat = 9 + x8 b by omega, show ((9 : Int)).toNat = 9 from rfl, take_drop, show 9 + x8 b - 9 = x8 b by omega, show (10 + (x8 b : Int)).toNat = 10 + x8 b by omega]
      rw [spec_KeyRead _ (cut_u8 b _ _ hb), Option.bind_some, if_pos ⟨by omega, by omega⟩, spec_ValueRead _ (drop_u8 b hb _), Option.bind_some]
      have ht := tt_ok b hb
      have e := str_eq _ _ (tb_u8 _ ht) hb
      show ((if (!(RK b).2) = true then some true else ((if (!(RV b).2) = true then some true else ((spec_TupleBytes.f (TT b)).bind fun r116 => (some (!((str r116).toList == (str b).toList))))).bind fun y93 => (some y93))).bind fun y74 => (if y74 = true then some (T0, false) else some (TT b, true))) = _
      rw [spec_TupleBytes _ ht, Option.bind_some, e]
      by_cases hk : (RK b).2 = true
      · by_cases hv : (RV b).2 = true
        · by_cases he : TB (TT b) = b
          · rw [TR_yes ⟨hc, hk, hv, he⟩, hk, hv, decide_eq_true he]; rfl
          · rw [TR_no (fun h => he h.2.2.2), hk, hv, decide_eq_false he]; rfl
        · rw [TR_no (fun h => hv h.2.2.1), hk, eq_false_of_ne_true hv]; rfl
      · rw [TR_no (fun h => hk h.2.1), eq_false_of_ne_true hk]; rfl
    · rw [if_pos (by simp; omega), TR_no (fun h => hc h.1)]; rfl
  · rw [if_pos (by simp; omega), TR_no]
    · rfl
    · rintro ⟨h1, _, _, h4⟩
      have := tb_len (TT b)
      rw [h4] at this
      omega
theorem impl_TupleRead (b : List Int) (hb : ∀ x ∈ b, InK .u8 x) (hl : b.length ≤ 1000000000) : impl_TupleRead.f b = some (TR b) := by
  unfold impl_TupleRead.f
  rw [impl_GetNum b 0 4 hb (by omega) (i64_ok (by decide) (by decide)) (i64_ok (by decide) (by decide)), Option.bind_some, impl_GetNum b 4 4 hb (by omega) (i64_ok (by decide) (by decide)) (i64_ok (by decide) (by decide)), Option.bind_some]
  by_cases h9 : 9 ≤ b.length
  · have g1 := gn_in b 0 4 hb (by omega) (by omega) (by omega)
    have g2 := gn_in b 4 4 hb (by omega) (by omega) (by omega)
    have e1 : (GN b 0 4).2 = true := congrArg Prod.snd g1
    have e2 : (GN b 4 4).2 = true := congrArg Prod.snd g2
    have h8 : InK .u8 (at_ b 8) := by
      have : at_ b 8 = b[8] := at_nat b 8 (by omega)
      rw [this]; exact hb _ (List.getElem_mem _)
    have hx : at_ b 8 = (x8 b : Int) := (u8n h8).1
    have hx2 : x8 b < 256 := (u8n h8).2
    rw [e1, e2, if_neg (by simp; omega), if_pos ⟨by omega, by omega⟩, wrap_u8n _ h8, hx, Option.bind_some, w64 (n := 10 + (x8 b : Int)) (by omega) (by omega)]
    by_cases hc : 10 + x8 b ≤ b.length
    · rw [if_neg (by simp; omega), if_pos ⟨by omega, by omega⟩, w64 (n := 9 + (x8 b : Int)) (by omega) (by omega), w64 (n := 9 + (x8 b : Int) + 1) (by omega) (by omega), if_pos ⟨by omega, by omega, by omega⟩]
      rw [show (9 + (x8 b : Int)).toNat = 9 + x8 b by omega, show ((9 : Int)).toNat = 9 from rfl, take_drop, show 9 + x8 b - 9 = x8 b by omega, show (9 + (x8 b : Int) + 1).toNat = 10 + x8 b by omega]
      rw [impl_KeyRead _ (cut_u8 b _ _ hb) (by rw [cut_len _ _ _ (by omega)]; omega), Option.bind_some, if_pos ⟨by omega, by omega⟩, impl_ValueRead _ (drop_u8 b hb _) (by simp; omega), Option.bind_some]
      have ht := tt_ok b hb
      have e := bytesEqual _ _ (tb_u8 _ ht) hb
      show ((if ((!(RK b).2) || (!(RV b).2)) = true then some true else ((impl_TupleOk.f (TT b)).bind fun r72 => (some (!r72)))).bind fun y65 => ((if y65 = true then some true else ((impl_TupleBytes.f (TT b)).bind fun r83 => ((bytes_Equal.f r83 b).bind fun r88 => (some (!r88))))).bind fun y82 => (if y82 = true then some (T0, false) else some (TT b, true)))) = _
      rw [impl_TupleOk _ ht, impl_TupleBytes _ ht, Option.bind_some, Option.bind_some, e]
      by_cases hk : (RK b).2 = true
      · by_cases hv : (RV b).2 = true
        · by_cases he : TB (TT b) = b
          · have ho : TOK (TT b) = true := by
              cases hh : TOK (TT b) with
              | true => rfl
              | false =>
                unfold TB at he
                rw [if_neg (by rw [hh]; decide)] at he
                rw [← he] at h9; simp at h9
            rw [TR_yes ⟨hc, hk, hv, he⟩, hk, hv, ho, decide_eq_true he]; rfl
          · rw [TR_no (fun h => he h.2.2.2), hk, hv, decide_eq_false he]
            cases TOK (TT b) <;> rfl
        · rw [TR_no (fun h => hv h.2.2.1), hk, eq_false_of_ne_true hv]; rfl
      · rw [TR_no (fun h => hk h.2.1), eq_false_of_ne_true hk]
        cases (RV b).2 <;> rfl
    · rw [if_pos (by simp; omega), TR_no (fun h => hc h.1)]; rfl
  · rw [if_pos (by simp; omega), Option.bind_some, TR_no (fun h => by omega)]; rfl
end Go.Proofs.YtcgbhldenkeplaaGreat
set_option linter.unusedVariables false
set_option linter.unusedSimpArgs false
namespace Go.Proofs.YtcgbhldenkeplaaGreat
open Go V Ieee
end Go.Proofs.YtcgbhldenkeplaaGreat
set_option linter.unusedVariables false
set_option linter.unusedSimpArgs false
set_option linter.unusedSectionVars false
namespace Go.Proofs.YtcgbhldenkeplaaGreat
open Go V Ieee
theorem iter_scanG {S O : Type} {body : S → Option (S ⊕ O)} (n : Nat) (st : Nat → S) (t : Nat → Bool) (o1 : Nat → O) (o2 : O) (h : ∀ k, k < n → body (st k) = if t k = true then some (.inl (st (k + 1))) else some (.inr (o1 k))) (hn : body (st n) = some (.inr o2)) :
    ((List.range n).all t = true ∧ iter body (st 0) = some o2) ∨ ((List.range n).all t = false ∧ ∃ k, k < n ∧ iter body (st 0) = some (o1 k)) := by
  have key : ∀ m, m ≤ n → (((List.range' (n - m) m).all t = true ∧ iter body (st (n - m)) = some o2) ∨ ((List.range' (n - m) m).all t = false ∧ ∃ k, k < n ∧ iter body (st (n - m)) = some (o1 k))) := by
    intro m
    induction m with
    | zero => intro _; left; exact ⟨rfl, by rw [iter_eq, Nat.sub_zero, hn]; rfl⟩
    | succ m ih =>
      intro hm
      have hb := h (n - (m + 1)) (by omega)
      rw [List.range'_succ, List.all_cons, show n - (m + 1) + 1 = n - m by omega] at *
      cases ht : t (n - (m + 1)) with
      | false =>
        right
        refine ⟨rfl, n - (m + 1), by omega, ?_⟩
        rw [ht, if_neg (by decide)] at hb
        exact iter_r hb
      | true =>
        rw [ht, if_pos rfl] at hb
        rw [iter_l hb, Bool.true_and]
        exact ih (by omega)
  have := key n (Nat.le_refl _)
  rw [Nat.sub_self] at this
  rw [List.range_eq_range']
  exact this
theorem iter_scan {S O : Type} {body : S → Option (S ⊕ O)} (n : Nat) (st : Nat → S) (t : Nat → Bool) (o1 o2 : O) (h : ∀ k, k < n → body (st k) = if t k = true then some (.inl (st (k + 1))) else some (.inr o1)) (hn : body (st n) = some (.inr o2)) :
    iter body (st 0) = some (if (List.range n).all t = true then o2 else o1) := by
  rcases iter_scanG n st t (fun _ => o1) o2 h hn with ⟨a, e⟩ | ⟨a, _, _, e⟩
  · rw [e, a]; rfl
  · rw [e, a]; rfl
theorem all_range {α : Type} (xs : List α) (f : α → Bool) (t : Nat → Bool) (h : ∀ k (hk : k < xs.length), t k = f xs[k]) : (List.range xs.length).all t = xs.all f := by
 rw [Bool.eq_iff_iff, List.all_eq_true, List.all_eq_true]
 constructor
 · intro ha x hx
   obtain ⟨k, hk, rfl⟩ := List.mem_iff_getElem.1 hx
   rw [← h k hk]; exact ha k (List.mem_range.2 hk)
 · intro ha k hk
   rw [h k (List.mem_range.1 hk)]; exact ha _ (List.getElem_mem _)
def okB (b : List Int) : Prop := b.length ≤ 1048576 ∧ ∀ x ∈ b, InK .u8 x
def okP (p : Page) : Prop := InK .i64 p.Lsn ∧ p.Slots.length ≤ 1048576 ∧ ∀ b ∈ p.Slots, okB b
def okH (h : Heap) : Prop := h.Pages.length ≤ 1048576 ∧ ∀ p ∈ h.Pages, okP p
def lsum (l : List (List Int)) : Nat := (l.map List.length).sum
theorem lsum_nil : lsum [] = 0 := rfl
theorem lsum_cons (x : List Int) (l : List (List Int)) : lsum (x :: l) = x.length + lsum l := by simp [lsum]
theorem lsum_app (a b : List (List Int)) : lsum (a ++ b) = lsum a + lsum b := by simp [lsum]
theorem lsum_le (c : Nat) (l : List (List Int)) (h : ∀ b ∈ l, b.length ≤ c) : lsum l ≤ c * l.length := by
 induction l with
 | nil => simp [lsum]
 | cons x l ih =>
  rw [lsum_cons, List.length_cons, Nat.mul_succ]
  have := h x (by simp)
  have := ih fun b hb => h b (by simp [hb])
  omega
theorem lsum_take (l : List (List Int)) (k : Nat) (h : k < l.length) : lsum (l.take (k + 1)) = lsum (l.take k) + l[k].length := by
 rw [List.take_succ_eq_append_getElem h, lsum_app, lsum_cons, lsum_nil]; omega
def PG (p : Page) : Bool := rin p.Lsn 0 1000000 && decide (p.Slots.length ≤ 16) && p.Slots.all (fun b => decide (b.length ≤ 92)) && !(decide (p.Slots.getLast? = some [])) && decide (1 + p.Slots.length + lsum p.Slots ≤ 240)
def PU (p : Page) : Int := if PG p = true then ((1 + p.Slots.length + lsum p.Slots : Nat) : Int) else -1
theorem pu_neg (p : Page) : decide (PU p < 0) = !PG p := by
 unfold PU
 cases PG p with
 | true => rw [if_pos rfl]; simp; omega
 | false => rfl
theorem pu_ge (p : Page) : decide (PU p ≥ 0) = PG p := by
 unfold PU
 cases PG p with
 | true => rw [if_pos rfl]; simp; omega
 | false => rfl
theorem last_at (l : List (List Int)) (h : 0 < l.length) : (((at_ l ((l.length : Int) - 1)).length : Int) == 0) = decide (l.getLast? = some []) := by
 have e : ((l.length : Int) - 1) = ((l.length - 1 : Nat) : Int) := by omega
 rw [e, at_nat l (l.length - 1) (by omega), List.getLast?_eq_getElem?, List.getElem?_eq_getElem (by omega)]
 generalize l[l.length - 1] = x
 cases x with
 | nil => rfl
 | cons a l => simp; omega
section
variable (p : Page) (hp : okP p)
include hp
theorem pu_step (hn : p.Slots.length ≤ 16) (k : Nat) (hk : k < p.Slots.length) : IntKind.wrap .i64 (((1 + p.Slots.length + lsum (p.Slots.take k) : Nat) : Int) + ((p.Slots[k]).length : Int)) = ((1 + p.Slots.length + lsum (p.Slots.take (k + 1)) : Nat) : Int) := by
 have h1 := lsum_le 1048576 (p.Slots.take k) (fun b hb => (hp.2.2 b (List.mem_of_mem_take hb)).1)
 have h2 := (hp.2.2 _ (List.getElem_mem hk)).1
 have h3 : (p.Slots.take k).length ≤ 16 := by simp; omega
 rw [lsum_take _ k hk, w64 (by omega) (by omega)]
 omega
theorem impl_PageUsed : impl_PageUsed.f p = some (PU p) := by
  unfold impl_PageUsed.f PU PG
  rw [within_rin, Option.bind_some]
  cases hr : rin p.Lsn 0 1000000 with
  | false => rfl
  | true =>
    by_cases hn : p.Slots.length ≤ 16
    · have hst : (IntKind.wrap .i64 ((1 : Int) + (p.Slots.length : Int)), (0 : Int)) = (((1 + p.Slots.length + lsum (p.Slots.take 0) : Nat) : Int), ((0 : Nat) : Int)) := by
        rw [w64 (by omega) (by omega)]; simp [lsum]
      rw [if_neg (by simp; omega), hst]
      rw [iter_scan p.Slots.length (fun k => (((1 + p.Slots.length + lsum (p.Slots.take k) : Nat) : Int), (k : Int))) (fun k => decide ((at_ p.Slots (k : Int)).length ≤ 92)) (-1) (if (decide (1 + p.Slots.length + lsum p.Slots ≤ 240) && !(decide (p.Slots.getLast? = some []))) = true then ((1 + p.Slots.length + lsum p.Slots : Nat) : Int) else -1)]
      · rw [all_range p.Slots (fun b => decide (b.length ≤ 92)) _ (fun k hk => by rw [at_nat _ k hk])]
        cases p.Slots.all (fun b => decide (b.length ≤ 92)) <;> cases decide (p.Slots.getLast? = some []) <;> simp [hn]
      · intro k hk
        unfold impl_PageUsed.b0
        simp only []
        rw [if_pos (by simp; omega), if_pos ⟨by omega, by omega⟩, at_nat _ k hk]
        by_cases hc : (p.Slots[k]).length ≤ 92
        · rw [if_neg (by simp; omega), if_pos (decide_eq_true hc), pu_step p hp hn k hk, w64 (by omega) (by omega)]; rfl
        · rw [if_pos (by simp; omega), if_neg (by rw [decide_eq_false hc]; decide)]
      · unfold impl_PageUsed.b0
        simp only []
        rw [if_neg (by simp), List.take_length]
        by_cases hs : 1 + p.Slots.length + lsum p.Slots ≤ 240
        · rw [if_neg (by simp; omega)]
          by_cases h0 : 0 < p.Slots.length
          · rw [if_pos (by simp; omega), w64 (by omega) (by omega), if_pos ⟨by omega, by omega⟩, last_at _ h0]
            cases decide (p.Slots.getLast? = some []) <;> simp [hs]
          · have : p.Slots = [] := by cases hq : p.Slots with | nil => rfl | cons a l => rw [hq] at h0; simp at h0
            rw [if_neg (by simp; omega), this]; rfl
        · rw [if_pos (by simp; omega), if_neg (by simp; omega)]; rfl
    · rw [if_pos (by simp; omega), if_neg (by simp; omega)]
theorem spec_PageUsed : spec_PageUsed.f p = some (PU p) := by
  unfold spec_PageUsed.f PU PG
  rw [in_rin, Option.bind_some]
  cases hr : rin p.Lsn 0 1000000 with
  | false => rfl
  | true =>
    by_cases hn : p.Slots.length ≤ 16
    · have hst : (IntKind.wrap .i64 ((1 : Int) + (p.Slots.length : Int)), (0 : Int)) = (((1 + p.Slots.length + lsum (p.Slots.take 0) : Nat) : Int), ((0 : Nat) : Int)) := by
        rw [w64 (by omega) (by omega)]; simp [lsum]
      rw [if_neg (by simp; omega), hst]
      rw [iter_scan p.Slots.length (fun k => (((1 + p.Slots.length + lsum (p.Slots.take k) : Nat) : Int), (k : Int))) (fun k => decide ((at_ p.Slots (k : Int)).length ≤ 92)) (-1) (if (decide (1 + p.Slots.length + lsum p.Slots ≤ 240) && !(decide (p.Slots.getLast? = some []))) = true then ((1 + p.Slots.length + lsum p.Slots : Nat) : Int) else -1)]
      · rw [all_range p.Slots (fun b => decide (b.length ≤ 92)) _ (fun k hk => by rw [at_nat _ k hk])]
        cases p.Slots.all (fun b => decide (b.length ≤ 92)) <;> cases decide (p.Slots.getLast? = some []) <;> simp [hn]
      · intro k hk
        unfold spec_PageUsed.b0
        simp only []
        rw [if_pos (by simp; omega), if_pos ⟨by omega, by omega⟩, at_nat _ k hk]
        by_cases hc : (p.Slots[k]).length ≤ 92
        · rw [if_neg (by simp; omega), if_pos ⟨by omega, by omega⟩, if_pos (decide_eq_true hc), pu_step p hp hn k hk, w64 (by omega) (by omega)]; rfl
        · rw [if_pos (by simp; omega), if_neg (by rw [decide_eq_false hc]; decide)]
      · unfold spec_PageUsed.b0
        simp only []
        rw [if_neg (by simp), List.take_length]
        by_cases h0 : 0 < p.Slots.length
        · rw [if_pos (by simp; omega), w64 (by omega) (by omega), if_pos ⟨by omega, by omega⟩, last_at _ h0]
          by_cases hs : 1 + p.Slots.length + lsum p.Slots ≤ 240
          · cases decide (p.Slots.getLast? = some []) with
            | true => simp [hs]
            | false => rw [Option.bind_some, if_neg (by decide), if_neg (by simp; omega)]; simp [hs]
          · rw [if_neg (c := (decide (1 + p.Slots.length + lsum p.Slots ≤ 240) && !(decide (p.Slots.getLast? = some []))) = true) (by simp; omega)]
            cases decide (p.Slots.getLast? = some []) with
            | true => simp
            | false => rw [Option.bind_some, if_neg (by decide), if_pos (by simp; omega)]; rfl
        · have : p.Slots = [] := by cases hq : p.Slots with | nil => rfl | cons a l => rw [hq] at h0; simp at h0
          rw [if_neg (by simp; omega), this]; rfl
    · rw [if_pos (by simp; omega), if_neg (by simp; omega)]
end
end Go.Proofs.YtcgbhldenkeplaaGreat
set_option linter.unusedVariables false
set_option linter.unusedSimpArgs false
set_option linter.unusedSectionVars false
namespace Go.Proofs.YtcgbhldenkeplaaGreat
open Go V Ieee
noncomputable def SOK (b : List Int) : Bool := (TR b).2 || decide (b.length = 0)
noncomputable def POK (p : Page) : Bool := PG p && p.Slots.all SOK
noncomputable def HOK (h : Heap) : Bool := decide (h.Pages.length ≤ 16) && h.Pages.all POK
theorem len0 (b : List Int) : ((b.length : Int) == 0) = decide (b.length = 0) := by
 cases b with
 | nil => rfl
 | cons a l => simp; omega
theorem impl_HeapOk_1_1 (b : List Int) (hb : okB b) : impl_HeapOk_1_1.f b = some (SOK b) := by
 unfold impl_HeapOk_1_1.f SOK
 rw [impl_TupleRead b hb.2 (by have := hb.1; omega), Option.bind_some, len0]
theorem areAllB (l : List (List Int)) (hl : l.length ≤ 1048576) (f : List Int → Option Bool) (g : List Int → Bool) (h : ∀ b ∈ l, f b = some (g b)) : impl_areAll_byte.f l f = some (l.all g) := by
 unfold impl_areAll_byte.f slices_ContainsFunc_byte_byte.f slices_IndexFunc_byte_byte.f
 have hs := iter_scanG (body := slices_IndexFunc_byte_byte.b0 l (fun x0 => impl_areAll_byte_1.f x0 f)) l.length (fun k => (k : Int)) (fun k => g (at_ l (k : Int))) (fun k => (k : Int)) (-1) (fun k hk => by
  unfold slices_IndexFunc_byte_byte.b0 impl_areAll_byte_1.f
  simp only []
  rw [if_pos (by simp; omega), if_pos ⟨by omega, by omega⟩, at_nat _ k hk, h _ (List.getElem_mem hk), Option.bind_some, Option.bind_some, w64 (by omega) (by omega)]
  cases g l[k] <;> rfl) (by
  unfold slices_IndexFunc_byte_byte.b0
  simp only []
  rw [if_neg (by simp)]; rfl)
 rw [all_range l g _ (fun k hk => by rw [at_nat _ k hk])] at hs
 rcases hs with ⟨a, e⟩ | ⟨a, k, hk, e⟩
 · rw [show ((0 : Int)) = ((0 : Nat) : Int) from rfl] at *
   rw [e, a]; rfl
 · rw [show ((0 : Int)) = ((0 : Nat) : Int) from rfl] at *
   rw [e, a, Option.bind_some, Option.bind_some, decide_eq_true (by omega)]; rfl
theorem areAllP (l : List Page) (hl : l.length ≤ 1048576) (f : Page → Option Bool) (g : Page → Bool) (h : ∀ b ∈ l, f b = some (g b)) : impl_areAll_impl_Page.f l f = some (l.all g) := by
 unfold impl_areAll_impl_Page.f slices_ContainsFunc_impl_Page_impl_Page.f slices_IndexFunc_impl_Page_impl_Page.f
 have hs := iter_scanG (body := slices_IndexFunc_impl_Page_impl_Page.b0 l (fun x0 => impl_areAll_impl_Page_1.f x0 f)) l.length (fun k => (k : Int)) (fun k => g (at_ l (k : Int))) (fun k => (k : Int)) (-1) (fun k hk => by
  unfold slices_IndexFunc_impl_Page_impl_Page.b0 impl_areAll_impl_Page_1.f
  simp only []
  rw [if_pos (by simp; omega), if_pos ⟨by omega, by omega⟩, at_nat _ k hk, h _ (List.getElem_mem hk), Option.bind_some, Option.bind_some, w64 (by omega) (by omega)]
  cases g l[k] <;> rfl) (by
  unfold slices_IndexFunc_impl_Page_impl_Page.b0
  simp only []
  rw [if_neg (by simp)]; rfl)
 rw [all_range l g _ (fun k hk => by rw [at_nat _ k hk])] at hs
 rcases hs with ⟨a, e⟩ | ⟨a, k, hk, e⟩
 · rw [show ((0 : Int)) = ((0 : Nat) : Int) from rfl] at *
   rw [e, a]; rfl
 · rw [show ((0 : Int)) = ((0 : Nat) : Int) from rfl] at *
   rw [e, a, Option.bind_some, Option.bind_some, decide_eq_true (by omega)]; rfl
theorem impl_HeapOk (h : Heap) (hh : okH h) : impl_HeapOk.f h = some (HOK h) := by
 unfold impl_HeapOk.f HOK
 rw [areAllP h.Pages hh.1 _ POK (fun p hp => by
  have hp' := hh.2 p hp
  unfold impl_HeapOk_1.f POK
  rw [impl_PageUsed p hp', Option.bind_some, pu_ge, areAllB p.Slots hp'.2.1 _ SOK (fun b hb => impl_HeapOk_1_1 b (hp'.2.2 b hb))]
  cases PG p <;> cases p.Slots.all SOK <;> rfl)]
 by_cases hl : h.Pages.length ≤ 16
 · rw [if_pos (by simp; omega), decide_eq_true hl]; rfl
 · rw [if_neg (by simp; omega), decide_eq_false hl]; rfl
theorem spec_HeapOk (h : Heap) (hh : okH h) : spec_HeapOk.f h = some (HOK h) := by
 unfold spec_HeapOk.f HOK
 by_cases hl : h.Pages.length ≤ 16
 · rw [if_neg (by simp; omega), decide_eq_true hl, Bool.true_and, show ((0 : Int)) = ((0 : Nat) : Int) from rfl]
   rw [iter_scan h.Pages.length (fun k => (k : Int)) (fun k => POK (at_ h.Pages (k : Int))) false true]
   · rw [all_range h.Pages POK _ (fun k hk => by rw [at_nat _ k hk])]
     cases h.Pages.all POK <;> rfl
   · intro k hk
     have hp := hh.2 _ (List.getElem_mem hk)
     have hsl := hp.2.1
     unfold spec_HeapOk.b0
     rw [if_pos (by simp; omega), if_pos ⟨by omega, by omega⟩, at_nat _ k hk, spec_PageUsed _ hp, Option.bind_some, pu_neg]
     unfold POK
     cases hg : PG h.Pages[k] with
     | false => rfl
     | true =>
      rw [if_neg (by decide), Bool.true_and, show ((0 : Int)) = ((0 : Nat) : Int) from rfl]
      rw [iter_scan (h.Pages[k]).Slots.length (fun j => (j : Int)) (fun j => SOK (at_ (h.Pages[k]).Slots (j : Int))) (Sum.inr false) (Sum.inl ((k : Int) + 1))]
      · rw [all_range _ SOK _ (fun j hj => by rw [at_nat _ j hj])]
        cases (h.Pages[k]).Slots.all SOK <;> rfl
      · intro j hj
        have hb := hp.2.2 _ (List.getElem_mem hj)
        unfold spec_HeapOk.b1
        rw [at_nat _ k hk, if_pos (by simp; omega), if_pos ⟨by omega, by omega⟩, at_nat _ j hj, spec_TupleRead _ hb.2, Option.bind_some, if_pos ⟨by omega, by omega⟩, w64 (by omega) (by omega)]
        unfold SOK
        have e : decide ((((h.Pages[k]).Slots[j]).length : Int) > 0) = !decide (((h.Pages[k]).Slots[j]).length = 0) := by
         by_cases hz : ((h.Pages[k]).Slots[j]).length = 0
         · rw [decide_eq_true hz, decide_eq_false (by omega)]; rfl
         · rw [decide_eq_false hz, decide_eq_true (by omega)]; rfl
        rw [e]
        cases (TR (h.Pages[k]).Slots[j]).2 <;> cases decide (((h.Pages[k]).Slots[j]).length = 0) <;> rfl
      · unfold spec_HeapOk.b1
        rw [at_nat _ k hk, if_neg (by simp), w64 (by omega) (by omega)]; rfl
   · unfold spec_HeapOk.b0
     rw [if_neg (by simp)]; rfl
 · rw [if_pos (by simp; omega), decide_eq_false hl]; rfl
def P0 : Page := Page.mk 0 []
end Go.Proofs.YtcgbhldenkeplaaGreat
set_option linter.unusedVariables false
set_option linter.unusedSimpArgs false
set_option linter.unusedSectionVars false
namespace Go.Proofs.YtcgbhldenkeplaaGreat
open Go V Ieee
theorem hok16 {h : Heap} (hk : HOK h = true) : h.Pages.length ≤ 16 := by
 unfold HOK at hk
 simp only [Bool.and_eq_true, decide_eq_true_eq] at hk
 exact hk.1
end Go.Proofs.YtcgbhldenkeplaaGreat
set_option linter.unusedVariables false
set_option linter.unusedSimpArgs false
set_option linter.unusedSectionVars false
namespace Go.Proofs.YtcgbhldenkeplaaGreat
open Go V Ieee
end Go.Proofs.YtcgbhldenkeplaaGreat
set_option linter.unusedVariables false
set_option linter.unusedSimpArgs false
namespace Go.Proofs.YtcgbhldenkeplaaGreat
open Go V Ieee
end Go.Proofs.YtcgbhldenkeplaaGreat
set_option linter.unusedVariables false
set_option linter.unusedSimpArgs false
namespace Go.Proofs.YtcgbhldenkeplaaGreat
open Go V Ieee
theorem pok_slots {p : Page} (h : POK p = true) : p.Slots.length ≤ 16 ∧ PG p = true ∧ ∀ b ∈ p.Slots, SOK b = true := by
 unfold POK at h
 simp only [Bool.and_eq_true, List.all_eq_true] at h
 refine ⟨?_, h.1, h.2⟩
 have := h.1
 unfold PG at this
 simp only [Bool.and_eq_true, decide_eq_true_eq] at this
 exact this.1.1.1.2
end Go.Proofs.YtcgbhldenkeplaaGreat
set_option linter.unusedVariables false
set_option linter.unusedSimpArgs false
namespace Go.Proofs.YtcgbhldenkeplaaGreat
open Go V Ieee
noncomputable def one (i k : Nat) (b : List Int) : List Row := if (TR b).2 = true then [Row.mk i k (TR b).1] else []
noncomputable def RS (i : Nat) : Nat → List (List Int) → List Row
 | _, [] => []
 | k, b :: l => one i k b ++ RS i (k + 1) l
noncomputable def RP : Nat → List Page → List Row
 | _, [] => []
 | i, p :: l => RS i 0 p.Slots ++ RP (i + 1) l
noncomputable def ROWS (h : Heap) : List Row := if HOK h = true then RP 0 h.Pages else []
theorem RS_app (i : Nat) : ∀ (l m : List (List Int)) (k : Nat), RS i k (l ++ m) = RS i k l ++ RS i (k + l.length) m
 | [], m, k => rfl
 | b :: l, m, k => by
  show one i k b ++ RS i (k + 1) (l ++ m) = (one i k b ++ RS i (k + 1) l) ++ _
  rw [RS_app i l m (k + 1), List.append_assoc]
  congr 2
  simp; congr 1; omega
theorem RP_app : ∀ (l m : List Page) (k : Nat), RP k (l ++ m) = RP k l ++ RP (k + l.length) m
 | [], m, k => rfl
 | b :: l, m, k => by
  show RS k 0 b.Slots ++ RP (k + 1) (l ++ m) = (RS k 0 b.Slots ++ RP (k + 1) l) ++ _
  rw [RP_app l m (k + 1), List.append_assoc]
  congr 2
  simp; congr 1; omega
theorem RS_len (i : Nat) : ∀ (l : List (List Int)) (k : Nat), (RS i k l).length ≤ l.length
 | [], _ => Nat.le_refl _
 | b :: l, k => by
  show (one i k b ++ RS i (k + 1) l).length ≤ _
  rw [List.length_append, List.length_cons]
  have := RS_len i l (k + 1)
  have h1 : (one i k b).length ≤ 1 := by unfold one; split <;> simp
  omega
theorem RP_len (c : Nat) : ∀ (l : List Page) (k : Nat), (∀ p ∈ l, p.Slots.length ≤ c) → (RP k l).length ≤ c * l.length
 | [], _, _ => by simp [RP]
 | p :: l, k, h => by
  show (RS k 0 p.Slots ++ RP (k + 1) l).length ≤ _
  rw [List.length_append, List.length_cons, Nat.mul_succ]
  have := RP_len c l (k + 1) fun q hq => h q (by simp [hq])
  have := RS_len k p.Slots 0
  have := h p (by simp)
  omega
theorem hok_pages {h : Heap} (hk : HOK h = true) : ∀ p ∈ h.Pages, POK p = true := by
 unfold HOK at hk
 simp only [Bool.and_eq_true, List.all_eq_true] at hk
 exact hk.2
theorem rows_len {h : Heap} (hk : HOK h = true) (i : Nat) : (RP 0 (h.Pages.take i)).length ≤ 256 := by
 have h1 := RP_len 16 (h.Pages.take i) 0 fun p hp => (pok_slots (hok_pages hk p (List.mem_of_mem_take hp))).1
 have h2 := hok16 hk
 have h3 : (h.Pages.take i).length ≤ 16 := by simp; omega
 omega
theorem impl_rows (h : Heap) (hh : okH h) (hk : HOK h = true) : impl_Heap_rows.f h = some (RP 0 h.Pages) := by
 unfold impl_Heap_rows.f
 have h16 := hok16 hk
 rw [show (([] : List Row), (0 : Int)) = (RP 0 (h.Pages.take 0), ((0 : Nat) : Int)) from rfl]
 refine iter_for h.Pages.length (fun i => (RP 0 (h.Pages.take i), (i : Int))) _ (fun i hi => ?_) ?_
 · have hp := hok_pages hk _ (List.getElem_mem hi)
   have hpo := hh.2 _ (List.getElem_mem hi)
   obtain ⟨p1, p2, p3⟩ := pok_slots hp
   have hrl := rows_len hk i
   unfold impl_Heap_rows.b0
   simp only []
   rw [if_pos (by simp; omega), if_pos ⟨by omega, by omega⟩]
   rw [show (RP 0 (h.Pages.take i), (0 : Int)) = (RP 0 (h.Pages.take i) ++ RS i 0 ((h.Pages[i]).Slots.take 0), ((0 : Nat) : Int)) by rw [List.take_zero]; show _ = (_ ++ [], _); rw [List.append_nil]; rfl]
   refine iter_for (h.Pages[i]).Slots.length (fun j => (RP 0 (h.Pages.take i) ++ RS i 0 ((h.Pages[i]).Slots.take j), (j : Int))) _ (fun j hj => ?_) ?_
   · have hb := hpo.2.2 _ (List.getElem_mem hj)
     have hrs := RS_len i ((h.Pages[i]).Slots.take j) 0
     have htl : ((h.Pages[i]).Slots.take j).length ≤ 16 := by simp; omega
     unfold impl_Heap_rows.b1
     simp only []
     rw [at_nat _ i hi, if_pos (by simp; omega), if_pos ⟨by omega, by omega⟩, at_nat _ j hj, impl_TupleRead _ hb.2 (by have := hb.1; omega), Option.bind_some, w64 (by omega) (by omega), List.take_succ_eq_append_getElem hj, RS_app, List.length_take, Nat.min_eq_left (by omega), Nat.zero_add]
     show _ = some (Sum.inl (_ ++ (RS i 0 _ ++ (one i j _ ++ [])), _))
     rw [List.append_nil, ← List.append_assoc]
     unfold one
     cases (TR (h.Pages[i]).Slots[j]).2 with
     | true => rw [if_pos rfl, if_pos rfl, if_pos (by simp only [Lim, List.length_append, List.length_singleton]; omega)]; rfl
     | false => rw [if_neg (by decide), if_neg (by decide), List.append_nil]; rfl
   · unfold impl_Heap_rows.b1
     simp only []
     rw [at_nat _ i hi, if_neg (by simp), List.take_length, w64 (by omega) (by omega), List.take_succ_eq_append_getElem hi, RP_app, List.length_take, Nat.min_eq_left (by omega), Nat.zero_add]
     show _ = some (Sum.inr (Sum.inl (_ ++ (RS i 0 _ ++ []), _)))
     rw [List.append_nil]; rfl
 · unfold impl_Heap_rows.b0
   simp only []
   rw [if_neg (by simp), List.take_length]; rfl
theorem spec_HeapRows (h : Heap) (hh : okH h) : spec_HeapRows.f h = some (ROWS h) := by
 unfold spec_HeapRows.f ROWS
 rw [spec_HeapOk h hh, Option.bind_some]
 cases hk : HOK h with
 | false => rfl
 | true =>
  rw [if_neg (by decide), if_pos rfl]
  have h16 := hok16 hk
  rw [show (([] : List Row), (0 : Int)) = (RP 0 (h.Pages.take 0), ((0 : Nat) : Int)) from rfl]
  refine iter_for h.Pages.length (fun i => (RP 0 (h.Pages.take i), (i : Int))) _ (fun i hi => ?_) ?_
  · have hp := hok_pages hk _ (List.getElem_mem hi)
    have hpo := hh.2 _ (List.getElem_mem hi)
    obtain ⟨p1, p2, p3⟩ := pok_slots hp
    have hrl := rows_len hk i
    unfold spec_HeapRows.b0
    simp only []
    rw [if_pos (by simp; omega)]
    rw [show (RP 0 (h.Pages.take i), (0 : Int)) = (RP 0 (h.Pages.take i) ++ RS i 0 ((h.Pages[i]).Slots.take 0), ((0 : Nat) : Int)) by rw [List.take_zero]; show _ = (_ ++ [], _); rw [List.append_nil]; rfl]
    refine iter_for (h.Pages[i]).Slots.length (fun j => (RP 0 (h.Pages.take i) ++ RS i 0 ((h.Pages[i]).Slots.take j), (j : Int))) _ (fun j hj => ?_) ?_
    · have hb := hpo.2.2 _ (List.getElem_mem hj)
      have hrs := RS_len i ((h.Pages[i]).Slots.take j) 0
      have htl : ((h.Pages[i]).Slots.take j).length ≤ 16 := by simp; omega
      unfold spec_HeapRows.b1
      simp only []
      rw [at_nat _ i hi, if_pos ⟨by omega, by omega⟩, if_pos (by simp; omega), if_pos ⟨by omega, by omega⟩, if_pos ⟨by omega, by omega⟩, at_nat _ j hj, spec_TupleRead _ hb.2, Option.bind_some, w64 (by omega) (by omega), List.take_succ_eq_append_getElem hj, RS_app, List.length_take, Nat.min_eq_left (by omega), Nat.zero_add]
      show _ = some (Sum.inl (_ ++ (RS i 0 _ ++ (one i j _ ++ [])), _))
      rw [List.append_nil, ← List.append_assoc]
      unfold one
      cases (TR (h.Pages[i]).Slots[j]).2 with
      | true => rw [if_pos rfl, if_pos rfl, if_pos (by simp only [Lim, List.length_append, List.length_singleton]; omega)]; rfl
      | false => rw [if_neg (by decide), if_neg (by decide), List.append_nil]; rfl
    · unfold spec_HeapRows.b1
      simp only []
      rw [at_nat _ i hi, if_pos ⟨by omega, by omega⟩, if_neg (by simp), List.take_length, w64 (by omega) (by omega), List.take_succ_eq_append_getElem hi, RP_app, List.length_take, Nat.min_eq_left (by omega), Nat.zero_add]
      show _ = some (Sum.inr (Sum.inl (_ ++ (RS i 0 _ ++ []), _)))
      rw [List.append_nil]; rfl
  · unfold spec_HeapRows.b0
    simp only []
    rw [if_neg (by simp), List.take_length]; rfl
theorem rowsOf (h : Heap) (hh : okH h) (f : Tuple → Option Bool) (g : Tuple → Bool) (hf : ∀ r ∈ ROWS h, f r.Tuple = some (g r.Tuple)) : impl_Heap_rowsOf.f h f = some ((ROWS h).filter fun r => g r.Tuple) := by
 unfold impl_Heap_rowsOf.f
 unfold ROWS at hf ⊢
 rw [impl_HeapOk h hh, Option.bind_some]
 cases hk : HOK h with
 | false => rfl
 | true =>
  rw [hk, if_pos rfl] at hf
  rw [if_neg (by decide), impl_rows h hh hk, Option.bind_some, if_pos rfl]
  have := delF_eq (fun x0 => impl_Heap_rowsOf_1.f x0 f) (fun r => !g r.Tuple) (RP 0 h.Pages) fun r hr => by
   show impl_Heap_rowsOf_1.f r f = _
   unfold impl_Heap_rowsOf_1.f
   rw [hf r hr]; rfl
  show (delF (RP 0 h.Pages) (fun x0 => impl_Heap_rowsOf_1.f x0 f)).bind _ = _
  rw [this, Option.bind_some]
  simp only [Bool.not_not]
structure Put (h : Heap) (i : Nat) (p q : Page) (g : Heap) : Prop where
 lt : i ≤ h.Pages.length
 old : p = (if i = h.Pages.length then P0 else at_ h.Pages (i : Int))
 new : g.Pages = (if i = h.Pages.length then h.Pages ++ [P0] else h.Pages).set i q
end Go.Proofs.YtcgbhldenkeplaaGreat
set_option linter.unusedVariables false
set_option linter.unusedSimpArgs false
namespace Go.Proofs.YtcgbhldenkeplaaGreat
open Go V Ieee
end Go.Proofs.YtcgbhldenkeplaaGreat
set_option linter.unusedVariables false
set_option linter.unusedSimpArgs false
namespace Go.Proofs.YtcgbhldenkeplaaGreat
open Go V Ieee
end Go.Proofs.YtcgbhldenkeplaaGreat
set_option linter.unusedVariables false
set_option linter.unusedSimpArgs false
set_option linter.unusedSectionVars false
namespace Go.Proofs.YtcgbhldenkeplaaGreat
open Go V Ieee
def runL {α σ O : Type} (step : σ → α → σ ⊕ O) (fin : σ → O) : List α → σ → O
 | [], s => fin s
 | x :: xs, s => match step s x with
  | .inl s' => runL step fin xs s'
  | .inr o => o
theorem iter_runL {α σ O S : Type} {body : S → Option (S ⊕ O)} (xs : List α) (emb : σ → Nat → S) (step : σ → α → σ ⊕ O) (fin : σ → O) (Inv : σ → Nat → Prop)
    (h : ∀ s k (hk : k < xs.length), Inv s k → body (emb s k) = some (match step s xs[k] with
      | .inl s' => .inl (emb s' (k + 1))
      | .inr o => .inr o) ∧ ∀ s', step s xs[k] = .inl s' → Inv s' (k + 1))
    (hn : ∀ s, Inv s xs.length → body (emb s xs.length) = some (.inr (fin s))) (s0 : σ) (h0 : Inv s0 0) : iter body (emb s0 0) = some (runL step fin xs s0) := by
  have key : ∀ (m k : Nat) (s : σ), k + m = xs.length → Inv s k → iter body (emb s k) = some (runL step fin (xs.drop k) s) := by
    intro m
    induction m with
    | zero =>
      intro k s hk hI
      have : k = xs.length := by omega
      subst this
      rw [List.drop_length, iter_r (hn s hI)]; rfl
    | succ m ih =>
      intro k s hk hI
      have hlt : k < xs.length := by omega
      obtain ⟨hb, hs⟩ := h s k hlt hI
      rw [List.drop_eq_getElem_cons hlt]
      unfold runL
      cases hst : step s xs[k] with
      | inl s' => rw [hst] at hb; rw [iter_l hb]; exact ih (k + 1) s' (by omega) (hs s' hst)
      | inr o => rw [hst] at hb; rw [iter_r hb]
  have := key xs.length 0 s0 (by omega) h0
  rwa [List.drop_zero] at this
def SGN (a b : Int) : Int := if a < b then -1 else if a > b then 1 else 0
theorem sgn_0 {a b : Int} : SGN a b = 0 ↔ a = b := by
 unfold SGN
 split
 · constructor <;> omega
 · split
   · constructor <;> omega
   · constructor <;> omega
def ICM (a b : Item) : Int := if a.Kind ≠ b.Kind then SGN a.Kind b.Kind else if a.N ≠ b.N then SGN a.N b.N else if FRK a.F ≠ FRK b.F then SGN (FRK a.F) (FRK b.F) else bcmp a.T b.T
theorem bcmp_at : ∀ (p : Nat) (xs ys : List Int) (h1 : p < xs.length) (h2 : p < ys.length), (∀ i, i < p → xs[i]? = ys[i]?) → xs[p] ≠ ys[p] → bcmp xs ys = if xs[p] < ys[p] then -1 else 1
 | 0, x :: xs, y :: ys, h1, h2, h, hne => by
  unfold bcmp
  have : (x == y) = false := by simpa using hne
  rw [this]
  simp only [cond_false, List.getElem_cons_zero]
  by_cases hlt : x < y
  · rw [if_pos hlt, decide_eq_true hlt]; rfl
  · rw [if_neg hlt, decide_eq_false hlt]; rfl
 | p + 1, x :: xs, y :: ys, h1, h2, h, hne => by
  unfold bcmp
  have h0 := h 0 (by omega)
  simp only [List.getElem?_cons_zero, Option.some.injEq] at h0
  have : (x == y) = true := by simpa using h0
  rw [this]
  simp only [cond_true, List.getElem_cons_succ]
  exact bcmp_at p xs ys (by simpa using h1) (by simpa using h2) (fun i hi => by simpa using h (i + 1) (by omega)) (by simpa using hne)
theorem bcmp_end : ∀ (xs ys : List Int), (∀ i, i < xs.length → i < ys.length → xs[i]? = ys[i]?) → bcmp xs ys = if xs.length < ys.length then -1 else if xs.length > ys.length then 1 else 0
 | [], [], _ => rfl
 | [], y :: ys, _ => by simp [bcmp]
 | x :: xs, [], _ => by simp [bcmp]
 | x :: xs, y :: ys, h => by
  unfold bcmp
  have h0 := h 0 (by simp) (by simp)
  simp only [List.getElem?_cons_zero, Option.some.injEq] at h0
  have : (x == y) = true := by simpa using h0
  rw [this]
  simp only [cond_true, List.length_cons]
  rw [bcmp_end xs ys fun i h1 h2 => by simpa using h (i + 1) (by simpa using h1) (by simpa using h2)]
  simp
theorem str_data (xs : List Int) : (str xs).data.toList = xs.map fun n => UInt8.ofNat n.toNat := by
 have key : ∀ (xs : List Int) (acc : ByteArray), (xs.foldl (fun r n => r.push (UInt8.ofNat n.toNat)) acc).data.toList = acc.data.toList ++ xs.map fun n => UInt8.ofNat n.toNat := by
  intro xs
  induction xs with
  | nil => intro acc; simp
  | cons x xs ih => intro acc; rw [List.foldl_cons, ih]; simp
 exact (key xs ByteArray.empty).trans (List.nil_append _)
theorem str_size (xs : List Int) : (str xs).size = xs.length := by
 have := congrArg List.length (str_data xs)
 rw [List.length_map, Array.length_toList] at this
 exact this
theorem str_get (xs : List Int) (i : Nat) (h : i < xs.length) : (str xs)[i]! = UInt8.ofNat (xs[i]).toNat := by
 have hs : i < (str xs).size := by rw [str_size]; exact h
 rw [getElem!_pos (str xs) i hs]
 have h1 : (str xs)[i] = (str xs).data[i] := rfl
 have h2 : (str xs).data.toList[i]? = (xs.map fun n => UInt8.ofNat n.toNat)[i]? := by rw [str_data]
 rw [List.getElem?_map, List.getElem?_eq_getElem h, Array.getElem?_toList, Array.getElem?_eq_getElem (show i < (str xs).data.size from hs)] at h2
 rw [h1]; exact Option.some.inj h2
theorem u8_lt {a b : Int} (ha : InK .u8 a) (hb : InK .u8 b) : (UInt8.ofNat a.toNat < UInt8.ofNat b.toNat) ↔ a < b := by
 have h1 := u8_of ha
 have h2 := u8_of hb
 rw [UInt8.lt_iff_toNat_lt, UInt8.toNat_ofNat', UInt8.toNat_ofNat', Nat.mod_eq_of_lt (by omega), Nat.mod_eq_of_lt (by omega)]
 omega
theorem u8_eq {a b : Int} (ha : InK .u8 a) (hb : InK .u8 b) : (UInt8.ofNat a.toNat = UInt8.ofNat b.toNat) ↔ a = b := by
 have h1 := u8_of ha
 have h2 := u8_of hb
 rw [← UInt8.toNat_inj, UInt8.toNat_ofNat', UInt8.toNat_ofNat', Nat.mod_eq_of_lt (by omega), Nat.mod_eq_of_lt (by omega)]
 omega
theorem bcmpS_eq (xs ys : List Int) (hx : ∀ x ∈ xs, InK .u8 x) (hy : ∀ x ∈ ys, InK .u8 x) : bcmpS xs ys = bcmp xs ys := by
 unfold bcmpS Extern.BytealgCompare.cmp
 rw [str_size, str_size]
 cases hf : (List.range (min xs.length ys.length)).find? (fun i => (str xs)[i]! != (str ys)[i]!) with
 | none =>
  rw [List.find?_eq_none] at hf
  rw [bcmp_end xs ys fun i h1 h2 => ?_]
  have := hf i (List.mem_range.2 (by omega))
  rw [str_get xs i h1, str_get ys i h2] at this
  have h3 : UInt8.ofNat (xs[i]).toNat = UInt8.ofNat (ys[i]).toNat := by simpa using this
  rw [List.getElem?_eq_getElem h1, List.getElem?_eq_getElem h2, (u8_eq (hx _ (List.getElem_mem h1)) (hy _ (List.getElem_mem h2))).1 h3]
 | some i =>
  have hm := List.mem_range.1 (List.mem_of_find?_eq_some hf)
  have h1 : i < xs.length := by omega
  have h2 : i < ys.length := by omega
  have hp := List.find?_some hf
  rw [List.find?_range_eq_some] at hf
  have hne : xs[i] ≠ ys[i] := fun e => by
   rw [str_get xs i h1, str_get ys i h2, e] at hp
   simp at hp
  rw [bcmp_at i xs ys h1 h2 (fun j hj => by
   have := hf.2.2 j hj
   rw [str_get xs j (by omega), str_get ys j (by omega)] at this
   have h3 : UInt8.ofNat (xs[j]).toNat = UInt8.ofNat (ys[j]).toNat := by simpa using this
   rw [List.getElem?_eq_getElem (by omega), List.getElem?_eq_getElem (by omega), (u8_eq (hx _ (List.getElem_mem (by omega))) (hy _ (List.getElem_mem (by omega)))).1 h3]) hne]
  simp only []
  rw [str_get xs i h1, str_get ys i h2]
  by_cases hlt : xs[i] < ys[i]
  · rw [if_pos hlt, if_pos ((u8_lt (hx _ (List.getElem_mem h1)) (hy _ (List.getElem_mem h2))).2 hlt)]
  · rw [if_neg hlt, if_neg fun h => hlt ((u8_lt (hx _ (List.getElem_mem h1)) (hy _ (List.getElem_mem h2))).1 h)]
theorem spec_l3texts (a b : List Int) (ha : a.length ≤ 1000000000) : spec_l3texts.f a b = some (bcmp a b) := by
 unfold spec_l3texts.f
 have key : ∀ (m k : Nat), k + m = a.length → k ≤ b.length → iter (spec_l3texts.b0 a b) (k : Int) = some (bcmp (a.drop k) (b.drop k)) := by
  intro m
  induction m with
  | zero =>
   intro k hk hb
   have : k = a.length := by omega
   subst this
   refine iter_r ?_
   unfold spec_l3texts.b0
   rw [if_neg (by simp), List.drop_length]
   by_cases hl : a.length < b.length
   · rw [if_pos (by simp; omega), List.drop_eq_getElem_cons hl]; rfl
   · rw [if_neg (by simp; omega), if_neg (by simp; omega), List.drop_eq_nil_of_le (by omega)]; rfl
  | succ m ih =>
   intro k hk hb
   have hk1 : k < a.length := by omega
   by_cases hk2 : k < b.length
   · rw [List.drop_eq_getElem_cons hk1, List.drop_eq_getElem_cons hk2]
     unfold bcmp
     by_cases h1 : a[k] < b[k]
     · have hne : (a[k] == b[k]) = false := by simp; omega
       rw [hne, decide_eq_true h1]
       refine iter_r ?_
       unfold spec_l3texts.b0
       rw [if_pos (by simp; omega), if_pos ⟨by omega, by omega⟩, if_pos ⟨by omega, by omega⟩, at_nat _ k hk1, at_nat _ k hk2, if_pos (by simpa using h1)]; rfl
     · by_cases h2 : a[k] > b[k]
       · have hne : (a[k] == b[k]) = false := by simp; omega
         rw [hne, decide_eq_false h1]
         refine iter_r ?_
         unfold spec_l3texts.b0
         rw [if_pos (by simp; omega), if_pos ⟨by omega, by omega⟩, if_pos ⟨by omega, by omega⟩, at_nat _ k hk1, at_nat _ k hk2, if_neg (by simpa using h1), if_pos ⟨by omega, by omega⟩, if_pos ⟨by omega, by omega⟩, if_pos (by simpa using h2)]; rfl
       · have hne : (a[k] == b[k]) = true := by simp; omega
         rw [hne, cond_true, ← ih (k + 1) (by omega) (by omega)]
         refine iter_l ?_
         unfold spec_l3texts.b0
         rw [if_pos (by simp; omega), if_pos ⟨by omega, by omega⟩, if_pos ⟨by omega, by omega⟩, at_nat _ k hk1, at_nat _ k hk2, if_neg (by simpa using h1), if_pos ⟨by omega, by omega⟩, if_pos ⟨by omega, by omega⟩, if_neg (by simpa using h2), w64 (by omega) (by omega)]; rfl
   · refine iter_r ?_
     unfold spec_l3texts.b0
     rw [if_neg (by simp; omega), if_neg (by simp; omega), if_pos (by simp; omega), List.drop_eq_getElem_cons hk1, List.drop_eq_nil_of_le (show b.length ≤ k by omega)]; rfl
 exact key a.length 0 (by omega) (by omega)
theorem cmpI (a b : Int) : cmp_Compare_int.f a b = some (SGN a b) := by
 unfold cmp_Compare_int.f cmp_isNaN_int.f SGN
 simp only [bne_self_eq_false, Option.bind_some, Bool.false_eq_true, if_false, decide_eq_true_eq]
 split
 · rfl
 · split <;> rfl
theorem cmpU (a b : Int) : cmp_Compare_uint64.f a b = some (SGN a b) := by
 unfold cmp_Compare_uint64.f cmp_isNaN_uint64.f SGN
 simp only [bne_self_eq_false, Option.bind_some, Bool.false_eq_true, if_false, decide_eq_true_eq]
 split
 · rfl
 · split <;> rfl
theorem cmpOr (l : List Int) (hl : l.length ≤ 1000) : cmp_Or_int.f l = some (runL (fun (_ : Unit) x => if x ≠ 0 then .inr x else .inl ()) (fun _ => 0) l ()) := by
 unfold cmp_Or_int.f
 refine iter_runL l (fun _ k => (k : Int)) _ _ (fun _ _ => True) (fun s k hk _ => ⟨?_, fun _ _ => trivial⟩) (fun s _ => ?_) () trivial
 · unfold cmp_Or_int.b0
   rw [if_pos (by simp; omega), if_pos ⟨by omega, by omega⟩, at_nat _ k hk, w64 (by omega) (by omega)]
   by_cases h : l[k] = 0
   · rw [if_neg (by simpa using h), if_neg (by simpa using h)]; rfl
   · rw [if_pos (by simpa using h), if_pos (by simpa using h)]
 · unfold cmp_Or_int.b0
   rw [if_neg (by simp)]; rfl
theorem impl_compareItems (a b : Item) (ha : ok_Item a) (hb : ok_Item b) : impl_compareItems.f a b = some (ICM a b) := by
 unfold impl_compareItems.f impl_FloatCompare.f bytes_Compare.f
 rw [cmpI, Option.bind_some, cmpI, Option.bind_some, impl_FloatRank _ ha.2.2.1, Option.bind_some, impl_FloatRank _ hb.2.2.1, Option.bind_some, cmpU, Option.bind_some, Option.bind_some, Option.bind_some, bcmpS_eq _ _ ha.2.2.2.2 hb.2.2.2.2, cmpOr _ (by simp), Option.bind_some]
 congr 1
 unfold ICM runL
 by_cases h1 : a.Kind = b.Kind
 · rw [if_neg (by simpa using sgn_0.2 h1), if_neg (by simpa using h1)]
   simp only []
   unfold runL
   by_cases h2 : a.N = b.N
   · rw [if_neg (by simpa using sgn_0.2 h2), if_neg (by simpa using h2)]
     simp only []
     unfold runL
     by_cases h3 : FRK a.F = FRK b.F
     · rw [if_neg (by simp [sgn_0, h3]), if_neg (by simpa using h3)]
       simp only []
       unfold runL
       by_cases h4 : bcmp a.T b.T = 0
       · rw [if_neg (by simpa using h4)]; simp only []; unfold runL; exact h4.symm
       · rw [if_pos (by simpa using h4)]
     · rw [if_pos (fun h => h3 (by have := sgn_0.1 h; omega)), if_pos h3]
   · rw [if_pos (fun h => h2 (sgn_0.1 h)), if_pos h2]
 · rw [if_pos (fun h => h1 (sgn_0.1 h)), if_pos h1]
theorem spec_FloatCompare (x y : Nat) (hx : okF x) (hy : okF y) : spec_FloatCompare.f x y = some (SGN (FRK x) (FRK y)) := by
 unfold spec_FloatCompare.f SGN
 rw [spec_FloatRank _ hx, Option.bind_some, spec_FloatRank _ hy, Option.bind_some]
 simp only [decide_eq_true_eq]
 split
 · rfl
 · split <;> rfl
theorem spec_ItemCompare (a b : Item) (ha : ok_Item a) (hb : ok_Item b) (va : IOK a = true) (vb : IOK b = true) : spec_ItemCompare.f a b = some (ICM a b) := by
 unfold spec_ItemCompare.f ICM
 rw [spec_ItemOk a ha.2.2.1, Option.bind_some, va, if_neg (by decide), spec_ItemOk b hb.2.2.1, Option.bind_some, vb]
 simp only [Option.bind_some, Bool.not_true, Bool.false_eq_true, if_false]
 by_cases h1 : a.Kind = b.Kind
 · rw [if_neg (show ¬ ((a.Kind != b.Kind) = true) by simpa using h1), if_neg (show ¬ (a.Kind ≠ b.Kind) by simpa using h1)]
   by_cases h2 : a.N = b.N
   · rw [if_neg (show ¬ ((a.N != b.N) = true) by simpa using h2), if_neg (show ¬ (a.N ≠ b.N) by simpa using h2), spec_FloatCompare _ _ ha.2.2.1 hb.2.2.1, Option.bind_some]
     by_cases h3 : FRK a.F = FRK b.F
     · rw [if_neg (by simp [sgn_0, h3]), if_neg (by simpa using h3), spec_l3texts _ _ (by have := iok_T va; omega)]; rfl
     · rw [if_pos (by simp [sgn_0]; omega), if_pos h3]
   · rw [if_pos (show (a.N != b.N) = true by simpa using h2), if_pos (show a.N ≠ b.N from h2)]
     unfold SGN
     simp only [decide_eq_true_eq]
     split
     · rfl
     · rw [if_pos (by omega)]
 · rw [if_pos (show (a.Kind != b.Kind) = true by simpa using h1), if_pos (show a.Kind ≠ b.Kind from h1)]
   unfold SGN
   simp only [decide_eq_true_eq]
   split
   · rfl
   · rw [if_pos (by omega)]
end Go.Proofs.YtcgbhldenkeplaaGreat
set_option linter.unusedVariables false
set_option linter.unusedSimpArgs false
namespace Go.Proofs.YtcgbhldenkeplaaGreat
open Go V Ieee
def rowG (r : Row) : Prop := ok_Tuple r.Tuple ∧ TOK r.Tuple = true
theorem tr_tok {b : List Int} (h : (TR b).2 = true) : TOK (TR b).1 = true := by
 unfold TR at h ⊢
 by_cases hc : 10 + x8 b ≤ b.length ∧ (RK b).2 = true ∧ (RV b).2 = true ∧ TB (TT b) = b
 · rw [if_pos hc]
   cases hh : TOK (TT b) with
   | true => rfl
   | false =>
    have he := hc.2.2.2
    unfold TB at he
    rw [if_neg (by rw [hh]; decide)] at he
    have := hc.1
    rw [← he] at this; simp at this
 · rw [if_neg hc] at h; cases h
theorem one_g (i k : Nat) (b : List Int) (hb : okB b) : ∀ r ∈ one i k b, rowG r := by
 unfold one
 intro r hr
 split at hr
 · rename_i h; rw [List.mem_singleton.1 hr]; exact ⟨tr_ok b hb.2, tr_tok h⟩
 · cases hr
theorem RS_g (i : Nat) : ∀ (l : List (List Int)) (k : Nat), (∀ b ∈ l, okB b) → ∀ r ∈ RS i k l, rowG r
 | [], _, _ => fun r hr => by cases hr
 | b :: l, k, h => fun r hr => by
  rcases List.mem_append.1 (show r ∈ one i k b ++ RS i (k + 1) l from hr) with hr | hr
  · exact one_g i k b (h b (by simp)) r hr
  · exact RS_g i l (k + 1) (fun b hb => h b (by simp [hb])) r hr
theorem RP_g : ∀ (l : List Page) (k : Nat), (∀ p ∈ l, okP p) → ∀ r ∈ RP k l, rowG r
 | [], _, _ => fun r hr => by cases hr
 | p :: l, k, h => fun r hr => by
  rcases List.mem_append.1 (show r ∈ RS k 0 p.Slots ++ RP (k + 1) l from hr) with hr | hr
  · exact RS_g k _ 0 (h p (by simp)).2.2 r hr
  · exact RP_g l (k + 1) (fun b hb => h b (by simp [hb])) r hr
theorem rows_g (h : Heap) (hh : okH h) : ∀ r ∈ ROWS h, rowG r := by
 unfold ROWS
 split
 · exact RP_g _ _ hh.2
 · intro r hr; cases hr
theorem rows_256 (h : Heap) : (ROWS h).length ≤ 256 := by
 unfold ROWS
 split
 · rename_i hk
   have := rows_len hk h.Pages.length
   rw [List.take_length] at this
   exact this
 · simp
def ST (l : List Int) (x : Int) : Int := if rin x 1 400 = true ∧ x < (l.length : Int) then (if rin (at_ l x) 1 2 = true then at_ l x else 0) else 0
theorem spec_StatusOf (l : List Int) (x : Int) : spec_StatusOf.f l x = some (ST l x) := by
 unfold spec_StatusOf.f ST
 rw [in_rin, Option.bind_some]
 cases hr : rin x 1 400 with
 | false => rw [if_neg (c := false = true ∧ _) (by simp)]; rfl
 | true =>
  have hx := rin_iff.1 hr
  by_cases hl : x < (l.length : Int)
  · have e : ((!true) || decide (x ≥ (l.length : Int))) = false := by simp; omega
    rw [e, if_neg (by decide), if_pos ⟨by omega, hl⟩, in_rin, Option.bind_some, Option.bind_some, if_pos (c := true = true ∧ _) ⟨rfl, hl⟩]
    cases rin (at_ l x) 1 2 with
    | true => rw [if_neg (by decide), if_pos ⟨by omega, hl⟩]; rfl
    | false => rfl
  · have e : ((!true) || decide (x ≥ (l.length : Int))) = true := by simp; omega
    rw [e, if_pos rfl, Option.bind_some, if_pos rfl, if_neg (fun h => hl h.2)]
theorem impl_StatusOf (l : List Int) (x : Int) : impl_StatusOf.f l x = some (ST l x) := by
 unfold impl_StatusOf.f ST
 have e1 : impl_isXid.f x = some (rin x 1 400) := rfl
 rw [e1, Option.bind_some]
 cases hr : rin x 1 400 with
 | false => rw [if_neg (c := false = true ∧ _) (by simp)]; rfl
 | true =>
  have hx := rin_iff.1 hr
  by_cases hl : x < (l.length : Int)
  · have e : ((!true) || decide (x ≥ (l.length : Int))) = false := by simp; omega
    rw [e, if_neg (by decide), if_pos ⟨by omega, hl⟩, within_rin, Option.bind_some, Option.bind_some, if_pos (c := true = true ∧ _) ⟨rfl, hl⟩]
    cases h2 : rin (at_ l x) 0 2 with
    | true =>
     rw [if_neg (by decide), if_pos ⟨by omega, hl⟩]
     cases h3 : rin (at_ l x) 1 2 with
     | true => rfl
     | false =>
      have h2' := rin_iff.1 h2
      have : ¬ (1 ≤ at_ l x ∧ at_ l x ≤ 2) := fun h => by rw [rin_iff.2 h] at h3; cases h3
      have h0 : at_ l x = 0 := by omega
      rw [h0]; rfl
    | false =>
     rw [if_pos (by decide)]
     cases h3 : rin (at_ l x) 1 2 with
     | true => have := rin_iff.1 h3; rw [rin_iff.2 (show 0 ≤ at_ l x ∧ at_ l x ≤ 2 by omega)] at h2; cases h2
     | false => rfl
  · have e : ((!true) || decide (x ≥ (l.length : Int))) = true := by simp; omega
    rw [e, if_pos rfl, Option.bind_some, if_pos rfl, if_neg (fun h => hl h.2)]
end Go.Proofs.YtcgbhldenkeplaaGreat
set_option linter.unusedVariables false
set_option linter.unusedSimpArgs false
set_option linter.unusedSectionVars false
namespace Go.Proofs.YtcgbhldenkeplaaGreat
open Go V Ieee
theorem sgn_swap (a b : Int) : SGN b a = - SGN a b := by unfold SGN; split <;> split <;> (try split) <;> omega
theorem sgn_le {a b : Int} : SGN a b ≤ 0 ↔ a ≤ b := by unfold SGN; split <;> (try split) <;> omega
theorem bcmp_swap : ∀ (xs ys : List Int), bcmp ys xs = - bcmp xs ys
 | [], [] => rfl
 | [], y :: ys => rfl
 | x :: xs, [] => rfl
 | x :: xs, y :: ys => by
  have ih := bcmp_swap xs ys
  rw [bcmp, bcmp]
  by_cases h : x = y
  · subst h; simp [ih]
  · have h1 : (x == y) = false := by simpa using h
    have h2 : (y == x) = false := by simpa using fun e => h e.symm
    rw [h1, h2, cond_false, cond_false]
    by_cases hl : x < y
    · rw [decide_eq_true hl, decide_eq_false (by omega)]; rfl
    · rw [decide_eq_false hl, decide_eq_true (by omega)]; rfl
theorem bcmp_trans : ∀ (xs ys zs : List Int), bcmp xs ys ≤ 0 → bcmp ys zs ≤ 0 → bcmp xs zs ≤ 0
 | [], ys, [], _, _ => by simp [bcmp]
 | [], ys, z :: zs, _, _ => by simp [bcmp]
 | x :: xs, [], zs, h, _ => by simp [bcmp] at h
 | x :: xs, y :: ys, [], _, h => by simp [bcmp] at h
 | x :: xs, y :: ys, z :: zs, h1, h2 => by
  have ih := bcmp_trans xs ys zs
  rw [bcmp] at h1 h2 ⊢
  by_cases hxy : x = y
  · subst hxy
    simp only [beq_self_eq_true, cond_true] at h1
    by_cases hyz : x = z
    · subst hyz
      simp only [beq_self_eq_true, cond_true] at h2 ⊢
      exact ih h1 h2
    · have e : (x == z) = false := by simpa using hyz
      rw [e, cond_false] at h2 ⊢
      exact h2
  · have e : (x == y) = false := by simpa using hxy
    rw [e, cond_false] at h1
    have hlt : x < y := by
     by_cases hl : x < y
     · exact hl
     · rw [decide_eq_false hl] at h1; simp at h1
    by_cases hyz : y = z
    · subst hyz
      rw [e, cond_false, decide_eq_true hlt]; decide
    · have e2 : (y == z) = false := by simpa using hyz
      rw [e2, cond_false] at h2
      have hlt2 : y < z := by
       by_cases hl : y < z
       · exact hl
       · rw [decide_eq_false hl] at h2; simp at h2
      have e3 : (x == z) = false := by simpa using (show x ≠ z by omega)
      rw [e3, cond_false, decide_eq_true (show x < z by omega)]; decide
theorem icm_swap (a b : Item) : ICM b a = - ICM a b := by
 unfold ICM
 by_cases h1 : a.Kind = b.Kind
 · rw [if_neg (show ¬ (b.Kind ≠ a.Kind) from fun e => e h1.symm), if_neg (show ¬ (a.Kind ≠ b.Kind) from fun e => e h1)]
   by_cases h2 : a.N = b.N
   · rw [if_neg (show ¬ (b.N ≠ a.N) from fun e => e h2.symm), if_neg (show ¬ (a.N ≠ b.N) from fun e => e h2)]
     by_cases h3 : FRK a.F = FRK b.F
     · rw [if_neg (show ¬ (FRK b.F ≠ FRK a.F) from fun e => e h3.symm), if_neg (show ¬ (FRK a.F ≠ FRK b.F) from fun e => e h3)]; exact bcmp_swap _ _
     · rw [if_pos (show FRK b.F ≠ FRK a.F from fun e => h3 e.symm), if_pos (show FRK a.F ≠ FRK b.F from h3)]; exact sgn_swap _ _
   · rw [if_pos (show b.N ≠ a.N from fun e => h2 e.symm), if_pos (show a.N ≠ b.N from h2)]; exact sgn_swap _ _
 · rw [if_pos (show b.Kind ≠ a.Kind from fun e => h1 e.symm), if_pos (show a.Kind ≠ b.Kind from h1)]; exact sgn_swap _ _
theorem icm_trans (a b c : Item) (h1 : ICM a b ≤ 0) (h2 : ICM b c ≤ 0) : ICM a c ≤ 0 := by
 have neq : ∀ {x y : Int}, x ≠ y → SGN x y ≤ 0 → x < y := fun hne h => by have := sgn_le.1 h; omega
 unfold ICM at h1 h2 ⊢
 by_cases k1 : a.Kind = b.Kind
 · rw [if_neg (by simpa using k1)] at h1
   by_cases k2 : b.Kind = c.Kind
   · rw [if_neg (by simpa using k2)] at h2
     rw [if_neg (by simpa using k1.trans k2)]
     by_cases n1 : a.N = b.N
     · rw [if_neg (by simpa using n1)] at h1
       by_cases n2 : b.N = c.N
       · rw [if_neg (by simpa using n2)] at h2
         rw [if_neg (by simpa using n1.trans n2)]
         by_cases f1 : FRK a.F = FRK b.F
         · rw [if_neg (by simpa using f1)] at h1
           by_cases f2 : FRK b.F = FRK c.F
           · rw [if_neg (by simpa using f2)] at h2
             rw [if_neg (by simpa using f1.trans f2)]
             exact bcmp_trans _ _ _ h1 h2
           · rw [if_pos f2] at h2
             rw [if_pos (fun e => f2 (f1.symm.trans e)), f1]; exact h2
         · rw [if_pos f1] at h1
           by_cases f2 : FRK b.F = FRK c.F
           · rw [if_pos (fun e => f1 (e.trans f2.symm)), ← f2]; exact h1
           · rw [if_pos f2] at h2
             have q1 := neq (fun e => f1 (by omega)) h1
             have q2 := neq (fun e => f2 (by omega)) h2
             rw [if_pos (fun e => by omega)]
             exact sgn_le.2 (by omega)
       · rw [if_pos n2] at h2
         rw [if_pos (fun e => n2 (n1.symm.trans e)), n1]; exact h2
     · rw [if_pos n1] at h1
       by_cases n2 : b.N = c.N
       · rw [if_pos (fun e => n1 (e.trans n2.symm)), ← n2]; exact h1
       · rw [if_pos n2] at h2
         have q1 := neq n1 h1
         have q2 := neq n2 h2
         rw [if_pos (fun e => by omega)]
         exact sgn_le.2 (by omega)
   · rw [if_pos k2] at h2
     rw [if_pos (fun e => k2 (k1.symm.trans e)), k1]; exact h2
 · rw [if_pos k1] at h1
   by_cases k2 : b.Kind = c.Kind
   · rw [if_pos (fun e => k1 (e.trans k2.symm)), ← k2]; exact h1
   · rw [if_pos k2] at h2
     have q1 := neq k1 h1
     have q2 := neq k2 h2
     rw [if_pos (fun e => by omega)]
     exact sgn_le.2 (by omega)
def ltK (x y : Row) : Bool := decide (ICM x.Tuple.Key y.Tuple.Key < 0)
theorem ltK_asym {x y : Row} (h : ltK x y = true) : ltK y x = false := by
 unfold ltK at *
 rw [icm_swap]
 simp only [decide_eq_true_eq, decide_eq_false_iff_not] at *
 omega
theorem ltK_neg {x y z : Row} (h1 : ltK x y = false) (h2 : ltK y z = false) : ltK x z = false := by
 unfold ltK at *
 simp only [decide_eq_false_iff_not] at *
 have := icm_trans z.Tuple.Key y.Tuple.Key x.Tuple.Key (by rw [icm_swap]; omega) (by rw [icm_swap]; omega)
 rw [icm_swap] at this
 omega
theorem tf {b : Bool} (h : ¬ b = true) : b = false := by cases b <;> simp_all
def SrtK (l : List Row) : Prop := l.Pairwise fun a b => ltK b a = false
theorem insL_at {A B : List Row} {x : Row} (hA : ∀ y ∈ A, ltK x y = false) (hB : ∀ y ∈ B, ltK x y = true) : insL ltK x (A ++ B) = A ++ x :: B := by
 unfold insL
 have h1 : (A ++ B).takeWhile (fun y => !(ltK x y)) = A := by
  rw [List.takeWhile_append_of_pos (fun y hy => by rw [hA y hy]; rfl)]
  cases B with
  | nil => simp
  | cons b B => rw [List.takeWhile_cons_of_neg (by rw [hB b (by simp)]; decide)]; simp
 have h2 : (A ++ B).dropWhile (fun y => !(ltK x y)) = B := by
  rw [List.dropWhile_append_of_pos (fun y hy => by rw [hA y hy]; rfl)]
  cases B with
  | nil => rfl
  | cons b B => rw [List.dropWhile_cons_of_neg (by rw [hB b (by simp)]; decide)]
 rw [h1, h2]
theorem srtK_ins {A B : List Row} {x : Row} (hs : SrtK (A ++ B)) (hA : ∀ y ∈ A, ltK x y = false) (hB : ∀ y ∈ B, ltK x y = true) : SrtK (A ++ x :: B) := by
 obtain ⟨p1, p2, p3⟩ := List.pairwise_append.1 hs
 refine List.pairwise_append.2 ⟨p1, List.pairwise_cons.2 ⟨fun z hz => ltK_asym (hB z hz), p2⟩, fun y hy z hz => ?_⟩
 rcases List.mem_cons.1 hz with rfl | hz
 · exact hA y hy
 · exact p3 y hy z hz
theorem cut_at (acc : List Row) (hs : SrtK acc) (x : Row) : ∃ A B, acc = A ++ B ∧ (∀ y ∈ A, ltK x y = false) ∧ ∀ y ∈ B, ltK x y = true := by
 induction acc with
 | nil => exact ⟨[], [], rfl, fun y hy => absurd hy List.not_mem_nil, fun y hy => absurd hy List.not_mem_nil⟩
 | cons d acc ih =>
  have hc := List.pairwise_cons.1 hs
  by_cases hd : ltK x d = true
  · refine ⟨[], d :: acc, rfl, fun y hy => absurd hy List.not_mem_nil, fun y hy => ?_⟩
    rcases List.mem_cons.1 hy with rfl | hy
    · exact hd
    · cases hq : ltK x y with
      | true => rfl
      | false =>
       have := ltK_neg hq (hc.1 y hy)
       rw [hd] at this; cases this
  · obtain ⟨A, B, rfl, hA, hB⟩ := ih hc.2
    refine ⟨d :: A, B, rfl, fun y hy => ?_, hB⟩
    rcases List.mem_cons.1 hy with rfl | hy
    · exact tf hd
    · exact hA y hy
theorem isort_perm {β : Type} (lt : β → β → Bool) (l : List β) : (isort lt l).Perm l := by
 unfold isort
 have key : ∀ (l acc : List β), (l.foldl (fun acc x => insL lt x acc) acc).Perm (acc ++ l) := by
  intro l
  induction l with
  | nil => intro acc; simp
  | cons x l ih =>
   intro acc
   rw [List.foldl_cons]
   refine (ih _).trans (((insL_perm lt x acc).append_right l).trans ?_)
   rw [List.cons_append]
   exact List.perm_middle.symm
 exact key l []
theorem row_eta (r : Row) : (Row.mk r.Page r.Slot (Tuple.mk r.Tuple.Xmin r.Tuple.Xmax r.Tuple.Key r.Tuple.Value)) = r := rfl
theorem rowG_ok {r : Row} (h : rowG r) : ok_Item r.Tuple.Key ∧ IOK r.Tuple.Key = true := by
 refine ⟨h.1.2.2.1, ?_⟩
 have := h.2
 unfold TOK at this
 simp only [Bool.and_eq_true] at this
 have hk := this.1.1.2
 unfold KOK at hk
 simp only [Bool.and_eq_true] at hk
 exact hk.1.1
theorem spec_l15rows (l : List Row) (hl : l.length ≤ 100000) (hg : ∀ r ∈ l, rowG r) : spec_l15rows.f l = some (isort ltK l) := by
 unfold spec_l15rows.f
 have hst : (([] : List Row), (0 : Int)) = (isort ltK (l.take 0), ((0 : Nat) : Int)) := rfl
 rw [hst]
 have hmem : ∀ k, ∀ r ∈ isort ltK (l.take k), rowG r := fun k r hr => hg r (List.mem_of_mem_take ((isort_perm ltK (l.take k)).mem_iff.1 hr))
 have hlen : ∀ k, (isort ltK (l.take k)).length ≤ 100000 := fun k => by rw [(isort_perm ltK (l.take k)).length_eq, List.length_take]; omega
 have hstep : ∀ k (hk : k < l.length), isort ltK (l.take (k + 1)) = insL ltK l[k] (isort ltK (l.take k)) := fun k hk => by rw [List.take_succ_eq_append_getElem hk]; unfold isort; rw [List.foldl_append]; rfl
 have hsrt : ∀ k, k ≤ l.length → SrtK (isort ltK (l.take k)) := by
  intro k
  induction k with
  | zero => intro _; exact .nil
  | succ k ih =>
   intro hk
   rw [hstep k (by omega)]
   obtain ⟨A, B, e, hA, hB⟩ := cut_at (isort ltK (l.take k)) (ih (by omega)) (l[k]'(by omega))
   rw [e, insL_at hA hB]
   exact srtK_ins (e ▸ ih (by omega)) hA hB
 have hfin : isort ltK l = isort ltK (l.take l.length) := by rw [List.take_length]
 rw [hfin]
 refine iter_for l.length (fun k => (isort ltK (l.take k), (k : Int))) _ (fun k hk => ?_) ?_
 · unfold spec_l15rows.b0
   simp only []
   rw [if_pos (by simp; omega), hstep k hk]
   have hm := hmem k
   have hs := hsrt k (by omega)
   have hln := hlen k
   generalize isort ltK (l.take k) = acc at hm hs hln
   obtain ⟨A, B, rfl, hA, hB⟩ := cut_at acc hs (l[k]'hk)
   rw [insL_at hA hB]
   have hx := hg _ (List.getElem_mem hk)
   have hox := rowG_ok hx
   have key : ∀ (B1 B2 : List Row), B = B1 ++ B2 → iter (spec_l15rows.b1 l (A ++ B, (k : Int))) ((A.length + B1.length : Nat) : Int) = some (.inl (A ++ l[k] :: B, ((k + 1 : Nat) : Int))) := by
    intro B1
    induction hn : B1.length generalizing B1 with
    | zero =>
     intro B2 hB'
     obtain rfl : B1 = [] := List.length_eq_zero_iff.1 hn
     refine iter_r ?_
     unfold spec_l15rows.b1
     simp only [Nat.add_zero]
     have htest : (if (decide ((A.length : Int) > (0 : Int))) = true then (if 0 ≤ (IntKind.wrap .i64 ((A.length : Int) - (1 : Int))) ∧ (IntKind.wrap .i64 ((A.length : Int) - (1 : Int))) < ((A ++ B).length : Int) then (if 0 ≤ (k : Int) ∧ (k : Int) < (l.length : Int) then ((spec_ItemCompare.f (((at_ (A ++ B) (IntKind.wrap .i64 ((A.length : Int) - (1 : Int)))).Tuple).Key) (((at_ l (k : Int)).Tuple).Key)).bind fun r38 => (some (decide (r38 > (0 : Int))))) else none) else none) else (some false)) = some false := by
      by_cases h0 : A = []
      · subst h0; rw [if_neg (by simp)]
      · obtain ⟨A', y, rfl⟩ : ∃ A' y, A = A' ++ [y] := ⟨A.dropLast, A.getLast h0, (List.dropLast_concat_getLast h0).symm⟩
        have hy := rowG_ok (hm y (by simp))
        simp only [List.length_append, List.length_cons, List.length_nil] at hln
        have e1 : at_ (A' ++ [y] ++ B) (((A' ++ [y]).length : Int) - 1) = y := by
         rw [show A' ++ [y] ++ B = A' ++ y :: B by simp]; exact at_app _ _ y _ (by simp)
        rw [if_pos (by simp <;> omega), w64 (by simp <;> omega) (by simp <;> omega), e1, at_nat l k hk, if_pos (by simp; omega), if_pos (by omega), spec_ItemCompare _ _ hy.1 hox.1 hy.2 hox.2, Option.bind_some]
        have := hA y (by simp)
        unfold ltK at this
        rw [icm_swap] at this
        simp only [decide_eq_false_iff_not] at this
        rw [decide_eq_false (by omega)]
     rw [htest, Option.bind_some, if_neg (by decide)]
     simp only [List.length_append] at hln
     have e2 : (A ++ B).take ((A.length : Int)).toNat = A := by simp
     have e3 : (A ++ B).drop ((A.length : Int)).toNat = B := by simp
     rw [e2, e3, if_pos (by simp <;> omega), if_pos (by simp [Lim]; omega), if_pos (by omega), if_pos (by simp [Lim]; omega), if_pos (by simp <;> omega), if_pos (by simp [Lim]; omega), at_nat l k hk, row_eta, w64 (by omega) (by omega), Option.bind_some]
     simp
    | succ m ih =>
     intro B2 hB'
     obtain ⟨B', y, rfl⟩ : ∃ B' y, B1 = B' ++ [y] := ⟨B1.dropLast, B1.getLast (by intro h; subst h; cases hn), (List.dropLast_concat_getLast _).symm⟩
     have hm' : B'.length = m := by simpa using hn
     subst hB'
     have hy := rowG_ok (hm y (by simp))
     simp only [List.length_append, List.length_cons, List.length_nil] at hln
     rw [iter_l (s' := ((A.length + m : Nat) : Int)) ?_]
     · exact ih B' hm' (y :: B2) (by simp)
     · unfold spec_l15rows.b1
       simp only []
       have e0 : ((A.length + (m + 1) : Nat) : Int) - 1 = ((A.length + m : Nat) : Int) := by omega
       have e1 : at_ (A ++ (B' ++ [y] ++ B2)) ((A.length + m : Nat) : Int) = y := by
        rw [show A ++ (B' ++ [y] ++ B2) = (A ++ B') ++ y :: B2 by simp]; exact at_app _ _ y _ (by simp; omega)
       rw [w64 (n := ((A.length + (m + 1) : Nat) : Int) - 1) (by omega) (by omega), e0, e1, at_nat l k hk]
       rw [if_pos (by simp; omega), if_pos (by simp only [List.length_append, List.length_cons, List.length_nil]; omega), if_pos (by omega), spec_ItemCompare _ _ hy.1 hox.1 hy.2 hox.2, Option.bind_some]
       have := hB y (by simp)
       unfold ltK at this
       rw [icm_swap] at this
       simp only [decide_eq_true_eq] at this
       rw [decide_eq_true (by omega), Option.bind_some, if_pos rfl]
   have := key B [] (by simp)
   rw [← List.length_append] at this
   exact this
 · unfold spec_l15rows.b0
   simp only []
   rw [if_neg (by simp)]; rfl
end Go.Proofs.YtcgbhldenkeplaaGreat
set_option linter.unusedVariables false
set_option linter.unusedSimpArgs false
set_option linter.unusedSectionVars false
namespace Go.Proofs.YtcgbhldenkeplaaGreat
open Go V Ieee
def CM (l : List Int) (t : Tuple) : Bool := (ST l t.Xmin == 1) && (ST l t.Xmax != 1)
def prOf (r : Row) : Pair := Pair.mk r.Tuple.Key r.Tuple.Value
noncomputable def CRS (h : Heap) (l : List Int) : List Row := (ROWS h).filter fun r => CM l r.Tuple
noncomputable def COM (h : Heap) (l : List Int) : List Pair := (isort ltK (CRS h l)).map prOf
theorem crs_g (h : Heap) (l : List Int) (hh : okH h) : ∀ r ∈ CRS h l, rowG r := fun r hr => rows_g h hh r (List.mem_filter.1 hr).1
theorem crs_len (h : Heap) (l : List Int) : (CRS h l).length ≤ 256 := Nat.le_trans (List.length_filter_le _ _) (rows_256 h)
theorem impl_Committed_1 (t : Tuple) (l : List Int) : impl_Committed_1.f t l = some (CM l t) := by
 unfold impl_Committed_1.f CM
 rw [impl_StatusOf, Option.bind_some]
 by_cases h : (ST l t.Xmin == (1 : Int)) = true
 · rw [if_pos h, impl_StatusOf, Option.bind_some, Option.bind_some, h, Bool.true_and]
 · rw [if_neg h, Option.bind_some, tf h, Bool.false_and]
theorem impl_Committed_2 (a b : Row) (ha : rowG a) (hb : rowG b) : impl_Committed_2.f a b = some (ICM a.Tuple.Key b.Tuple.Key) := by
 unfold impl_Committed_2.f
 rw [impl_compareItems _ _ (rowG_ok ha).1 (rowG_ok hb).1, Option.bind_some]
theorem insL_congr {β : Type} {lt lt' : β → β → Bool} (x : β) (acc : List β) (h : ∀ y ∈ acc, lt x y = lt' x y) : insL lt x acc = insL lt' x acc := by
 unfold insL
 have h1 : acc.takeWhile (fun y => !(lt x y)) = acc.takeWhile (fun y => !(lt' x y)) ∧ acc.dropWhile (fun y => !(lt x y)) = acc.dropWhile (fun y => !(lt' x y)) := by
  induction acc with
  | nil => exact ⟨rfl, rfl⟩
  | cons y acc ih =>
   obtain ⟨i1, i2⟩ := ih fun z hz => h z (by simp [hz])
   have hy := h y (by simp)
   simp only [List.takeWhile_cons, List.dropWhile_cons, hy, i1, i2, and_self]
 rw [h1.1, h1.2]
theorem isort_congr {β : Type} {lt lt' : β → β → Bool} (l : List β) (h : ∀ x ∈ l, ∀ y ∈ l, lt x y = lt' x y) : isort lt l = isort lt' l := by
 unfold isort
 have key : ∀ (m acc : List β), (∀ x ∈ m, x ∈ l) → (∀ x ∈ acc, x ∈ l) → m.foldl (fun acc x => insL lt x acc) acc = m.foldl (fun acc x => insL lt' x acc) acc := by
  intro m
  induction m with
  | nil => intro acc _ _; rfl
  | cons x m ih =>
   intro acc hm ha
   rw [List.foldl_cons, List.foldl_cons, insL_congr x acc fun y hy => h x (hm x (by simp)) y (ha y hy)]
   refine ih _ (fun y hy => hm y (by simp [hy])) fun y hy => ?_
   rcases List.mem_cons.1 ((insL_perm lt' x acc).mem_iff.1 hy) with rfl | hy
   · exact hm _ (by simp)
   · exact ha y hy
 exact key l [] (fun x hx => hx) (fun x hx => absurd hx List.not_mem_nil)
theorem srt_rows (l : List Row) (hg : ∀ r ∈ l, rowG r) (hl : l.length ≤ 256) : slices_SortStableFunc_impl_Row_impl_Row.f l impl_Committed_2.f = some (isort ltK l) := by
 have hlt : ∀ x ∈ l, ∀ y ∈ l, ltC impl_Committed_2.f x y = ltK x y := fun x hx y hy => by unfold ltC ltK; rw [impl_Committed_2 x y (hg x hx) (hg y hy)]; rfl
 unfold slices_SortStableFunc_impl_Row_impl_Row.f srtF
 rw [if_pos ⟨by simp only [Lim]; omega, fun x hx y hy => by rw [impl_Committed_2 x y (hg x hx) (hg y hy)]; rfl, fun x hx y hy h => by rw [hlt x hx y hy] at h; rw [hlt y hy x hx]; exact ltK_asym h, fun x hx y hy z hz h1 h2 => by rw [hlt x hx y hy] at h1; rw [hlt y hy z hz] at h2; rw [hlt x hx z hz]; exact ltK_neg h1 h2⟩]
 rw [isort_congr l hlt]
theorem impl_Committed (h : Heap) (l : List Int) (hh : okH h) : impl_Committed.f h l = some (COM h l) := by
 unfold impl_Committed.f
 have hR : impl_Heap_rowsOf.f h (fun x0 => impl_Committed_1.f x0 l) = some (CRS h l) := rowsOf h hh _ (CM l) (fun r _ => impl_Committed_1 r.Tuple l)
 have hperm := isort_perm ltK (CRS h l)
 have hlen : (isort ltK (CRS h l)).length ≤ 256 := by rw [hperm.length_eq]; exact crs_len h l
 rw [hR, Option.bind_some, srt_rows _ (crs_g h l hh) (crs_len h l), Option.bind_some]
 unfold COM
 generalize isort ltK (CRS h l) = L at hlen
 have hst : (([] : List Pair), (0 : Int)) = ((L.take 0).map prOf, ((0 : Nat) : Int)) := rfl
 rw [hst]
 refine iter_for L.length (fun k => ((L.take k).map prOf, (k : Int))) _ (fun k hk => ?_) ?_
 · unfold impl_Committed.b0
   simp only []
   rw [if_pos (by simp; omega), if_pos (by omega), at_nat L k hk, if_pos (by simp only [List.length_map, List.length_take, List.length_cons, List.length_nil, Lim]; omega), w64 (by omega) (by omega), List.take_succ_eq_append_getElem hk, List.map_append]
   rfl
 · unfold impl_Committed.b0
   simp only []
   rw [if_neg (by simp), List.take_length]; rfl
theorem spec_Committed (h : Heap) (l : List Int) (hh : okH h) : spec_Committed.f h l = some (COM h l) := by
 unfold spec_Committed.f
 have hR := rows_256 h
 rw [spec_HeapRows h hh, Option.bind_some]
 have hG := crs_g h l hh
 have hCl := crs_len h l
 have hsort := spec_l15rows (CRS h l) (by omega) hG
 have hperm := isort_perm ltK (CRS h l)
 have hlen : (isort ltK (CRS h l)).length ≤ 256 := by rw [hperm.length_eq]; exact hCl
 unfold COM
 generalize hL : isort ltK (CRS h l) = L at *
 have hlast : iter (spec_Committed.b1 L) (([] : List Pair), (0 : Int)) = some (L.map prOf) := by
  have hst : (([] : List Pair), (0 : Int)) = ((L.take 0).map prOf, ((0 : Nat) : Int)) := rfl
  rw [hst]
  refine iter_for L.length (fun k => ((L.take k).map prOf, (k : Int))) _ (fun k hk => ?_) ?_
  · unfold spec_Committed.b1
    simp only []
    rw [if_pos (by simp; omega), if_pos (by omega), if_pos (by omega), at_nat L k hk, if_pos (by simp only [List.length_map, List.length_take, List.length_cons, List.length_nil, Lim]; omega), w64 (by omega) (by omega), List.take_succ_eq_append_getElem hk, List.map_append]
    rfl
  · unfold spec_Committed.b1
    simp only []
    rw [if_neg (by simp), List.take_length]; rfl
 unfold CRS at *
 generalize ROWS h = R at *
 have hst : (([] : List Row), (0 : Int)) = ((R.take 0).filter (fun r => CM l r.Tuple), ((0 : Nat) : Int)) := rfl
 rw [hst]
 refine iter_for R.length (fun k => ((R.take k).filter (fun r => CM l r.Tuple), (k : Int))) _ (fun k hk => ?_) ?_
 · unfold spec_Committed.b0
   have hfl := List.length_filter_le (fun r : Row => CM l r.Tuple) (R.take k)
   rw [List.length_take] at hfl
   have ht : (R.take (k + 1)).filter (fun r => CM l r.Tuple) = (R.take k).filter (fun r => CM l r.Tuple) ++ (if CM l R[k].Tuple = true then [R[k]] else []) := by
    rw [List.take_succ_eq_append_getElem hk, List.filter_append]
    by_cases hc : CM l R[k].Tuple = true
    · rw [if_pos hc]; simp [hc]
    · rw [if_neg hc]; simp [hc]
   rw [ht]
   generalize (R.take k).filter (fun r => CM l r.Tuple) = acc at hfl
   simp only []
   rw [if_pos (by simp; omega), if_pos (by omega), at_nat R k hk, spec_StatusOf, Option.bind_some]
   have e1 : (if (ST l R[k].Tuple.Xmin == (1 : Int)) = true then ((spec_StatusOf.f l R[k].Tuple.Xmax).bind fun r33 => (some (r33 != (1 : Int)))) else (some false)) = some (CM l R[k].Tuple) := by
    unfold CM
    by_cases h : (ST l R[k].Tuple.Xmin == (1 : Int)) = true
    · rw [if_pos h, spec_StatusOf, Option.bind_some, h, Bool.true_and]
    · rw [if_neg h, tf h, Bool.false_and]
   rw [e1, Option.bind_some]
   by_cases hc : CM l R[k].Tuple = true
   · rw [if_pos hc, if_pos hc, if_pos (by omega), row_eta, if_pos (by simp only [List.length_cons, List.length_nil, Lim]; omega), Option.bind_some, w64 (by omega) (by omega)]; rfl
   · rw [if_neg hc, if_neg hc, Option.bind_some, w64 (by omega) (by omega), List.append_nil]; rfl
 · unfold spec_Committed.b0
   simp only []
   rw [if_neg (by simp), List.take_length, hsort, Option.bind_some, hlast]; rfl
theorem com_small (h : Heap) (l : List Int) (hh : okH h) : (COM h l).length ≤ 256 ∧ ∀ p ∈ COM h l, p.Key.T.length ≤ 40 ∧ p.Value.T.length ≤ 40 := by
 unfold COM
 refine ⟨by rw [List.length_map, (isort_perm ltK (CRS h l)).length_eq]; exact crs_len h l, fun p hp => ?_⟩
 obtain ⟨r, hr, rfl⟩ := List.mem_map.1 hp
 have hg := crs_g h l hh r ((isort_perm ltK (CRS h l)).mem_iff.1 hr)
 refine ⟨iok_T (rowG_ok hg).2, ?_⟩
 have := hg.2
 unfold TOK at this
 simp only [Bool.and_eq_true] at this
 exact iok_T this.1.2
end Go.Proofs.YtcgbhldenkeplaaGreat
set_option linter.unusedVariables false
set_option linter.unusedSimpArgs false
set_option linter.unusedSectionVars false
namespace Go.Proofs.YtcgbhldenkeplaaGreat
open Go V Ieee
theorem szByteS (a : List Int) (n : Int) (hl : a.length ≤ maxLen) (h0 : 0 ≤ n) (h1 : n ≤ 1048576) : Sz (laws_szByteS.f a n) n a.length := by
 simp only [maxLen] at hl
 unfold laws_szByteS.f
 rw [w64 (by omega) (by omega)]
 by_cases hneg : n - (a.length : Int) < 0
 · rw [if_pos (by simpa using hneg)]; exact ⟨-1, rfl, by omega, fun h => by omega⟩
 · rw [if_neg (by simpa using hneg)]; exact ⟨_, rfl, by omega, fun h => rfl⟩
theorem toByteS (a : List Int) (h : a.length ≤ 1048576) : laws_toByteS.f a = some a := by
 unfold laws_toByteS.f
 rw [if_pos ⟨by omega, by simp only [Lim]; omega⟩]
 refine toS_gen a 0 (fun l k hk hl => ?_) (fun l => ?_)
 · unfold laws_toByteS.b0
   simp only []
   rw [if_pos (by simp; omega), if_pos ⟨by omega, by omega⟩, if_pos ⟨by omega, by omega⟩, at_nat _ k hk, w64 (by omega) (by omega)]; rfl
 · unfold laws_toByteS.b0
   simp only []
   rw [if_neg (by simp)]; rfl
theorem eqByteS (a : List Int) (h : a.length ≤ 1048576) : laws_eqByteS.f a a = some true := by
 unfold laws_eqByteS.f
 have := eqS_gen (body := laws_eqByteS.b0 a a) a a (fun k hk _ => by
  unfold laws_eqByteS.b0
  rw [if_pos (by simp; omega), if_pos ⟨by omega, by omega⟩, if_pos ⟨by omega, by omega⟩, at_nat _ k hk, w64 (by omega) (by omega)]
  simp) (by
  unfold laws_eqByteS.b0
  rw [if_neg (by simp)]; rfl)
 rw [this]; simp
theorem wsum_one (a : List Int) : wsum (fun _ => 1) a = a.length := by
 induction a with
 | nil => rfl
 | cons x l ih => rw [wsum_cons, ih, List.length_cons]; omega
theorem markS_genP {α : Type} {mb : List α × Int × Int → Option ((List α × Int × Int) ⊕ (Int × List α))} {hb : List α → Int × Int → Option ((Int × Int) ⊕ Int)} {wt : α → Nat} (HE : α → Int → Nat → Prop) (P : α → Prop) (a : List α) (hP : ∀ y ∈ a, P y) (x : Int) (h0 : 0 ≤ x) (h1 : x + (wsum wt a : Int) ≤ 100000000000)
    (hm : ∀ (l : List α) (x : Int) (k : Nat) (hk : k < l.length), l.length = a.length → P l[k] → 0 ≤ x → x + (wt l[k] : Int) ≤ 100000000000 → ∃ e', mb (l, x, (k : Int)) = some (.inl (l.set k e', x + (wt l[k] : Int), (k : Int) + 1)) ∧ HE e' x (wt l[k]))
    (hmn : ∀ l x, l.length = a.length → mb (l, x, (l.length : Int)) = some (.inr (x, l)))
    (hh : ∀ (l : List α) (x : Int) (k n : Nat) (hk : k < l.length), l.length = a.length → HE l[k] x n → 0 ≤ x → x + (n : Int) ≤ 100000000000 → hb l (x, (k : Int)) = some (.inl (x + (n : Int), (k : Int) + 1)))
    (hhn : ∀ l x, l.length = a.length → hb l (x, (l.length : Int)) = some (.inr x)) :
    ∃ a', iter mb (a, x, (0 : Int)) = some (x + (wsum wt a : Int), a') ∧ a'.length = a.length ∧ iter (hb a') (x, (0 : Int)) = some (x + (wsum wt a : Int)) := by
  have key : ∀ (m i : Nat) (x : Int) (l : List α), i + m = l.length → l.length = a.length → (∀ y ∈ l.drop i, P y) → 0 ≤ x → x + (wsum wt (l.drop i) : Int) ≤ 100000000000 →
      ∃ l', iter mb (l, x, (i : Int)) = some (x + (wsum wt (l.drop i) : Int), l') ∧ l'.length = l.length ∧ (∀ j, j < i → l'[j]? = l[j]?) ∧ iter (hb l') (x, (i : Int)) = some (x + (wsum wt (l.drop i) : Int)) := by
    intro m
    induction m with
    | zero =>
      intro i x l hi hla hPl hx0 hx1
      have : i = l.length := by omega
      subst this
      rw [List.drop_length]
      refine ⟨l, ?_, rfl, fun _ _ => rfl, ?_⟩
      · rw [iter_r (hmn l x hla)]; simp [wsum]
      · rw [iter_r (hhn l x hla)]; simp [wsum]
    | succ m ih =>
      intro i x l hi hla hPl hx0 hx1
      have hk : i < l.length := by omega
      have hd : l.drop i = l[i] :: l.drop (i + 1) := List.drop_eq_getElem_cons hk
      rw [hd] at hPl
      rw [hd, wsum_cons] at hx1 ⊢
      obtain ⟨e', hmb, hE⟩ := hm l x i hk hla (hPl _ List.mem_cons_self) hx0 (by omega)
      have e : (i : Int) + 1 = ((i + 1 : Nat) : Int) := by omega
      have hds : (l.set i e').drop (i + 1) = l.drop (i + 1) := List.drop_set_of_lt (by omega)
      obtain ⟨l', h1', h2', h3', h4'⟩ := ih (i + 1) (x + (wt l[i] : Int)) (l.set i e') (by rw [List.length_set]; omega) (by rw [List.length_set]; exact hla) (by rw [hds]; exact fun y hy => hPl y (List.mem_cons_of_mem _ hy)) (by omega) (by rw [hds]; omega)
      rw [hds] at h1' h4'
      rw [List.length_set] at h2'
      have hi' : i < l'.length := by omega
      have hli : l'[i] = e' := by
        have := h3' i (by omega)
        rw [List.getElem?_eq_getElem hi', List.getElem?_set_self hk] at this
        exact Option.some.inj this
      have hsum : x + (wt l[i] : Int) + (wsum wt (l.drop (i + 1)) : Int) = x + ((wt l[i] + wsum wt (l.drop (i + 1)) : Nat) : Int) := by omega
      refine ⟨l', ?_, h2', fun j hj => ?_, ?_⟩
      · rw [iter_l hmb, e, h1', hsum]
      · rw [h3' j (by omega), List.getElem?_set_ne (by omega)]
      · rw [iter_l (hh l' x i (wt l[i]) hi' (by omega) (by rw [hli]; exact hE) hx0 (by omega)), e, h4', hsum]
  obtain ⟨l', h1', h2', _, h4'⟩ := key a.length 0 x a (by omega) rfl (by rw [List.drop_zero]; exact hP) h0 (by rw [List.drop_zero]; exact h1)
  rw [List.drop_zero] at h1' h4'
  exact ⟨l', h1', h2', h4'⟩
end Go.Proofs.YtcgbhldenkeplaaGreat
set_option linter.unusedVariables false
set_option linter.unusedSimpArgs false
set_option linter.unusedSectionVars false
namespace Go.Proofs.YtcgbhldenkeplaaGreat
open Go V Ieee
theorem sameFloat (x : Nat) : laws_sameFloat.f x x = some true := by
 unfold laws_sameFloat.f
 have hbe : ∀ b : Bool, (b == b) = true := fun b => by cases b <;> rfl
 cases hb : fcmp .f64 x x != some .eq with
 | true => rfl
 | false =>
  have he : (fcmp .f64 x x == some .eq) = true := by
   have : (fcmp .f64 x x != some .eq) = !(fcmp .f64 x x == some .eq) := rfl
   rw [this] at hb
   cases hq : (fcmp .f64 x x == some .eq) with
   | true => rfl
   | false => rw [hq] at hb; cases hb
  rw [if_neg (by decide), he, hbe]
  split <;> rfl
theorem eqItem (a : Item) (h : a.T.length ≤ 1048576) : laws_eqItem.f a a = some true := by
 unfold laws_eqItem.f
 rw [if_neg (by simp), if_neg (by simp), sameFloat, Option.bind_some, if_neg (by decide), eqByteS _ h]; rfl
end Go.Proofs.YtcgbhldenkeplaaGreat
set_option linter.unusedVariables false
set_option linter.unusedSimpArgs false
set_option linter.unusedSectionVars false
namespace Go.Proofs.YtcgbhldenkeplaaGreat
open Go V Ieee
theorem markByteS (a : List Int) (x : Int) (h0 : 0 ≤ x) (h1 : x + (a.length : Int) ≤ 100000000000) : ∃ a', laws_markByteS.f a x = some (x + (a.length : Int), a') ∧ a'.length = a.length ∧ laws_heldByteS.f a' x = some (x + (a.length : Int)) := by
 have := markS_gen (mb := laws_markByteS.b0) (hb := laws_heldByteS.b0) (wt := fun _ => 1) (fun e y n => e = IntKind.wrap .u8 y ∧ n = 1) a x h0 (by rw [wsum_one]; exact h1)
  (fun l y k hk hla hy hy1 => by
   refine ⟨IntKind.wrap .u8 y, ?_, rfl, rfl⟩
   unfold laws_markByteS.b0
   simp only []
   rw [if_pos (by simp; omega), if_pos ⟨by omega, by omega⟩, w64 (by omega) (by omega), w64 (by omega) (by omega)]; rfl)
  (fun l y hla => by
   unfold laws_markByteS.b0
   simp only []
   rw [if_neg (by simp)]; rfl)
  (fun l y k n hk hla he hy hy1 => by
   obtain ⟨e1, rfl⟩ := he
   unfold laws_heldByteS.b0
   simp only []
   rw [if_pos (by simp; omega), if_pos ⟨by omega, by omega⟩, at_nat _ k hk, e1, if_neg (by simp), w64 (by omega) (by omega), w64 (by omega) (by omega)]; rfl)
  (fun l y hla => by
   unfold laws_heldByteS.b0
   simp only []
   rw [if_neg (by simp)]; rfl)
 rw [wsum_one] at this
 exact this
end Go.Proofs.YtcgbhldenkeplaaGreat
set_option linter.unusedVariables false
set_option linter.unusedSimpArgs false
set_option linter.unusedSectionVars false
namespace Go.Proofs.YtcgbhldenkeplaaGreat
open Go V Ieee
def lgI (a : Item) : Prop := a.T.length ≤ 1048576
theorem markS1 {α : Type} {mb : List α × Int × Int → Option ((List α × Int × Int) ⊕ (Int × List α))} {wt : α → Nat} (P : α → Prop) (Q : α → α → Prop) (hQ : ∀ a, Q a a) (a : List α) (hP : ∀ y ∈ a, P y) (x : Int) (h0 : 0 ≤ x) (h1 : x + (wsum wt a : Int) ≤ 100000000000)
    (hm : ∀ (l : List α) (x : Int) (k : Nat) (hk : k < l.length), l.length = a.length → P l[k] → 0 ≤ x → x + (wt l[k] : Int) ≤ 100000000000 → ∃ e', mb (l, x, (k : Int)) = some (.inl (l.set k e', x + (wt l[k] : Int), (k : Int) + 1)) ∧ Q l[k] e')
    (hmn : ∀ l x, l.length = a.length → mb (l, x, (l.length : Int)) = some (.inr (x, l))) :
    ∃ a', iter mb (a, x, (0 : Int)) = some (x + (wsum wt a : Int), a') ∧ a'.length = a.length := by
  have key : ∀ (m i : Nat) (x : Int) (l : List α), i + m = l.length → l.length = a.length → (∀ y ∈ l.drop i, P y) → 0 ≤ x → x + (wsum wt (l.drop i) : Int) ≤ 100000000000 →
      ∃ l', iter mb (l, x, (i : Int)) = some (x + (wsum wt (l.drop i) : Int), l') ∧ l'.length = l.length := by
    intro m
    induction m with
    | zero =>
      intro i x l hi hla hPl hx0 hx1
      have : i = l.length := by omega
      subst this
      rw [List.drop_length]
      refine ⟨l, ?_, rfl⟩
      rw [iter_r (hmn l x hla)]; simp [wsum]
    | succ m ih =>
      intro i x l hi hla hPl hx0 hx1
      have hk : i < l.length := by omega
      have hd : l.drop i = l[i] :: l.drop (i + 1) := List.drop_eq_getElem_cons hk
      rw [hd] at hPl
      rw [hd, wsum_cons] at hx1 ⊢
      obtain ⟨e', hmb, _⟩ := hm l x i hk hla (hPl _ List.mem_cons_self) hx0 (by omega)
      have e : (i : Int) + 1 = ((i + 1 : Nat) : Int) := by omega
      have hds : (l.set i e').drop (i + 1) = l.drop (i + 1) := List.drop_set_of_lt (by omega)
      obtain ⟨l', h1', h2'⟩ := ih (i + 1) (x + (wt l[i] : Int)) (l.set i e') (by rw [List.length_set]; omega) (by rw [List.length_set]; exact hla) (by rw [hds]; exact fun y hy => hPl y (List.mem_cons_of_mem _ hy)) (by omega) (by rw [hds]; omega)
      rw [hds] at h1'
      rw [List.length_set] at h2'
      have hsum : x + (wt l[i] : Int) + (wsum wt (l.drop (i + 1)) : Int) = x + ((wt l[i] + wsum wt (l.drop (i + 1)) : Nat) : Int) := by omega
      exact ⟨l', by rw [iter_l hmb, e, h1', hsum], h2'⟩
  obtain ⟨l', h1', h2'⟩ := key a.length 0 x a (by omega) rfl (by rw [List.drop_zero]; exact hP) h0 (by rw [List.drop_zero]; exact h1)
  rw [List.drop_zero] at h1'
  exact ⟨l', h1', h2'⟩
def wI (a : Item) : Nat := 3 + a.T.length
def lgPr (s : Pair) : Prop := lgI s.Key ∧ lgI s.Value
theorem eqPair (s : Pair) (h : lgPr s) : laws_eqPair.f s s = some true := by
 unfold laws_eqPair.f
 rw [eqItem _ h.1, Option.bind_some, if_neg (by decide), eqItem _ h.2]; rfl
theorem eqPairS (a : List Pair) (h : a.length ≤ 1048576) (he : ∀ b ∈ a, lgPr b) : laws_eqPairS.f a a = some true := by
 unfold laws_eqPairS.f
 have := eqS_gen (body := laws_eqPairS.b0 a a) a a (fun k hk _ => by
  unfold laws_eqPairS.b0
  rw [if_pos (by simp; omega), if_pos ⟨by omega, by omega⟩, if_pos ⟨by omega, by omega⟩, at_nat _ k hk]
  rw [eqPair _ (he _ (List.getElem_mem hk)), w64 (by omega) (by omega)]
  simp) (by
  unfold laws_eqPairS.b0
  rw [if_neg (by simp)]; rfl)
 rw [this]; simp
def wPr (s : Pair) : Nat := wI s.Key + wI s.Value
end Go.Proofs.YtcgbhldenkeplaaGreat
set_option linter.unusedVariables false
set_option linter.unusedSimpArgs false
set_option linter.unusedSectionVars false
namespace Go.Proofs.YtcgbhldenkeplaaGreat
open Go V Ieee
def HI (e : Item) (y : Int) (n : Nat) : Prop := e.Kind = y ∧ e.N = y + 1 ∧ e.F = FloatKind.f64.nearest (y + 1 + 1) ∧ ∃ k : Nat, n = 3 + k ∧ laws_heldByteS.f e.T (y + 1 + 1 + 1) = some (y + 1 + 1 + 1 + (k : Int))
def HPr (e : Pair) (y : Int) (n : Nat) : Prop := ∃ p q : Nat, n = p + q ∧ HI e.Key y p ∧ HI e.Value (y + (p : Int)) q
theorem markPairH (a : List Pair) (x : Int) (hl : a.length ≤ 1048576) (h0 : 0 ≤ x) (h1 : x + (wsum wPr a : Int) ≤ 100000000000) : ∃ a', laws_markPairS.f a x = some (x + (wsum wPr a : Int), a') ∧ a'.length = a.length ∧ laws_heldPairS.f a' x = some (x + (wsum wPr a : Int)) :=
 markS_genP (mb := laws_markPairS.b0) (hb := laws_heldPairS.b0) (wt := wPr) HPr (fun _ => True) a (fun _ _ => trivial) x h0 h1
  (fun l y k hk hla _ hy hy1 => by
   unfold wPr wI at hy1 ⊢
   obtain ⟨e1, em1, _, eh1⟩ := markByteS (l[k]).Key.T (y + 1 + 1 + 1) (by omega) (by omega)
   obtain ⟨e2, em2, _, eh2⟩ := markByteS (l[k]).Value.T (y + 1 + 1 + 1 + ((l[k]).Key.T.length : Int) + 1 + 1 + 1) (by omega) (by omega)
   have ey : y + ((3 + (l[k]).Key.T.length : Nat) : Int) = y + 1 + 1 + 1 + ((l[k]).Key.T.length : Int) := by omega
   refine ⟨Pair.mk (Item.mk y (y + 1) (FloatKind.f64.nearest (y + 1 + 1)) e1) (Item.mk (y + 1 + 1 + 1 + ((l[k]).Key.T.length : Int)) (y + 1 + 1 + 1 + ((l[k]).Key.T.length : Int) + 1) (FloatKind.f64.nearest (y + 1 + 1 + 1 + ((l[k]).Key.T.length : Int) + 1 + 1)) e2), ?_, 3 + (l[k]).Key.T.length, 3 + (l[k]).Value.T.length, rfl, ⟨rfl, rfl, rfl, _, rfl, eh1⟩, by rw [ey]; exact ⟨rfl, rfl, rfl, _, rfl, eh2⟩⟩
   unfold laws_markPairS.b0
   simp only []
   rw [if_pos (by simp; omega), if_pos ⟨by omega, by omega⟩, Option.bind_some, if_pos ⟨by omega, by simp; omega⟩, Option.bind_some, if_pos ⟨by omega, by simp; omega⟩, Option.bind_some, if_pos ⟨by omega, by simp; omega⟩]
   simp only [Int.toNat_natCast, at_nat l k hk, List.set_set, at_set _ _ _ hk, List.length_set]
   simp only [show IntKind.wrap .i64 (y + 1) = y + 1 from w64 (by omega) (by omega), show IntKind.wrap .i64 (y + 1 + 1) = y + 1 + 1 from w64 (by omega) (by omega), show IntKind.wrap .i64 (y + 1 + 1 + 1) = y + 1 + 1 + 1 from w64 (by omega) (by omega)]
   rw [em1, Option.bind_some, Option.bind_some]
   simp only [at_set _ _ _ hk, List.set_set, List.length_set]
   rw [if_pos ⟨by omega, by omega⟩, Option.bind_some, if_pos ⟨by omega, by simp; omega⟩, Option.bind_some, if_pos ⟨by omega, by simp; omega⟩, Option.bind_some, if_pos ⟨by omega, by simp; omega⟩]
   simp only [Int.toNat_natCast, List.set_set, at_set _ _ _ hk, List.length_set]
   simp only [show IntKind.wrap .i64 (y + 1 + 1 + 1 + ((l[k]).Key.T.length : Int) + 1) = y + 1 + 1 + 1 + ((l[k]).Key.T.length : Int) + 1 from w64 (by omega) (by omega), show IntKind.wrap .i64 (y + 1 + 1 + 1 + ((l[k]).Key.T.length : Int) + 1 + 1) = y + 1 + 1 + 1 + ((l[k]).Key.T.length : Int) + 1 + 1 from w64 (by omega) (by omega), show IntKind.wrap .i64 (y + 1 + 1 + 1 + ((l[k]).Key.T.length : Int) + 1 + 1 + 1) = y + 1 + 1 + 1 + ((l[k]).Key.T.length : Int) + 1 + 1 + 1 from w64 (by omega) (by omega)]
   rw [em2, Option.bind_some, Option.bind_some, w64 (by omega) (by omega)]
   congr 3
   congr 1
   omega)
  (fun l y hla => by
   unfold laws_markPairS.b0
   simp only []
   rw [if_neg (by simp)]; rfl)
  (fun l y k n hk hla he hy hy1 => by
   obtain ⟨p, q, rfl, ⟨e1, e2, e3, u, rfl, e4⟩, ⟨f1, f2, f3, v, rfl, f4⟩⟩ := he
   unfold laws_heldPairS.b0
   have hr : 0 ≤ (k : Int) ∧ (k : Int) < (l.length : Int) := by omega
   have ey : y + ((3 + u : Nat) : Int) = y + 1 + 1 + 1 + (u : Int) := by omega
   rw [ey] at f1 f2 f3 f4
   simp only [if_pos hr, at_nat _ k hk]
   rw [if_pos (by simp; omega), e1, if_neg (by simp), e2, show IntKind.wrap .i64 (y + 1) = y + 1 from w64 (by omega) (by omega), if_neg (by simp), e3, show IntKind.wrap .i64 (y + 1 + 1) = y + 1 + 1 from w64 (by omega) (by omega), if_neg (by rw [near_self _ (by omega) (by omega)]; decide), show IntKind.wrap .i64 (y + 1 + 1 + 1) = y + 1 + 1 + 1 from w64 (by omega) (by omega), e4, Option.bind_some, if_neg (by simp; omega)]
   rw [f1, if_neg (by simp), f2, show IntKind.wrap .i64 (y + 1 + 1 + 1 + (u : Int) + 1) = y + 1 + 1 + 1 + (u : Int) + 1 from w64 (by omega) (by omega), if_neg (by simp), f3, show IntKind.wrap .i64 (y + 1 + 1 + 1 + (u : Int) + 1 + 1) = y + 1 + 1 + 1 + (u : Int) + 1 + 1 from w64 (by omega) (by omega), if_neg (by rw [near_self _ (by omega) (by omega)]; decide), show IntKind.wrap .i64 (y + 1 + 1 + 1 + (u : Int) + 1 + 1 + 1) = y + 1 + 1 + 1 + (u : Int) + 1 + 1 + 1 from w64 (by omega) (by omega), f4, Option.bind_some, if_neg (by simp; omega), w64 (by omega) (by omega)]
   congr 3
   omega)
  (fun l y hla => by
   unfold laws_heldPairS.b0
   simp only []
   rw [if_neg (by simp)]; rfl)
theorem toIntS' (a : List Int) (h : a.length ≤ 1048576) : laws_toIntS.f a = some a := by
 unfold laws_toIntS.f
 rw [if_pos ⟨by omega, by simp only [Lim]; omega⟩]
 refine toS_gen a 0 (fun l k hk hl => ?_) (fun l => ?_)
 · unfold laws_toIntS.b0
   simp only []
   rw [if_pos (by simp; omega), if_pos ⟨by omega, by omega⟩, if_pos ⟨by omega, by omega⟩, at_nat _ k hk, w64 (by omega) (by omega)]; rfl
 · unfold laws_toIntS.b0
   simp only []
   rw [if_neg (by simp)]; rfl
end Go.Proofs.YtcgbhldenkeplaaGreat
set_option linter.unusedVariables false
set_option linter.unusedSimpArgs false
set_option linter.unusedSectionVars false
namespace Go.Proofs.YtcgbhldenkeplaaGreat
open Go V Ieee
theorem szByteSS (a : List (List Int)) (n : Int) (hl : a.length ≤ maxLen) (he : ∀ b ∈ a, b.length ≤ maxLen) (h0 : 0 ≤ n) (h1 : n ≤ 1048576) : Sz (laws_szByteSS.f a n) n (a.length + wsum List.length a) := by
 unfold laws_szByteSS.f
 have hl' := hl
 simp only [maxLen] at hl'
 refine szS_gen a n hl h0 h1 (fun k x hk x0 x1 => ?_) (fun x => ?_)
 · obtain ⟨r, er, hr, hr2⟩ := szByteS a[k] x (he _ (List.getElem_mem hk)) x0 x1
   refine ⟨r, hr, hr2, ?_⟩
   unfold laws_szByteSS.b0
   simp only []
   rw [if_pos (by simp; omega), if_pos ⟨by omega, by omega⟩, at_nat _ k hk, er, Option.bind_some, w64 (by omega) (by omega)]
   by_cases hn : r < 0
   · rw [if_pos (by simpa using hn), if_pos hn]
   · rw [if_neg (by simpa using hn), if_neg hn]
 · unfold laws_szByteSS.b0
   simp only []
   rw [if_neg (by simp)]; rfl
def zP (p : Page) : Nat := p.Slots.length + wsum List.length p.Slots
theorem szPage (p : Page) (n : Int) (hp : ok_Page p) (h0 : 0 ≤ n) (h1 : n ≤ 1048576) : Sz (laws_szPage.f p n) n (zP p) := by
 unfold laws_szPage.f
 obtain ⟨r, er, hr, hr2⟩ := szByteSS p.Slots n hp.2.1 (fun b hb => (hp.2.2 b hb).1) h0 h1
 rw [er, Option.bind_some]
 by_cases hn : r < 0
 · rw [if_pos (by simpa using hn)]; exact ⟨-1, rfl, by omega, fun h => by omega⟩
 · rw [if_neg (by simpa using hn)]; exact ⟨r, rfl, hr, hr2⟩
theorem szPageS (a : List Page) (n : Int) (hl : a.length ≤ maxLen) (he : ∀ b ∈ a, ok_Page b) (h0 : 0 ≤ n) (h1 : n ≤ 1048576) : Sz (laws_szPageS.f a n) n (a.length + wsum zP a) := by
 unfold laws_szPageS.f
 have hl' := hl
 simp only [maxLen] at hl'
 refine szS_gen a n hl h0 h1 (fun k x hk x0 x1 => ?_) (fun x => ?_)
 · obtain ⟨r, er, hr, hr2⟩ := szPage a[k] x (he _ (List.getElem_mem hk)) x0 x1
   refine ⟨r, hr, hr2, ?_⟩
   unfold laws_szPageS.b0
   simp only []
   rw [if_pos (by simp; omega), if_pos ⟨by omega, by omega⟩, at_nat _ k hk, er, Option.bind_some, w64 (by omega) (by omega)]
   by_cases hn : r < 0
   · rw [if_pos (by simpa using hn), if_pos hn]
   · rw [if_neg (by simpa using hn), if_neg hn]
 · unfold laws_szPageS.b0
   simp only []
   rw [if_neg (by simp)]; rfl
def zH (h : Heap) : Nat := h.Pages.length + wsum zP h.Pages
theorem szHeap (h : Heap) (n : Int) (hh : ok_Heap h) (h0 : 0 ≤ n) (h1 : n ≤ 1048576) : Sz (laws_szHeap.f h n) n (zH h) := by
 unfold laws_szHeap.f
 obtain ⟨r, er, hr, hr2⟩ := szPageS h.Pages n hh.1 hh.2 h0 h1
 rw [er, Option.bind_some]
 by_cases hn : r < 0
 · rw [if_pos (by simpa using hn)]; exact ⟨-1, rfl, by omega, fun h => by omega⟩
 · rw [if_neg (by simpa using hn)]; exact ⟨r, rfl, hr, hr2⟩
theorem okH_of (h : Heap) (hh : ok_Heap h) (hz : zH h ≤ 1048576) : okH h := by
 unfold zH at hz
 refine ⟨by omega, fun p hp => ?_⟩
 have h1 := wsum_mem zP _ p hp
 have hk := hh.2 p hp
 have h2 : zP p = p.Slots.length + wsum List.length p.Slots := rfl
 refine ⟨hk.1, by omega, fun b hb => ?_⟩
 have h3 := wsum_mem List.length _ b hb
 exact ⟨by omega, (hk.2.2 b hb).2⟩
theorem toByteSS (a : List (List Int)) (h : a.length ≤ 1048576) (he : ∀ b ∈ a, b.length ≤ 1048576) : laws_toByteSS.f a = some a := by
 unfold laws_toByteSS.f
 rw [if_pos ⟨by omega, by simp only [Lim]; omega⟩]
 refine toS_gen a [] (fun l k hk hl => ?_) (fun l => ?_)
 · unfold laws_toByteSS.b0
   simp only []
   rw [if_pos (by simp; omega), if_pos ⟨by omega, by omega⟩, at_nat _ k hk, toByteS _ (he _ (List.getElem_mem hk)), Option.bind_some, if_pos ⟨by omega, by omega⟩, w64 (by omega) (by omega)]; rfl
 · unfold laws_toByteSS.b0
   simp only []
   rw [if_neg (by simp)]; rfl
theorem toPage (p : Page) (hp : okP p) : laws_toPage.f p = some p := by
 unfold laws_toPage.f
 rw [toByteSS p.Slots hp.2.1 (fun b hb => (hp.2.2 b hb).1)]; rfl
theorem toPageS (a : List Page) (h : a.length ≤ 1048576) (he : ∀ b ∈ a, okP b) : laws_toPageS.f a = some a := by
 unfold laws_toPageS.f
 rw [if_pos ⟨by omega, by simp only [Lim]; omega⟩]
 refine toS_gen a _ (fun l k hk hl => ?_) (fun l => ?_)
 · unfold laws_toPageS.b0
   simp only []
   rw [if_pos (by simp; omega), if_pos ⟨by omega, by omega⟩, at_nat _ k hk, toPage _ (he _ (List.getElem_mem hk)), Option.bind_some, if_pos ⟨by omega, by omega⟩, w64 (by omega) (by omega)]; rfl
 · unfold laws_toPageS.b0
   simp only []
   rw [if_neg (by simp)]; rfl
theorem toHeap (h : Heap) (hh : okH h) : laws_toHeap.f h = some h := by
 unfold laws_toHeap.f
 rw [toPageS _ hh.1 hh.2]; rfl
theorem eqByteSS (a : List (List Int)) (h : a.length ≤ 1048576) (he : ∀ b ∈ a, b.length ≤ 1048576) : laws_eqByteSS.f a a = some true := by
 unfold laws_eqByteSS.f
 have := eqS_gen (body := laws_eqByteSS.b0 a a) a a (fun k hk _ => by
  unfold laws_eqByteSS.b0
  rw [if_pos (by simp; omega), if_pos ⟨by omega, by omega⟩, if_pos ⟨by omega, by omega⟩, at_nat _ k hk, eqByteS _ (he _ (List.getElem_mem hk)), w64 (by omega) (by omega)]
  simp) (by
  unfold laws_eqByteSS.b0
  rw [if_neg (by simp)]; rfl)
 rw [this]; simp
theorem eqPage (p : Page) (hp : okP p) : laws_eqPage.f p p = some true := by
 unfold laws_eqPage.f
 rw [if_neg (by simp), eqByteSS p.Slots hp.2.1 (fun b hb => (hp.2.2 b hb).1)]; rfl
theorem eqPageS (a : List Page) (h : a.length ≤ 1048576) (he : ∀ b ∈ a, okP b) : laws_eqPageS.f a a = some true := by
 unfold laws_eqPageS.f
 have := eqS_gen (body := laws_eqPageS.b0 a a) a a (fun k hk _ => by
  unfold laws_eqPageS.b0
  rw [if_pos (by simp; omega), if_pos ⟨by omega, by omega⟩, if_pos ⟨by omega, by omega⟩, at_nat _ k hk, eqPage _ (he _ (List.getElem_mem hk)), w64 (by omega) (by omega)]
  simp) (by
  unfold laws_eqPageS.b0
  rw [if_neg (by simp)]; rfl)
 rw [this]; simp
theorem eqHeap (h : Heap) (hh : okH h) : laws_eqHeap.f h h = some true := by
 unfold laws_eqHeap.f
 rw [eqPageS _ hh.1 hh.2]; rfl
def wP (p : Page) : Nat := 1 + wsum List.length p.Slots
def wH (h : Heap) : Nat := wsum wP h.Pages
theorem wH_le (h : Heap) : wH h ≤ zH h := by
 unfold wH zH
 have := wsum_le wP zP 1 h.Pages (fun p _ => by unfold wP zP; omega)
 omega
end Go.Proofs.YtcgbhldenkeplaaGreat
set_option linter.unusedVariables false
set_option linter.unusedSimpArgs false
set_option linter.unusedSectionVars false
namespace Go.Proofs.YtcgbhldenkeplaaGreat
open Go V Ieee
theorem markIntS (a : List Int) (x : Int) (h0 : 0 ≤ x) (h1 : x + (a.length : Int) ≤ 100000000000) : ∃ a', laws_markIntS.f a x = some (x + (a.length : Int), a') ∧ a'.length = a.length := by
 have := markS1 (mb := laws_markIntS.b0) (wt := fun _ => 1) (fun _ => True) (fun _ _ => True) (fun _ => trivial) a (fun _ _ => trivial) x h0 (by rw [wsum_one]; exact h1)
  (fun l y k hk hla _ hy hy1 => by
   refine ⟨y, ?_, trivial⟩
   unfold laws_markIntS.b0
   simp only []
   rw [if_pos (by simp; omega), if_pos ⟨by omega, by omega⟩, w64 (by omega) (by omega), w64 (by omega) (by omega)]; rfl)
  (fun l y hla => by
   unfold laws_markIntS.b0
   simp only []
   rw [if_neg (by simp)]; rfl)
 rw [wsum_one] at this
 exact this
theorem eqIntS (a : List Int) (h : a.length ≤ 1000000000) : laws_eqIntS.f a a = some true := by
 unfold laws_eqIntS.f
 have := eqS_gen (body := laws_eqIntS.b0 a a) a a (fun k hk _ => by
  unfold laws_eqIntS.b0
  rw [if_pos (by simp; omega), if_pos ⟨by omega, by omega⟩, if_pos ⟨by omega, by omega⟩, at_nat _ k hk, w64 (by omega) (by omega)]
  simp) (by
  unfold laws_eqIntS.b0
  rw [if_neg (by simp)]; rfl)
 rw [this]; simp
theorem markByteSSz (a : List (List Int)) (x : Int) (hl : a.length ≤ 1048576) (h0 : 0 ≤ x) (h1 : x + (wsum List.length a : Int) ≤ 100000000000) : ∃ a', laws_markByteSS.f a x = some (x + (wsum List.length a : Int), a') ∧ a'.length = a.length :=
 markS1 (mb := laws_markByteSS.b0) (wt := List.length) (fun _ => True) (fun _ _ => True) (fun _ => trivial) a (fun _ _ => trivial) x h0 h1
  (fun l y k hk hla _ hy hy1 => by
   obtain ⟨e', em, _, _⟩ := markByteS l[k] y hy hy1
   refine ⟨e', ?_, trivial⟩
   unfold laws_markByteSS.b0
   simp only []
   rw [if_pos (by simp; omega), if_pos ⟨by omega, by omega⟩, at_nat _ k hk, em, Option.bind_some, w64 (by omega) (by omega)]; rfl)
  (fun l y hla => by
   unfold laws_markByteSS.b0
   simp only []
   rw [if_neg (by simp)]; rfl)
theorem markPageSz (a : List Page) (x : Int) (hl : a.length ≤ 1048576) (he : ∀ p ∈ a, p.Slots.length ≤ 1048576) (h0 : 0 ≤ x) (h1 : x + (wsum wP a : Int) ≤ 100000000000) : ∃ a', laws_markPageS.f a x = some (x + (wsum wP a : Int), a') ∧ a'.length = a.length :=
 markS1 (mb := laws_markPageS.b0) (wt := wP) (fun p => p.Slots.length ≤ 1048576) (fun _ _ => True) (fun _ => trivial) a he x h0 h1
  (fun l y k hk hla hp hy hy1 => by
   unfold wP at hy1 ⊢
   obtain ⟨e', em, _⟩ := markByteSSz (l[k]).Slots (y + 1) hp (by omega) (by omega)
   have ew : y + ((1 + wsum List.length (l[k]).Slots : Nat) : Int) = y + 1 + (wsum List.length (l[k]).Slots : Int) := by omega
   refine ⟨Page.mk y e', ?_, trivial⟩
   unfold laws_markPageS.b0
   simp only []
   rw [if_pos (by simp; omega), if_pos ⟨by omega, by omega⟩, if_pos ⟨by omega, by rw [List.length_set]; omega⟩, at_nat l k hk, Int.toNat_natCast, at_set _ _ _ hk, w64 (by omega) (by omega), em, Option.bind_some, Option.bind_some, List.set_set, w64 (by omega) (by omega), ew])
  (fun l y hla => by
   unfold laws_markPageS.b0
   simp only []
   rw [if_neg (by simp)]; rfl)
theorem markHeapz (h : Heap) (x : Int) (hh : okH h) (h0 : 0 ≤ x) (h1 : x + (wH h : Int) ≤ 100000000000) : ∃ a', laws_markHeap.f h x = some (x + (wH h : Int), a') := by
 obtain ⟨a', em, _⟩ := markPageSz h.Pages x hh.1 (fun p hp => (hh.2 p hp).2.1) h0 h1
 exact ⟨a', by unfold laws_markHeap.f; rw [em]; rfl⟩
end Go.Proofs.YtcgbhldenkeplaaGreat
