import Derived.Test.YtegicanjlefmdaaGreatG2
import Derived.Test.YtegicanjlefmdaaGreatGs
set_option linter.unusedVariables false
set_option linter.unusedSimpArgs false
namespace Go.Proofs.YtegicanjlefmdaaGreat
open Go V
theorem w64 {n : Int} (h0 : -9223372036854775808 ≤ n) (h1 : n ≤ 9223372036854775807) : IntKind.i64.wrap n = n := by
 rw [IntKind.wrap_i64]; omega
theorem i64_of {n : Int} (h : InK .i64 n) : -9223372036854775808 ≤ n ∧ n ≤ 9223372036854775807 := by
 simpa [InK, IntKind.min, IntKind.max, IntKind.signed, IntKind.bits] using h
theorem u8_of {n : Int} (h : InK .u8 n) : 0 ≤ n ∧ n ≤ 255 := by
 simpa [InK, IntKind.min, IntKind.max, IntKind.signed, IntKind.bits] using h
theorem i64_ok {n : Int} (h0 : -9223372036854775808 ≤ n) (h1 : n ≤ 9223372036854775807) : InK .i64 n := by
 simp [InK, IntKind.min, IntKind.max, IntKind.signed, IntKind.bits]; omega
theorem u8_ok {n : Int} (h0 : 0 ≤ n) (h1 : n ≤ 255) : InK .u8 n := by
 simp [InK, IntKind.min, IntKind.max, IntKind.signed, IntKind.bits]; omega
theorem u8n {b : Int} (h : InK .u8 b) : b = ((b.toNat : Nat) : Int) ∧ b.toNat < 256 := by have := u8_of h; omega
theorem wrap_u8n (b : Int) (h : InK .u8 b) : IntKind.wrap .i64 b = b := by have := u8_of h; exact w64 (by omega) (by omega)
theorem fdiv_nat (a b : Nat) : Int.fdiv (a : Int) (b : Int) = ((a / b : Nat) : Int) := by
 rw [Int.fdiv_eq_ediv_of_nonneg _ (by omega)]; rfl
theorem ishr_nat (k : IntKind) (a b : Nat) (h : b ≤ k.bits) : ishr k (a : Int) (b : Int) = ((a / 2 ^ b : Nat) : Int) := by
 unfold ishr
 rw [Int.toNat_natCast, Nat.min_eq_left h]
 have : (2 : Int) ^ b = ((2 ^ b : Nat) : Int) := by simp
 rw [this, fdiv_nat]
theorem ofInt_nat (w a : Nat) (h : a < 2 ^ w) : (BitVec.ofInt w (a : Int)).toNat = a := by
 rw [BitVec.ofInt_natCast, BitVec.toNat_ofNat, Nat.mod_eq_of_lt h]
theorem wu64 (a : Nat) (h : a < 18446744073709551616) : IntKind.wrap .u64 ((a : Nat) : Int) = (a : Int) := by rw [IntKind.wrap_u64]; omega
theorem ior_u64 (a b : Nat) (ha : a < 18446744073709551616) (hb : b < 18446744073709551616) : ior .u64 (a : Int) (b : Int) = ((a ||| b : Nat) : Int) := by
 unfold ior
 rw [BitVec.toNat_or, ofInt_nat _ a ha, ofInt_nat _ b hb]
 exact wu64 _ (Nat.or_lt_two_pow (n := 64) ha hb)
theorem iand_u64 (a b : Nat) (ha : a < 18446744073709551616) (hb : b < 18446744073709551616) : iand .u64 (a : Int) (b : Int) = ((a &&& b : Nat) : Int) := by
 unfold iand
 rw [BitVec.toNat_and, ofInt_nat _ a ha, ofInt_nat _ b hb]
 exact wu64 _ (Nat.and_lt_two_pow (n := 64) _ hb)
theorem ixor_u64 (a b : Nat) (ha : a < 18446744073709551616) (hb : b < 18446744073709551616) : ixor .u64 (a : Int) (b : Int) = ((a ^^^ b : Nat) : Int) := by
 unfold ixor
 rw [BitVec.toNat_xor, ofInt_nat _ a ha, ofInt_nat _ b hb]
 exact wu64 _ (Nat.xor_lt_two_pow (n := 64) ha hb)
theorem or_add (k n b : Nat) (h : b < 2 ^ k) : (n * 2 ^ k) ||| b = n * 2 ^ k + b := by
 have := Nat.two_pow_add_eq_or_of_lt (i := k) (b := b) h n
 rw [Nat.mul_comm n]
 exact this.symm
def rin (a b c : Int) : Bool := decide (b ≤ a) && decide (a ≤ c)
theorem rin_iff {a b c : Int} : rin a b c = true ↔ b ≤ a ∧ a ≤ c := by simp [rin]
theorem iter_for {S O : Type} {body : S → Option (S ⊕ O)} (n : Nat) (st : Nat → S) (o : O) (h : ∀ k, k < n → body (st k) = some (.inl (st (k + 1)))) (hn : body (st n) = some (.inr o)) : iter body (st 0) = some o := by
 have key : ∀ m, m ≤ n → iter body (st (n - m)) = some o := by
  intro m
  induction m with
  | zero => intro _; rw [iter_eq, Nat.sub_zero, hn]; rfl
  | succ m ih =>
   intro hm
   rw [iter_eq, h (n - (m + 1)) (by omega)]
   simp only [Option.bind_some]
   rw [show n - (m + 1) + 1 = n - m by omega]
   exact ih (by omega)
 have := key n (Nat.le_refl _)
 rwa [Nat.sub_self] at this
theorem iter_l {S O : Type} {body : S → Option (S ⊕ O)} {s s' : S} (h : body s = some (.inl s')) : iter body s = iter body s' := by rw [iter_eq, h]; rfl
theorem iter_r {S O : Type} {body : S → Option (S ⊕ O)} {s : S} {o : O} (h : body s = some (.inr o)) : iter body s = some o := by rw [iter_eq, h]; rfl
theorem at_nat {α : Type} [Inhabited α] (xs : List α) (k : Nat) (h : k < xs.length) : at_ xs (k : Int) = xs[k] := by
 rw [at_eq xs k (by simpa using h)]; simp
theorem at_set {α : Type} [Inhabited α] (l : List α) (i : Nat) (v : α) (h : i < l.length) : at_ (l.set i v) (i : Int) = v := by
 rw [at_nat _ _ (by rw [List.length_set]; exact h)]; simp
end Go.Proofs.YtegicanjlefmdaaGreat
set_option linter.unusedVariables false
set_option linter.unusedSimpArgs false
namespace Go.Proofs.YtegicanjlefmdaaGreat
open Go V
def Ok {α : Type} (m : Option α) (P : α → Prop) : Prop := ∃ r, m = some r ∧ P r
section
variable {α β S O : Type} {P : α → Prop} {Q : β → Prop}
theorem Ok.ret {x : α} (h : P x) : Ok (some x) P := ⟨x, rfl, h⟩
theorem Ok.eq {m : Option α} {x : α} (e : m = some x) (h : P x) : Ok m P := ⟨x, e, h⟩
theorem Ok.bind {m : Option α} {k : α → Option β} (h : Ok m P) (hk : ∀ r, P r → Ok (k r) Q) : Ok (m.bind k) Q := by
 obtain ⟨r, rfl, hp⟩ := h
 exact hk r hp
theorem Ok.mono {P' : α → Prop} {m : Option α} (h : Ok m P) (hk : ∀ r, P r → P' r) : Ok m P' := by
 obtain ⟨r, e, hp⟩ := h
 exact ⟨r, e, hk r hp⟩
theorem Ok.ite {c : Bool} {m n : Option α} (h1 : c = true → Ok m P) (h2 : c = false → Ok n P) : Ok (if c = true then m else n) P := by
 cases c with
 | true => exact h1 rfl
 | false => exact h2 rfl
theorem Ok.grd {c : Prop} [Decidable c] {m n : Option α} (hc : c) (h : Ok m P) : Ok (if c then m else n) P := by rw [if_pos hc]; exact h
theorem Ok.sel {m : Option (S ⊕ β)} {f : S → Option β} {R : S → Prop} (h : Ok m (Sum.elim R Q)) (hk : ∀ y, R y → Ok (f y) Q) : Ok (m.bind (sel f)) Q := by
 obtain ⟨r, rfl, hp⟩ := h
 cases r with
 | inl y => exact hk y hp
 | inr o => exact ⟨o, rfl, hp⟩
theorem Ok.out {m : Option O} {R : S → Prop} {Q : O → Prop} (h : Ok m Q) : Ok (m.bind fun o => some (Sum.inr o)) (Sum.elim R Q) := by
 obtain ⟨r, rfl, hp⟩ := h
 exact ⟨_, rfl, hp⟩
theorem Ok.iter {body : S → Option (S ⊕ O)} {Q : O → Prop} (Inv : S → Prop) (μ : S → Nat) (h : ∀ s, Inv s → Ok (body s) (Sum.elim (fun s' => Inv s' ∧ μ s' < μ s) Q)) : ∀ s, Inv s → Ok (iter body s) Q := by
 have key : ∀ n s, μ s < n → Inv s → Ok (V.iter body s) Q := by
  intro n
  induction n with
  | zero => intro s hs; omega
  | succ n ih =>
   intro s hs hi
   obtain ⟨r, e, hr⟩ := h s hi
   rw [iter_eq, e]
   cases r with
   | inl s' => exact ih s' (by have := hr.2; omega) hr.1
   | inr o => exact ⟨o, rfl, hr⟩
 intro s hi
 exact key _ s (Nat.lt_succ_self _) hi
end
theorem iand_mask (x : Int) (m : Nat) (hm : m < 9223372036854775808) : 0 ≤ iand .i64 x (m : Int) ∧ iand .i64 x (m : Int) ≤ m := by
 unfold iand
 have e : (BitVec.ofInt IntKind.i64.bits x &&& BitVec.ofInt IntKind.i64.bits (m : Int)).toNat ≤ m := by
  rw [BitVec.toNat_and, BitVec.ofInt_natCast, BitVec.toNat_ofNat, Nat.mod_eq_of_lt (show m < 2 ^ IntKind.i64.bits by show m < 2 ^ 64; omega)]
  exact Nat.and_le_right
 generalize (BitVec.ofInt IntKind.i64.bits x &&& BitVec.ofInt IntKind.i64.bits (m : Int)).toNat = y at *
 rw [w64 (by omega) (by omega)]
 omega
theorem tmod_lt {a n : Int} (h0 : 0 ≤ a) (hn : 0 < n) : 0 ≤ a.tmod n ∧ a.tmod n < n := by
 rw [Int.tmod_eq_emod_of_nonneg h0]
 exact ⟨Int.emod_nonneg _ (by omega), Int.emod_lt_of_pos _ hn⟩
def Ci (b : List Int) (i : Int) : Prop := 0 ≤ i ∧ i ≤ (b.length : Int) ∧ b.length ≤ 1048576
theorem l1Byte_ok (c : l1Cur) (h : Ci c.b c.i) : Ok (spec_l1Byte.f c) fun r => 0 ≤ r.1 ∧ r.1 ≤ 255 ∧ Ci c.b r.2.i := by
 obtain ⟨h0, h1, h2⟩ := h
 unfold spec_l1Byte.f
 have m1 := fun x => iand_mask x 255 (by omega)
 refine Ok.bind (P := fun y => 0 ≤ y.1 ∧ y.1 ≤ 255 ∧ Ci c.b y.2) (Ok.ite (fun hc => ?_) fun _ => Ok.ret ⟨(m1 _).1, (m1 _).2, h0, h1, h2⟩) fun y hy => Ok.ret hy
 have hi : c.i < (c.b.length : Int) := by simpa using hc
 refine Ok.grd ⟨h0, hi⟩ (Ok.ret ⟨(m1 _).1, (m1 _).2, ?_⟩)
 show Ci c.b (IntKind.wrap .i64 (c.i + 1))
 rw [w64 (by omega) (by omega)]
 exact ⟨by omega, by omega, h2⟩
theorem l1Below_ok (c : l1Cur) (n : Int) (h : Ci c.b c.i) (hn : 0 < n) : Ok (spec_l1Below.f c n) fun r => 0 ≤ r.1 ∧ r.1 < n ∧ Ci c.b r.2.i := by
 unfold spec_l1Below.f
 refine Ok.ite (fun hc => by simp at hc; omega) fun _ => Ok.ite (fun _ => ?_) fun _ => ?_
 · refine Ok.bind (l1Byte_ok c h) fun r hr => Ok.grd (by omega) (Ok.ret ?_)
   have := tmod_lt hr.1 hn
   exact ⟨this.1, this.2, hr.2.2⟩
 · refine Ok.bind (l1Byte_ok c h) fun r1 h1 => Ok.bind (l1Byte_ok (l1Cur.mk c.b r1.2.i r1.2.h) h1.2.2) fun r2 h2 => Ok.bind (l1Byte_ok (l1Cur.mk c.b r2.2.i r2.2.h) h2.2.2) fun r3 h3 => Ok.bind (l1Byte_ok (l1Cur.mk c.b r3.2.i r3.2.h) h3.2.2) fun r4 h4 => Ok.grd (by omega) (Ok.ret ?_)
   obtain ⟨p1, q1, _⟩ := h1
   obtain ⟨p2, q2, _⟩ := h2
   obtain ⟨p3, q3, _⟩ := h3
   obtain ⟨p4, q4, k4⟩ := h4
   rw [w64 (n := r1.1 * 16777216) (by omega) (by omega), w64 (n := r2.1 * 65536) (by omega) (by omega), w64 (n := r1.1 * 16777216 + r2.1 * 65536) (by omega) (by omega), w64 (n := r3.1 * 256) (by omega) (by omega), w64 (n := r1.1 * 16777216 + r2.1 * 65536 + r3.1 * 256) (by omega) (by omega), w64 (by omega) (by omega)]
   have := tmod_lt (a := r1.1 * 16777216 + r2.1 * 65536 + r3.1 * 256 + r4.1) (by omega) hn
   exact ⟨this.1, this.2, k4⟩
theorem l1Once_ok (c : l1Cur) (n : Int) (h : Ci c.b c.i) (hn : 0 < n) : Ok (spec_l1Once.f c n) fun r => Ci c.b r.2.i :=
 Ok.bind (l1Below_ok c n h hn) fun r hr => Ok.ret hr.2.2
theorem l1PickInt_ok (c : l1Cur) (l : List Int) (h : Ci c.b c.i) (hl : l ≠ []) : Ok (spec_l1PickInt.f c l) fun r => r.1 ∈ l ∧ Ci c.b r.2.i := by
 have hp : 0 < l.length := List.length_pos_iff.2 hl
 refine Ok.bind (l1Below_ok c (l.length : Int) h (by omega)) fun r hr => Ok.grd ⟨hr.1, hr.2.1⟩ (Ok.ret ⟨?_, hr.2.2⟩)
 obtain ⟨k, hk⟩ := Int.eq_ofNat_of_zero_le hr.1
 show at_ l r.1 ∈ l
 have h2 := hr.2.1
 rw [hk] at h2 ⊢
 rw [at_nat l k (by omega)]
 exact List.getElem_mem _
theorem l1New_ok (a : List Int) (h : a.length ≤ 1048576) : Ok (spec_l1New.f a) fun c => c.b = a ∧ Ci c.b c.i := by
 unfold spec_l1New.f
 refine Ok.iter (fun s => 0 ≤ s.2 ∧ s.2 ≤ (a.length : Int)) (fun s => a.length - s.2.toNat) (fun s hs => ?_) _ ⟨by simp, by simp⟩
 unfold spec_l1New.b0
 refine Ok.ite (fun hc => ?_) fun _ => Ok.out (Ok.ret ⟨rfl, ?_⟩)
 · simp at hc
   refine Ok.grd ⟨hs.1, hc.1⟩ (Ok.ret ?_)
   show (_ ∧ _) ∧ _
   simp only []
   rw [w64 (by omega) (by omega)]
   omega
 · exact ⟨Int.le_refl 0, by simp, h⟩
theorem l1Size_ok (a : List Int) (m : Int) (h : a.length ≤ 1048576) (hm : 2 ≤ m) : Ok (spec_l1Size.f a m) fun r => 0 ≤ r ∧ r ≤ m := by
 unfold spec_l1Size.f
 have e : ((a.length : Int)).tdiv 20 = ((a.length / 20 : Nat) : Int) := by rw [Int.tdiv_eq_ediv_of_nonneg (by omega)]; omega
 rw [e, w64 (n := ((a.length / 20 : Nat) : Int)) (by omega) (by omega), w64 (n := (2 : Int) + _) (by omega) (by omega)]
 refine Ok.ite (fun hc => Ok.ret ⟨by omega, by omega⟩) fun hc => ?_
 simp at hc
 exact Ok.ret ⟨by omega, by omega⟩
theorem l1some_ok (c : l1Cur) (n : Int) (h : Ci c.b c.i) (h0 : 0 ≤ n) (hn : n ≤ 100000) : Ok (spec_l1some.f c n) fun r => ((r.1.length : Int) ≤ n ∧ ∀ x ∈ r.1, InK .u8 x) ∧ Ci c.b r.2.i := by
 unfold spec_l1some.f
 rw [w64 (by omega) (by omega)]
 refine Ok.bind (l1Below_ok c _ h (by omega)) fun r hr => ?_
 obtain ⟨k1, k2, k3⟩ := hr
 refine Ok.iter (fun s => 0 ≤ s.2.1 ∧ s.2.1 ≤ r.1 ∧ (s.1.length : Int) = s.2.1 ∧ (∀ x ∈ s.1, InK .u8 x) ∧ Ci c.b s.2.2.1) (fun s => (r.1 - s.2.1).toNat) (fun s hs => ?_) _ ?_
 rotate_left
 · exact ⟨Int.le_refl 0, k1, rfl, (fun x hx => by cases hx), k3⟩
 obtain ⟨j1, j2, j3, j4, j5⟩ := hs
 unfold spec_l1some.b0
 refine Ok.ite (fun hc => ?_) fun hc => Ok.out (Ok.ret ⟨⟨by show ((s.1).length : Int) ≤ n; omega, j4⟩, j5⟩)
 have hc' : s.2.1 < r.1 := by simpa using hc
 refine Ok.bind (l1Byte_ok (l1Cur.mk c.b s.2.2.1 s.2.2.2) j5) fun q hq => Ok.grd (by simp only [Lim, List.length_singleton]; omega) (Ok.ret ?_)
 show (_ ∧ _ ∧ _ ∧ _ ∧ _) ∧ _
 simp only []
 rw [w64 (by omega) (by omega)]
 refine ⟨⟨by omega, by omega, by simp; omega, fun x hx => ?_, hq.2.2⟩, by omega⟩
 rcases List.mem_append.1 hx with hx | hx
 · exact j4 x hx
 · rw [List.mem_singleton.1 hx, IntKind.wrap_u8]; exact u8_ok (by omega) (by omega)
end Go.Proofs.YtegicanjlefmdaaGreat
set_option linter.unusedVariables false
set_option linter.unusedSimpArgs false
set_option linter.unusedSectionVars false
namespace Go.Proofs.YtegicanjlefmdaaGreat
open Go V Ieee
theorem iter_pass {S O : Type} {body : S → Option (S ⊕ O)} {s : S} {m : Option O} (h : body s = m.bind fun o => some (Sum.inr o)) : iter body s = m := by
 rw [iter_eq, h]
 cases m <;> rfl
def wd (M e : Nat) : Nat := D.word false (e * 4503599627370496 + M)
theorem wd_eq (M e : Nat) : wd M e = e * 4503599627370496 + M := rfl
theorem wd_v {M e : Nat} (h1 : M < 9007199254740992) (h2 : e = 0 ∨ 4503599627370496 ≤ M) (h3 : e ≤ 2045) : IsV (wd M e) false (M * pw e) := ⟨M, e, h1, h2, h3, rfl, rfl⟩
theorem rep_of {M : Nat} (h1 : M < 9007199254740992) : ∀ e, e ≤ 2045 → Rep (M * pw e) := by
 intro e
 induction e generalizing M with
 | zero => intro _; exact ⟨M, 0, h1, .inl rfl, by omega, rfl⟩
 | succ e ih =>
  intro he
  by_cases hm : 4503599627370496 ≤ M
  · exact ⟨M, e + 1, h1, .inr hm, he, rfl⟩
  · have := ih (M := 2 * M) (by omega) (by omega)
    rwa [show 2 * M * pw e = M * pw (e + 1) by rw [pw_succ, Nat.mul_comm 2 M, Nat.mul_assoc, Nat.mul_comm 2]] at this
theorem v0 : IsV 0 false 0 := ⟨0, 0, by decide, .inl rfl, by omega, by simp, rfl⟩
theorem v1 : IsV 4607182418800017408 false (4503599627370496 * pw 1022) := ⟨4503599627370496, 1022, by decide, .inr (Nat.le_refl _), by omega, rfl, rfl⟩
theorem v2 : IsV 4611686018427387904 false (4503599627370496 * pw 1023) := ⟨4503599627370496, 1023, by decide, .inr (Nat.le_refl _), by omega, rfl, rfl⟩
theorem vM : IsV 9218868437227405311 false (9007199254740991 * pw 2045) := ⟨9007199254740991, 2045, by decide, .inr (by decide), by omega, rfl, rfl⟩
section
variable {a b u v : Nat} (ha : IsV a false u) (hb : IsV b false v)
include ha hb
theorem cmp_v : fcmp .f64 a b = some (compare u v) := by
 have h := order_v ha hb
 rw [signed_f, signed_f, Nat.pow_zero, Nat.mul_one, Nat.mul_one] at h
 show D.order a b = _
 rw [h]
 show some (compareOfLessAndEq (u : Int) (v : Int)) = some (compareOfLessAndEq u v)
 unfold compareOfLessAndEq
 by_cases h1 : u < v
 · rw [if_pos h1, if_pos (by omega)]
 · rw [if_neg h1, if_neg (by omega)]
   by_cases h2 : u = v
   · rw [if_pos h2, if_pos (by omega)]
   · rw [if_neg h2, if_neg (by omega)]
theorem cmp_lt : (fcmp .f64 a b == some .lt) = decide (u < v) := by
 rw [cmp_v ha hb]
 by_cases h : u < v
 · simp [Nat.compare_eq_lt.2 h, h]
 · have : compare u v ≠ .lt := fun hc => h (Nat.compare_eq_lt.1 hc)
   simp [this, h]
theorem cmp_gt : (fcmp .f64 a b == some .gt) = decide (v < u) := by
 rw [cmp_v ha hb]
 by_cases h : v < u
 · simp [Nat.compare_eq_gt.2 h, h]
 · have : compare u v ≠ .gt := fun hc => h (Nat.compare_eq_gt.1 hc)
   simp [this, h]
theorem cmp_eq : (fcmp .f64 a b == some .eq) = decide (u = v) := by
 rw [cmp_v ha hb]
 by_cases h : u = v
 · simp [Nat.compare_eq_eq.2 h, h]
 · have : compare u v ≠ .eq := fun hc => h (Nat.compare_eq_eq.1 hc)
   simp [this, h]
end
theorem far_half {a u : Nat} (h : IsV a false (u * 2)) (hu : Rep u) : IsV (far .quo a 4611686018427387904) false u := by
 obtain ⟨w', hw, hv⟩ := div_pow (j := 1) c_two (by simpa [pw] using h) hu
 have : far .quo a 4611686018427387904 = w' := by show (D.div a _).getD _ = _; rw [hw]; rfl
 rwa [this]
theorem far_dbl {a u : Nat} (h : IsV a false u) (hu : Rep (u * 2)) : IsV (far .mul a 4611686018427387904) false (u * 2) := by
 obtain ⟨w', hw, hv⟩ := mul_pow_ (j := 1) c_two h (by simpa using hu)
 have : far .mul a 4611686018427387904 = w' := by show (D.mul a _).getD _ = _; rw [hw]; rfl
 rw [this]; simpa using hv
theorem far_big {a u : Nat} (h : IsV a false u) (hu : Rep (u * pw 52)) : IsV (far .mul a 4841369599423283200) false (u * pw 52) := by
 obtain ⟨w', hw, hv⟩ := mul_pow_ (j := 52) c_big h hu
 have : far .mul a 4841369599423283200 = w' := by show (D.mul a _).getD _ = _; rw [hw]; rfl
 rwa [this]
theorem far_sub1 {a v : Nat} (h : IsV a false (U1 + v)) (hv : Rep v) : IsV (far .sub a 4607182418800017408) false v := by
 obtain ⟨w', hw, hv⟩ := sub_one h hv
 have : far .sub a 4607182418800017408 = w' := by show (D.sub a _).getD _ = _; rw [hw]; rfl
 rwa [this]
theorem f2i_v {a n : Nat} (h : IsV a false (n * pw 1074)) (hn : n < 18446744073709551616) : floatToIntVal .f64 a .u64 = some (n : Int) := by
 unfold floatToIntVal
 have := toInt_p h
 show (match (D.read a).toInt .zero with | some n => _ | none => _) = _
 rw [this]
 simp only []
 rw [if_pos]
 simp [IntKind.min, IntKind.max, IntKind.signed, IntKind.bits]; omega
section
variable (S E : Nat) (A : Nat)
theorem bits_num (s E K : Nat) (hs : s ≤ 1) (hE : E < 2048) (hK : K < 4503599627370496) : ior .u64 (ior .u64 ((s * 9223372036854775808 : Nat) : Int) (ishl .u64 (IntKind.wrap .u64 (IntKind.wrap .i64 (E : Int))) 52)) (K : Int) = ((s * 9223372036854775808 + E * 4503599627370496 + K : Nat) : Int) := by
 rw [w64 (by omega) (by omega), wu64 E (by omega)]
 have h1 : ishl .u64 (E : Int) 52 = ((E * 4503599627370496 : Nat) : Int) := by
  unfold ishl
  show IntKind.wrap .u64 ((E : Int) * 2 ^ 52) = _
  have : (E : Int) * 2 ^ 52 = ((E * 4503599627370496 : Nat) : Int) := by rw [show (2 : Int) ^ 52 = 4503599627370496 by decide]; omega
  rw [this, wu64 _ (by omega)]
 rw [h1, ior_u64 _ _ (by omega) (by omega)]
 have h2 : s * 9223372036854775808 ||| E * 4503599627370496 = s * 9223372036854775808 + E * 4503599627370496 := by
  have := or_add 63 s (E * 4503599627370496) (by show _ < 9223372036854775808; omega)
  exact this
 rw [h2, ior_u64 _ _ (by omega) (by omega)]
 have h3 := or_add 52 (s * 2048 + E) K (by show _ < 4503599627370496; omega)
 have e : (s * 2048 + E) * 2 ^ 52 = s * 9223372036854775808 + E * 4503599627370496 := by
  rw [show (2 : Nat) ^ 52 = 4503599627370496 by decide]; omega
 rw [e] at h3
 rw [h3]
theorem bits_sub (s K : Nat) (hs : s ≤ 1) (hK : K < 4503599627370496) : ior .u64 ((s * 9223372036854775808 : Nat) : Int) (K : Int) = ((s * 9223372036854775808 + K : Nat) : Int) := by
 rw [ior_u64 _ _ (by omega) (by omega)]
 have h3 := or_add 63 s K (by show _ < 9223372036854775808; omega)
 rw [show (s * 2 ^ 63 : Nat) = s * 9223372036854775808 from rfl] at h3
 rw [h3]
end
theorem p_lt {M e : Nat} (k k' : Nat) (h : M < 9007199254740992) (he : e ≤ k) (hk : k' = k + 1) : M * pw e < 4503599627370496 * pw k' := by
 have h1 : M * pw e < 9007199254740992 * pw e := Nat.mul_lt_mul_of_pos_right h (pw_pos e)
 have h2 : 9007199254740992 * pw e ≤ 9007199254740992 * pw k := Nat.mul_le_mul_left _ (pw_le he)
 have h3 : 4503599627370496 * (pw k * 2) = 9007199254740992 * pw k := by
  generalize pw k = q
  omega
 rw [hk, pw_succ, h3]
 exact Nat.lt_of_lt_of_le h1 h2
theorem p_ge {M e k : Nat} (h : 4503599627370496 ≤ M) (he : k ≤ e) : 4503599627370496 * pw k ≤ M * pw e :=
 Nat.mul_le_mul h (pw_le he)
theorem fb_one (s M : Nat) (A : Nat) (c : Int) (E : Nat) (hs : s ≤ 1) (h1 : M < 9007199254740992) (h2 : 4503599627370496 ≤ M) (hE : E < 2048) (hc : c + 1023 = (E : Int)) : iter (spec_FloatBits.b1 (((s * 9223372036854775808 : Nat) : Int), A)) (wd M 1022, c) = some ((s * 9223372036854775808 + E * 4503599627370496 + (M - 4503599627370496) : Nat) : Int) := by
 have hv := wd_v h1 (.inr h2) (show 1022 ≤ 2045 by omega)
 have hlt := cmp_lt hv v1
 have hnl : ¬ M * pw 1022 < 4503599627370496 * pw 1022 := Nat.not_lt.2 (p_ge h2 (Nat.le_refl _))
 rw [decide_eq_false hnl] at hlt
 have hsum : M * pw 1022 = U1 + (M - 4503599627370496) * pw 1022 := by
  rw [U1_eq, ← Nat.add_mul, show 4503599627370496 + (M - 4503599627370496) = M by omega]
 have hK : M - 4503599627370496 < 9007199254740992 := by omega
 rw [hsum] at hv
 have hs1 := far_sub1 hv (rep_of hK 1022 (by omega))
 have hb := far_big hs1 (by rw [Nat.mul_assoc, ← pw_add]; exact rep_of hK _ (by omega))
 rw [Nat.mul_assoc, ← pw_add] at hb
 have hi := f2i_v hb (by omega)
 refine iter_r ?_
 unfold spec_FloatBits.b1
 simp only [hlt, hi, Bool.false_and, Bool.false_eq_true, if_false, Option.bind_some]
 rw [hc, bits_num s E _ hs hE (by omega)]
theorem fb_up (s M : Nat) (A : Nat) (hs : s ≤ 1) (h1 : M < 9007199254740992) (h2 : 4503599627370496 ≤ M) : ∀ (j i : Nat), i + j ≤ 1022 → iter (spec_FloatBits.b1 (((s * 9223372036854775808 : Nat) : Int), A)) (wd M (1022 - j), -(i : Int)) = some ((s * 9223372036854775808 + (1023 - i - j) * 4503599627370496 + (M - 4503599627370496) : Nat) : Int) := by
 intro j
 induction j with
 | zero => intro i hi; exact fb_one s M A _ _ hs h1 h2 (by omega) (by omega)
 | succ j ih =>
  intro i hi
  have hv := wd_v h1 (.inr h2) (show 1022 - (j + 1) ≤ 2045 by omega)
  have hlt := cmp_lt hv v1
  have hl : M * pw (1022 - (j + 1)) < 4503599627370496 * pw 1022 := p_lt 1021 1022 h1 (by omega) rfl
  rw [decide_eq_true hl] at hlt
  have he : M * pw (1022 - (j + 1)) * 2 = M * pw (1022 - j) := by
   rw [Nat.mul_assoc, ← pw_succ, show 1022 - (j + 1) + 1 = 1022 - j by omega]
  have hd := far_dbl hv (by rw [he]; exact rep_of h1 _ (by omega))
  rw [he] at hd
  have hw := hd.eq (wd_v h1 (.inr h2) (show 1022 - j ≤ 2045 by omega))
  have hstep : spec_FloatBits.b1 (((s * 9223372036854775808 : Nat) : Int), A) (wd M (1022 - (j + 1)), -(i : Int)) = some (.inl (wd M (1022 - j), -((i + 1 : Nat) : Int))) := by
   unfold spec_FloatBits.b1
   simp only [hlt, Bool.true_and]
   rw [if_pos (by simp; omega), hw, w64 (by omega) (by omega), show -(i : Int) - 1 = -((i + 1 : Nat) : Int) by omega]
  rw [iter_l hstep, ih (i + 1) (by omega), show 1023 - (i + 1) - j = 1023 - i - (j + 1) by omega]
theorem fb_sub (s M : Nat) (A : Nat) (hs : s ≤ 1) (h1 : M < 4503599627370496) : ∀ (j i a : Nat), i + j = 1022 → IsV a false (M * pw i) → iter (spec_FloatBits.b1 (((s * 9223372036854775808 : Nat) : Int), A)) (a, -(i : Int)) = some ((s * 9223372036854775808 + M : Nat) : Int) := by
 intro j
 induction j with
 | zero =>
  intro i a hi hv
  have hlt := cmp_lt hv v1
  have hl : M * pw i < 4503599627370496 * pw 1022 := by
   rw [show i = 1022 by omega]
   exact Nat.mul_lt_mul_of_pos_right h1 (pw_pos _)
  rw [decide_eq_true hl] at hlt
  have hb := far_big hv (by rw [Nat.mul_assoc, ← pw_add]; exact rep_of (by omega) _ (by omega))
  rw [Nat.mul_assoc, ← pw_add, show i + 52 = 1074 by omega] at hb
  have hi2 := f2i_v hb (by omega)
  refine iter_r ?_
  unfold spec_FloatBits.b1
  have hc : decide (-(i : Int) > -1022) = false := by simp; omega
  simp only [hlt, hc, hi2, Bool.true_and, Bool.false_eq_true, if_false, if_true, Option.bind_some]
  rw [bits_sub s M hs h1]
 | succ j ih =>
  intro i a hi hv
  have hlt := cmp_lt hv v1
  have hl : M * pw i < 4503599627370496 * pw 1022 := p_lt 1021 1022 (by omega) (by omega) rfl
  rw [decide_eq_true hl] at hlt
  have he : M * pw i * 2 = M * pw (i + 1) := by rw [Nat.mul_assoc, ← pw_succ]
  have hd := far_dbl hv (by rw [he]; exact rep_of (by omega) _ (by omega))
  rw [he] at hd
  have hstep : spec_FloatBits.b1 (((s * 9223372036854775808 : Nat) : Int), A) (a, -(i : Int)) = some (.inl (far .mul a 4611686018427387904, -((i + 1 : Nat) : Int))) := by
   unfold spec_FloatBits.b1
   simp only [hlt, Bool.true_and]
   rw [if_pos (by simp; omega), w64 (by omega) (by omega), show -(i : Int) - 1 = -((i + 1 : Nat) : Int) by omega]
  rw [iter_l hstep, ih (i + 1) _ (by omega) hd]
theorem fb_pass {y : Int × Nat} {a u : Nat} {c : Int} (hv : IsV a false u) (hu : u < 4503599627370496 * pw 1023) : iter (spec_FloatBits.b0 y) (a, c) = iter (spec_FloatBits.b1 y) (a, c) := by
 refine iter_pass ?_
 unfold spec_FloatBits.b0
 have h1 := cmp_gt hv v2
 have h2 := cmp_eq hv v2
 rw [decide_eq_false (by omega)] at h1
 rw [decide_eq_false (by omega)] at h2
 simp only [h1, h2, Bool.or_self, Bool.false_eq_true, if_false]
theorem fb_down (y : Int × Nat) (M : Nat) (h1 : M < 9007199254740992) (h2 : 4503599627370496 ≤ M) : ∀ (n e : Nat) (c : Int), e = 1022 + n → e ≤ 2045 → 0 ≤ c → c ≤ 10000 - n → iter (spec_FloatBits.b0 y) (wd M e, c) = iter (spec_FloatBits.b1 y) (wd M 1022, c + n) := by
 intro n
 induction n with
 | zero =>
  intro e c he _ _ _
  have : e = 1022 := by omega
  subst this
  rw [fb_pass (wd_v h1 (.inr h2) (by omega)) (p_lt 1022 1023 h1 (by omega) rfl)]
  simp
 | succ n ih =>
  intro e c he he2 hc0 hc1
  obtain ⟨e, rfl⟩ : ∃ e', e = e' + 1 := ⟨e - 1, by omega⟩
  have hv := wd_v h1 (.inr h2) he2
  have g1 := cmp_gt hv v2
  have g2 := cmp_eq hv v2
  have hge : 4503599627370496 * pw 1023 ≤ M * pw (e + 1) := p_ge h2 (by omega)
  have hor : (fcmp .f64 (wd M (e + 1)) 4611686018427387904 == some .gt || fcmp .f64 (wd M (e + 1)) 4611686018427387904 == some .eq) = true := by
   rw [g1, g2, Bool.or_eq_true, decide_eq_true_eq, decide_eq_true_eq]
   generalize 4503599627370496 * pw 1023 = q at hge ⊢
   omega
  have hv2 : IsV (wd M (e + 1)) false (M * pw e * 2) := by rw [Nat.mul_assoc, ← pw_succ]; exact hv
  have hw := (far_half hv2 (rep_of h1 _ (by omega))).eq (wd_v h1 (.inr h2) (by omega))
  have hstep : spec_FloatBits.b0 y (wd M (e + 1), c) = some (.inl (wd M e, c + 1)) := by
   unfold spec_FloatBits.b0
   simp only [hor, if_true]
   rw [hw, w64 (by omega) (by omega)]
  rw [iter_l hstep, ih e (c + 1) (by omega) (by omega) (by omega) (by omega), show c + 1 + (n : Int) = c + ((n + 1 : Nat) : Int) by omega]
theorem xor_sign (r : Nat) (h : r < 9223372036854775808) : Op.negFloat .f64 (9223372036854775808 + r) = r := by
 show (9223372036854775808 + r) ^^^ 2 ^ 63 = r
 have e : 9223372036854775808 + r = 2 ^ 63 ||| r := by
  have := Nat.two_pow_add_eq_or_of_lt (i := 63) (b := r) h 1
  simpa using this
 have e2 : 2 ^ 63 ||| r = 2 ^ 63 ^^^ r := by
  apply Nat.eq_of_testBit_eq
  intro i
  rw [Nat.testBit_or, Nat.testBit_xor]
  by_cases hi : i = 63
  · subst hi
    have : r.testBit 63 = false := Nat.testBit_lt_two_pow h
    rw [this]; simp
  · have : (2 ^ 63).testBit i = false := by rw [Nat.testBit_two_pow]; simp; omega
    rw [this]; simp
 rw [e, e2, Nat.xor_comm (2 ^ 63) r, Nat.xor_assoc, Nat.xor_self, Nat.xor_zero]
theorem fin_word {x : Nat} (hx : x < 18446744073709551616) (h : x % 9223372036854775808 < 9218868437227405312) : ∃ s M e, s ≤ 1 ∧ M < 9007199254740992 ∧ (e = 0 ∨ 4503599627370496 ≤ M) ∧ e ≤ 2045 ∧ x = s * 9223372036854775808 + wd M e := by
 refine ⟨x / 9223372036854775808, ?_⟩
 by_cases hr : x % 9223372036854775808 < 4503599627370496
 · exact ⟨x % 9223372036854775808, 0, by omega, by omega, .inl rfl, by omega, by rw [wd_eq]; omega⟩
 · refine ⟨4503599627370496 + x % 9223372036854775808 % 4503599627370496, x % 9223372036854775808 / 4503599627370496 - 1, by omega, by omega, .inr (by omega), by omega, ?_⟩
   rw [wd_eq]; omega
theorem fb_loops (s M e : Nat) (A : Nat) (hs : s ≤ 1) (h1 : M < 9007199254740992) (h2 : e = 0 ∨ 4503599627370496 ≤ M) (h3 : e ≤ 2045) : iter (spec_FloatBits.b0 (((s * 9223372036854775808 : Nat) : Int), A)) (wd M e, (0 : Int)) = some ((s * 9223372036854775808 + wd M e : Nat) : Int) := by
 by_cases hm : 4503599627370496 ≤ M
 · by_cases he : 1022 ≤ e
   · rw [fb_down _ M h1 hm (e - 1022) e 0 (by omega) h3 (by omega) (by omega)]
     rw [fb_one s M A _ (e + 1) hs h1 hm (by omega) (by omega), wd_eq, show s * 9223372036854775808 + (e + 1) * 4503599627370496 + (M - 4503599627370496) = s * 9223372036854775808 + (e * 4503599627370496 + M) by omega]
   · rw [fb_pass (wd_v h1 (.inr hm) h3) (p_lt 1022 1023 h1 (by omega) rfl)]
     have := fb_up s M A hs h1 hm (1022 - e) 0 (by omega)
     rw [show 1022 - (1022 - e) = e by omega] at this
     rw [show (0 : Int) = -((0 : Nat) : Int) by simp, this, wd_eq, show s * 9223372036854775808 + (1023 - 0 - (1022 - e)) * 4503599627370496 + (M - 4503599627370496) = s * 9223372036854775808 + (e * 4503599627370496 + M) by omega]
 · have he : e = 0 := by omega
   subst he
   have hv := wd_v h1 (.inl rfl) h3
   rw [fb_pass hv (p_lt 1022 1023 h1 (by omega) rfl)]
   have h0 : M * pw 0 = M * pw 0 := rfl
   have := fb_sub s M A hs (by omega) 1022 0 (wd M 0) (by omega) hv
   rw [show (0 : Int) = -((0 : Nat) : Int) by simp, this, wd_eq, show 0 * 4503599627370496 + M = M by omega]
theorem nan_word {x : Nat} (h : okF x) (hn : isN x = true) : x = nanB := by rw [← h.1, cn_nan hn]
theorem fb_nan : spec_FloatBits.f 9221120237041090560 = some 9221120237041090560 := by
 unfold spec_FloatBits.f
 rw [if_pos (by decide)]
theorem fb_inf : spec_FloatBits.f 9218868437227405312 = some 9218868437227405312 := by
 have h1 : (fcmp .f64 9218868437227405312 9218868437227405312 != some .eq) = false := by decide
 have h2 : (fcmp .f64 9218868437227405312 0 == some .lt) = false := by decide
 have h3 : (fcmp .f64 9218868437227405312 0 == some .eq) = false := by decide
 have h4 : (fcmp .f64 9218868437227405312 9218868437227405311 == some .gt) = true := by decide
 unfold spec_FloatBits.f
 simp only [h1, h2, h3, h4, Bool.false_eq_true, if_false, if_true, Option.bind_some]
 rfl
theorem fb_ninf : spec_FloatBits.f 18442240474082181120 = some 18442240474082181120 := by
 have h1 : (fcmp .f64 18442240474082181120 18442240474082181120 != some .eq) = false := by decide
 have h2 : (fcmp .f64 18442240474082181120 0 == some .lt) = true := by decide
 have h0 : fneg 18442240474082181120 = 9218868437227405312 := by decide
 have h3 : (fcmp .f64 9218868437227405312 0 == some .eq) = false := by decide
 have h4 : (fcmp .f64 9218868437227405312 9218868437227405311 == some .gt) = true := by decide
 unfold spec_FloatBits.f
 simp only [h1, h2, h0, h3, h4, Bool.false_eq_true, if_false, if_true, Option.bind_some]
 rfl
theorem fb_zero : spec_FloatBits.f 0 = some 0 := by
 have h1 : (fcmp .f64 0 0 != some .eq) = false := by decide
 have h2 : (fcmp .f64 0 0 == some .lt) = false := by decide
 have h3 : (fcmp .f64 0 0 == some .eq) = true := by decide
 have h4 : (fcmp .f64 (far .quo 4607182418800017408 0) 0 == some .lt) = false := by decide
 unfold spec_FloatBits.f
 simp only [h1, h2, h3, h4, Bool.false_eq_true, if_false, if_true, Option.bind_some]
theorem fb_nzero : spec_FloatBits.f 9223372036854775808 = some 9223372036854775808 := by
 have h1 : (fcmp .f64 9223372036854775808 9223372036854775808 != some .eq) = false := by decide
 have h2 : (fcmp .f64 9223372036854775808 0 == some .lt) = false := by decide
 have h3 : (fcmp .f64 9223372036854775808 0 == some .eq) = true := by decide
 have h4 : (fcmp .f64 (far .quo 4607182418800017408 9223372036854775808) 0 == some .lt) = true := by decide
 have h5 : (fcmp .f64 (fneg 9223372036854775808) 0 == some .eq) = true := by decide
 unfold spec_FloatBits.f
 simp only [h1, h2, h3, h4, h5, Bool.false_eq_true, if_false, if_true, Option.bind_some]
theorem ifF {α : Type} {b : Bool} {x y : α} (h : b = false) : (if b = true then x else y) = y := by subst h; rfl
theorem ifT {α : Type} {b : Bool} {x y : α} (h : b = true) : (if b = true then x else y) = x := by subst h; rfl
theorem cmp_self {w u : Nat} {s : Bool} (hw : IsV w s u) : (fcmp .f64 w w != some .eq) = false := by
 have : fcmp .f64 w w = some .eq := by
  show D.order w w = _
  rw [order_v hw hw]
  show (some (compareOfLessAndEq _ _)) = some _
  unfold compareOfLessAndEq
  rw [if_neg (Int.lt_irrefl _), if_pos rfl]
 rw [this]; rfl
theorem cmp_le {M e : Nat} (h1 : M < 9007199254740992) (h3 : e ≤ 2045) : ¬ 9007199254740991 * pw 2045 < M * pw e := by
 have : M * pw e ≤ 9007199254740991 * pw 2045 := Nat.mul_le_mul (by omega) (pw_le h3)
 exact Nat.not_lt.2 this
section
variable {M e : Nat} (h1 : M < 9007199254740992) (h2 : e = 0 ∨ 4503599627370496 ≤ M) (h3 : e ≤ 2045) (hM : 0 < M)
include h1 h2 h3
theorem wd_lt : wd M e < 9218868437227405312 := by rw [wd_eq]; omega
theorem wd_max : (fcmp .f64 (wd M e) 9218868437227405311 == some .gt) = false := by
 rw [cmp_gt (wd_v h1 h2 h3) vM, decide_eq_false (cmp_le h1 h3)]
theorem wd_neg : IsV (9223372036854775808 + wd M e) true (M * pw e) := ⟨M, e, h1, h2, h3, rfl, by rw [wd_eq]; rfl⟩
include hM
theorem wd_pos : 0 < M * pw e := Nat.mul_pos hM (pw_pos e)
theorem wd_ne0 : (fcmp .f64 (wd M e) 0 == some .eq) = false := by
 have := wd_pos h1 h2 h3 hM
 rw [cmp_eq (wd_v h1 h2 h3) v0, decide_eq_false (Nat.ne_of_gt this)]
theorem wd_nl : (fcmp .f64 (wd M e) 0 == some .lt) = false := by
 rw [cmp_lt (wd_v h1 h2 h3) v0, decide_eq_false (Nat.not_lt_zero _)]
theorem wd_gt : (fcmp .f64 (wd M e) 0 == some .gt) = true := by
 have := wd_pos h1 h2 h3 hM
 rw [cmp_gt (wd_v h1 h2 h3) v0, decide_eq_true this]
theorem neg_cmp : fcmp .f64 (9223372036854775808 + wd M e) 0 = some .lt := by
 have hp := wd_pos h1 h2 h3 hM
 have ho := order_v (wd_neg h1 h2 h3) v0
 rw [signed_t, signed_f, Nat.pow_zero, Nat.mul_one, Nat.zero_mul] at ho
 show D.order _ _ = _
 rw [ho]
 show (some (compareOfLessAndEq _ _)) = some _
 unfold compareOfLessAndEq
 generalize M * pw e = q at hp
 rw [if_pos (show (-((q : Nat) : Int)) < ((0 : Nat) : Int) by omega)]
theorem neg_neg' : fneg (9223372036854775808 + wd M e) = wd M e := by
 have hl := wd_lt h1 h2 h3
 unfold fneg
 have hn : isN (9223372036854775808 + wd M e) = false := by
  unfold isN
  generalize wd M e = q at hl
  simp; omega
 rw [hn, cond_false]
 exact xor_sign _ (by omega)
theorem fb_plus : spec_FloatBits.f (wd M e) = some ((wd M e : Nat) : Int) := by
 have hl := fb_loops 0 M e (wd M e) (by omega) h1 h2 h3
 have e0 : 0 * 9223372036854775808 + wd M e = wd M e := by rw [Nat.zero_mul, Nat.zero_add]
 have eS : ((0 * 9223372036854775808 : Nat) : Int) = 0 := by omega
 rw [e0, eS] at hl
 unfold spec_FloatBits.f
 rw [ifF (cmp_self (wd_v h1 h2 h3)), ifF (wd_nl h1 h2 h3 hM), ifF (wd_ne0 h1 h2 h3 hM), Option.bind_some, Option.bind_some, ifF rfl, Option.bind_some, ifF (wd_ne0 h1 h2 h3 hM), ifF (wd_max h1 h2 h3)]
 exact hl
theorem fb_minus : spec_FloatBits.f (9223372036854775808 + wd M e) = some ((9223372036854775808 + wd M e : Nat) : Int) := by
 have hl := fb_loops 1 M e (wd M e) (by omega) h1 h2 h3
 have eS : ((1 * 9223372036854775808 : Nat) : Int) = 9223372036854775808 := by omega
 rw [eS, Nat.one_mul] at hl
 have h4 : (fcmp .f64 (9223372036854775808 + wd M e) 0 == some .lt) = true := by rw [neg_cmp h1 h2 h3 hM]; rfl
 unfold spec_FloatBits.f
 rw [ifF (cmp_self (wd_neg h1 h2 h3)), ifT h4, Option.bind_some, ifT rfl, Option.bind_some, neg_neg' h1 h2 h3 hM, ifF (wd_ne0 h1 h2 h3 hM), ifF (wd_max h1 h2 h3)]
 exact hl
end
theorem word_cases {x : Nat} (h : okF x) (P : Nat → Prop) (hnan : P nanB) (hi : P 9218868437227405312) (hni : P 18442240474082181120) (h0 : P 0) (hn0 : P 9223372036854775808)
    (hp : ∀ M e, M < 9007199254740992 → (e = 0 ∨ 4503599627370496 ≤ M) → e ≤ 2045 → 0 < M → P (wd M e)) (hm : ∀ M e, M < 9007199254740992 → (e = 0 ∨ 4503599627370496 ≤ M) → e ≤ 2045 → 0 < M → P (9223372036854775808 + wd M e)) : P x := by
  cases hn : isN x with
  | true => rw [nan_word h hn]; exact hnan
  | false =>
    have hx := h.2
    have hr : x % 9223372036854775808 ≤ 9218868437227405312 := by
      unfold isN at hn
      have := of_decide_eq_false hn
      omega
    by_cases hi' : x % 9223372036854775808 = 9218868437227405312
    · rcases (show x = 9218868437227405312 ∨ x = 18442240474082181120 by omega) with rfl | rfl
      · exact hi
      · exact hni
    · obtain ⟨s, M, e, hs, h1, h2, h3, rfl⟩ := fin_word hx (by omega)
      by_cases hM : M = 0
      · subst hM
        have he : e = 0 := by omega
        subst he
        rcases (show s = 0 ∨ s = 1 by omega) with rfl | rfl
        · exact h0
        · exact hn0
      · rcases (show s = 0 ∨ s = 1 by omega) with rfl | rfl
        · rw [Nat.zero_mul, Nat.zero_add]; exact hp M e h1 h2 h3 (by omega)
        · rw [Nat.one_mul]; exact hm M e h1 h2 h3 (by omega)
theorem spec_FloatBits (x : Nat) (h : okF x) : spec_FloatBits.f x = some (x : Int) :=
 word_cases h (fun x => spec_FloatBits.f x = some (x : Int)) fb_nan fb_inf fb_ninf fb_zero fb_nzero (fun M e h1 h2 h3 hM => fb_plus h1 h2 h3 hM) (fun M e h1 h2 h3 hM => fb_minus h1 h2 h3 hM)
end Go.Proofs.YtegicanjlefmdaaGreat
set_option linter.unusedVariables false
set_option linter.unusedSimpArgs false
set_option linter.unusedSectionVars false
namespace Go.Proofs.YtegicanjlefmdaaGreat
open Go V Ieee
theorem wd_rng {M e : Nat} (h1 : M < 9007199254740992) (h3 : e ≤ 2045) (hM : 0 < M) : 0 < wd M e ∧ wd M e < 9218868437227405312 := by rw [wd_eq]; omega
theorem cmp_facts (x : Nat) (h : okF x) : (fcmp .f64 x x != some .eq) = decide (x = 9221120237041090560) ∧ (fcmp .f64 x 0 == some .eq) = decide (x = 0 ∨ x = 9223372036854775808) ∧
    (x ≠ 9221120237041090560 → (fcmp .f64 x 0 == some .gt) = decide (0 < x ∧ x < 9223372036854775808)) ∧ isN x = decide (x = 9221120237041090560) := by
  refine word_cases h (fun x => (fcmp .f64 x x != some .eq) = decide (x = 9221120237041090560) ∧ (fcmp .f64 x 0 == some .eq) = decide (x = 0 ∨ x = 9223372036854775808) ∧
    (x ≠ 9221120237041090560 → (fcmp .f64 x 0 == some .gt) = decide (0 < x ∧ x < 9223372036854775808)) ∧ isN x = decide (x = 9221120237041090560)) ?_ ?_ ?_ ?_ ?_ (fun M e h1 h2 h3 hM => ?_) (fun M e h1 h2 h3 hM => ?_)
  · exact ⟨by decide, by decide, fun h => absurd rfl h, by decide⟩
  · exact ⟨by decide, by decide, fun _ => by decide, by decide⟩
  · exact ⟨by decide, by decide, fun _ => by decide, by decide⟩
  · exact ⟨by decide, by decide, fun _ => by decide, by decide⟩
  · exact ⟨by decide, by decide, fun _ => by decide, by decide⟩
  · obtain ⟨q0, q1⟩ := wd_rng h1 h3 hM
    have c1 := cmp_self (wd_v h1 h2 h3)
    have c2 := wd_ne0 h1 h2 h3 hM
    have c3 := wd_gt h1 h2 h3 hM
    rw [c1, c2, c3]
    generalize wd M e = q at q0 q1
    refine ⟨?_, ?_, fun _ => ?_, ?_⟩
    · rw [decide_eq_false (by omega)]
    · rw [decide_eq_false (by omega)]
    · rw [decide_eq_true (by omega)]
    · unfold isN
      rw [decide_eq_false (by omega), decide_eq_false (by omega)]
  · obtain ⟨q0, q1⟩ := wd_rng h1 h3 hM
    have c1 := cmp_self (wd_neg h1 h2 h3)
    have c2 := neg_cmp h1 h2 h3 hM
    rw [c1, c2]
    generalize wd M e = q at q0 q1
    refine ⟨?_, ?_, fun _ => ?_, ?_⟩
    · rw [decide_eq_false (by omega)]
    · rw [decide_eq_false (by omega)]; rfl
    · rw [decide_eq_false (by omega)]; rfl
    · unfold isN
      rw [decide_eq_false (by omega), decide_eq_false (by omega)]
def FRK (x : Nat) : Nat := if x = 9221120237041090560 then 18446744073709551615 else if x = 0 ∨ x = 9223372036854775808 then 9223372036854775808 else if 9223372036854775808 ≤ x then 18446744073709551615 ^^^ x else x ||| 9223372036854775808
theorem max_u64 : IntKind.max .u64 = ((18446744073709551615 : Nat) : Int) := by decide
theorem FRK_lt (x : Nat) (h : x < 18446744073709551616) : FRK x < 18446744073709551616 := by
 unfold FRK
 split
 · omega
 · split
   · omega
   · split
     · exact Nat.xor_lt_two_pow (n := 64) (by omega) h
     · exact Nat.or_lt_two_pow (n := 64) h (by omega)
theorem impl_FloatRank (x : Nat) (h : okF x) : impl_FloatRank.f x = some (FRK x : Int) := by
 obtain ⟨c1, c2, c3, c4⟩ := cmp_facts x h
 unfold impl_FloatRank.f FRK
 by_cases hx : x = 9221120237041090560
 · rw [ifT (by rw [c1]; exact decide_eq_true hx), if_pos hx]; rfl
 · rw [ifF (by rw [c1]; exact decide_eq_false hx), if_neg hx]
   by_cases h0 : x = 0 ∨ x = 9223372036854775808
   · rw [ifT (by rw [c2]; exact decide_eq_true h0), if_pos h0]; rfl
   · rw [ifF (by rw [c2]; exact decide_eq_false h0), if_neg h0]
     have hn : isN x = false := by rw [c4]; exact decide_eq_false hx
     have hl := h.2
     by_cases hs : 9223372036854775808 ≤ x
     · rw [ifF (by rw [c3 hx]; exact decide_eq_false (by omega)), if_pos hn, if_pos hs, max_u64, ixor_u64 _ _ (by omega) hl]
     · rw [ifT (by rw [c3 hx]; exact decide_eq_true (by omega)), if_pos hn, if_neg hs]
       exact congrArg some (ior_u64 x 9223372036854775808 hl (by omega))
theorem ishr63 (n : Nat) : (ishr .u64 (n : Int) (63 : Int) == (1 : Int)) = decide (n / 9223372036854775808 = 1) := by
 have h2 : ishr .u64 (n : Int) (63 : Int) = ((n / 9223372036854775808 : Nat) : Int) := ishr_nat .u64 n 63 (by decide)
 rw [h2]
 generalize n / 9223372036854775808 = q
 by_cases hq : q = 1
 · rw [decide_eq_true hq, hq]; rfl
 · rw [decide_eq_false hq]; simp; omega
theorem spec_FloatRank (x : Nat) (h : okF x) : spec_FloatRank.f x = some (FRK x : Int) := by
 obtain ⟨c1, c2, c3, c4⟩ := cmp_facts x h
 unfold spec_FloatRank.f FRK
 rw [spec_FloatBits x h, Option.bind_some]
 have hl := h.2
 by_cases hx : x = 9221120237041090560
 · rw [ifT (by rw [hx]; rfl), if_pos hx]; rfl
 · rw [ifF (by simp; omega), if_neg hx]
   by_cases h0 : x = 0 ∨ x = 9223372036854775808
   · rw [ifT (by rw [c2]; exact decide_eq_true h0), if_pos h0]; rfl
   · rw [ifF (by rw [c2]; exact decide_eq_false h0), if_neg h0]
     by_cases hs : 9223372036854775808 ≤ x
     · rw [ifT (by rw [ishr63]; exact decide_eq_true (by omega)), if_pos hs, max_u64, ixor_u64 _ _ (by omega) hl]
     · rw [ifF (by rw [ishr63]; exact decide_eq_false (by omega)), if_neg hs]
       exact congrArg some (ior_u64 x 9223372036854775808 hl (by omega))
end Go.Proofs.YtegicanjlefmdaaGreat
set_option linter.unusedVariables false
set_option linter.unusedSimpArgs false
set_option linter.unusedSectionVars false
namespace Go.Proofs.YtegicanjlefmdaaGreat
open Go V Ieee
theorem near_v (n : Nat) (h : n < 9007199254740992) : IsV (FloatKind.f64.nearest (n : Int)) false (n * pw 1074) := by
 have hr := rep_of h 1074 (by omega)
 have := write_rep false n 0 (n * pw 1074) hr (by
  rw [show ((0 : Int) + 1074).toNat = 1074 by omega, show (-((0 : Int) + 1074)).toNat = 0 by omega, Nat.pow_zero, Nat.mul_one, pw])
 have e : FloatKind.f64.nearest (n : Int) = D.write (.number false n 0) := by
  show D.write (.number (decide ((n : Int) < 0)) (n : Int).natAbs 0) = _
  rw [decide_eq_false (by omega), Int.natAbs_natCast]
 rwa [e]
end Go.Proofs.YtegicanjlefmdaaGreat
set_option linter.unusedVariables false
set_option linter.unusedSimpArgs false
set_option linter.unusedSectionVars false
namespace Go.Proofs.YtegicanjlefmdaaGreat
open Go V Ieee
theorem impl_FloatBits (x : Nat) (h : okF x) : impl_FloatBits.f x = some (x : Int) := by
 obtain ⟨c1, _, _, c4⟩ := cmp_facts x h
 unfold impl_FloatBits.f
 by_cases hx : x = 9221120237041090560
 · rw [ifT (by rw [c1]; exact decide_eq_true hx), hx]; rfl
 · rw [ifF (by rw [c1]; exact decide_eq_false hx), if_pos (by rw [c4]; exact decide_eq_false hx)]
theorem far_quob {a u : Nat} (h : IsV a false (u * pw 52)) (hu : Rep u) : IsV (far .quo a 4841369599423283200) false u := by
 obtain ⟨w', hw, hv⟩ := div_pow (j := 52) c_big h hu
 have : far .quo a 4841369599423283200 = w' := by show (D.div a _).getD _ = _; rw [hw]; rfl
 rwa [this]
theorem far_add1 {a v : Nat} (h : IsV a false v) (hv : Rep (U1 + v)) : IsV (far .add a 4607182418800017408) false (U1 + v) := by
 obtain ⟨w', hw, hv⟩ := add_one h hv
 have : far .add a 4607182418800017408 = w' := by show (D.add a _).getD _ = _; rw [hw]; rfl
 rwa [this]
theorem fo_dn (M : Nat) (hM : M < 9007199254740992) : ∀ (n c a : Nat), c + n ≤ 2045 → IsV a false (M * pw (c + n)) → ∃ a', iter spec_FloatOf.b1 (a, -(n : Int)) = some (Sum.inl a') ∧ IsV a' false (M * pw c) := by
 intro n
 induction n with
 | zero =>
  intro c a hc hv
  refine ⟨a, iter_r ?_, hv⟩
  unfold spec_FloatOf.b1
  rw [if_neg (by simp)]; rfl
 | succ n ih =>
  intro c a hc hv
  have hv2 : IsV a false (M * pw (c + n) * 2) := by rw [Nat.mul_assoc, ← pw_succ]; exact hv
  obtain ⟨a', ha, hav⟩ := ih c _ (by omega) (far_half hv2 (rep_of hM _ (by omega)))
  refine ⟨a', ?_, hav⟩
  have hstep : spec_FloatOf.b1 (a, -((n + 1 : Nat) : Int)) = some (.inl (far .quo a 4611686018427387904, -(n : Int))) := by
   unfold spec_FloatOf.b1
   rw [if_pos (decide_eq_true (by show -((n + 1 : Nat) : Int) < 0; omega)), w64 (by omega) (by omega), show -((n + 1 : Nat) : Int) + 1 = -(n : Int) by omega]
  rw [iter_l hstep, ha]
theorem fo_0 (a : Nat) (k : Int) (h : k ≤ 0) : iter spec_FloatOf.b0 (a, k) = iter spec_FloatOf.b1 (a, k) := by
 refine iter_pass ?_
 unfold spec_FloatOf.b0
 rw [if_neg (by simp; omega)]
theorem fo_up (M : Nat) (hM : M < 9007199254740992) : ∀ (n e a : Nat), e + n ≤ 2045 → IsV a false (M * pw e) → ∃ a', iter spec_FloatOf.b0 (a, (n : Int)) = some (Sum.inl a') ∧ IsV a' false (M * pw (e + n)) := by
 intro n
 induction n with
 | zero =>
  intro e a he hv
  rw [fo_0 _ _ (by omega)]
  exact fo_dn M hM 0 e a (by omega) hv
 | succ n ih =>
  intro e a he hv
  have hd := far_dbl hv (by rw [Nat.mul_assoc, ← pw_succ]; exact rep_of hM _ (by omega))
  rw [Nat.mul_assoc, ← pw_succ] at hd
  obtain ⟨a', ha, hav⟩ := ih (e + 1) _ (by omega) hd
  refine ⟨a', ?_, by rw [show e + (n + 1) = e + 1 + n by omega]; exact hav⟩
  have hstep : spec_FloatOf.b0 (a, ((n + 1 : Nat) : Int)) = some (.inl (far .mul a 4611686018427387904, (n : Int))) := by
   unfold spec_FloatOf.b0
   rw [if_pos (decide_eq_true (by show ((n + 1 : Nat) : Int) > 0; omega)), w64 (by omega) (by omega), show ((n + 1 : Nat) : Int) - 1 = (n : Int) by omega]
  rw [iter_l hstep, ha]
theorem efield (n : Nat) (h : n < 18446744073709551616) : IntKind.wrap .i64 (iand .u64 (ishr .u64 (n : Int) (52 : Int)) (2047 : Int)) = ((n / 4503599627370496 % 2048 : Nat) : Int) := by
 have h1 : ishr .u64 (n : Int) (52 : Int) = ((n / 4503599627370496 : Nat) : Int) := ishr_nat .u64 n 52 (by decide)
 have h2 : iand .u64 ((n / 4503599627370496 : Nat) : Int) (2047 : Int) = (((n / 4503599627370496) &&& 2047 : Nat) : Int) := iand_u64 _ 2047 (by omega) (by omega)
 have h3 : (n / 4503599627370496) &&& 2047 = n / 4503599627370496 % 2048 := Nat.and_two_pow_sub_one_eq_mod _ 11
 rw [h1, h2, h3, w64 (by omega) (by omega)]
theorem ffield (n : Nat) (h : n < 18446744073709551616) : iand .u64 (n : Int) (4503599627370495 : Int) = ((n % 4503599627370496 : Nat) : Int) := by
 have h2 : iand .u64 (n : Int) (4503599627370495 : Int) = ((n &&& 4503599627370495 : Nat) : Int) := iand_u64 _ 4503599627370495 h (by omega)
 have h3 : n &&& 4503599627370495 = n % 4503599627370496 := Nat.and_two_pow_sub_one_eq_mod _ 52
 rw [h2, h3]
theorem fneg_wd (r : Nat) (h : r ≤ 9218868437227405312) : fneg r = 9223372036854775808 + r := by
 have hn : isN r = false := by unfold isN; rw [decide_eq_false (by omega)]
 unfold fneg
 rw [hn, cond_false]
 show r ^^^ 2 ^ 63 = _
 have := xor_sign r (by omega)
 have h2 : (9223372036854775808 + r) ^^^ 2 ^ 63 = r := this
 have h3 : ((9223372036854775808 + r) ^^^ 2 ^ 63) ^^^ 2 ^ 63 = r ^^^ 2 ^ 63 := by rw [h2]
 rw [Nat.xor_assoc, Nat.xor_self, Nat.xor_zero] at h3
 exact h3.symm
theorem fo_sign (n r : Nat) (hn : n = n / 9223372036854775808 * 9223372036854775808 + r) (h2 : n / 9223372036854775808 ≤ 1) (h : r ≤ 9218868437227405312) :
    (if ((ishr .u64 (n : Int) (63 : Int)) == (1 : Int)) = true then (some (fneg r)) else (some r)) = some (cn n) := by
  have hc : cn n = n := by
    refine cn_of ?_
    unfold isN
    rw [decide_eq_false (by omega)]
  rw [hc]
  by_cases h1 : n / 9223372036854775808 = 1
  · rw [ifT (by rw [ishr63]; exact decide_eq_true h1), fneg_wd r h, show 9223372036854775808 + r = n by omega]
  · rw [ifF (by rw [ishr63]; exact decide_eq_false h1), show r = n by omega]
theorem spec_FloatOf (n : Nat) (h : n < 18446744073709551616) : spec_FloatOf.f (n : Int) = some (cn n) := by
 unfold spec_FloatOf.f
 rw [efield n h, ffield n h]
 have hE : n / 4503599627370496 % 2048 < 2048 := Nat.mod_lt _ (by decide)
 have hF : n % 4503599627370496 < 4503599627370496 := Nat.mod_lt _ (by decide)
 have hn : n = n / 9223372036854775808 * 9223372036854775808 + (n / 4503599627370496 % 2048 * 4503599627370496 + n % 4503599627370496) := by omega
 have h2 : n / 9223372036854775808 ≤ 1 := by omega
 have hfs := fo_sign n
 generalize hEe : n / 4503599627370496 % 2048 = E at *
 generalize hFf : n % 4503599627370496 = f at *
 by_cases hinf : E = 2047
 · rw [ifT (by simp; omega)]
   by_cases hf : f = 0
   · rw [ifF (by simp; omega)]
     have e : far .quo 4607182418800017408 0 = 9218868437227405312 := by decide
     have hA := hfs 9218868437227405312 (by omega) h2 (by omega)
     rw [Option.bind_some, sel_inl, e]
     exact hA
   · rw [ifT (by simp; omega)]
     have e : far .quo 0 0 = 9221120237041090560 := by decide
     rw [Option.bind_some, sel_inr, e]
     rw [cn_nan (by unfold isN; rw [decide_eq_true (by omega)])]
     rfl
 · rw [ifF (by simp; omega)]
   have hq : IsV (far .quo (FloatKind.f64.nearest (f : Int)) 4841369599423283200) false (f * pw 1022) := by
    refine far_quob ?_ (rep_of (by omega) _ (by omega))
    rw [Nat.mul_assoc, ← pw_add]
    exact near_v f (by omega)
   by_cases h0 : E = 0
   · have hA := hfs f (by omega) h2 (by omega)
     have hB : 0 * 4503599627370496 + f = f := by omega
     rw [ifT (by simp; omega), Option.bind_some, fo_0 _ _ (by show (-1022 : Int) ≤ 0; decide)]
     obtain ⟨a', ha, hav⟩ := fo_dn f (by omega) 1022 0 _ (by omega) hq
     have hk : (-1022 : Int) = -((1022 : Nat) : Int) := by decide
     rw [hk, ha, Option.bind_some, sel_inl]
     have := hav.eq (wd_v (e := 0) (by omega) (.inl rfl) (by omega))
     rw [this, wd_eq, hB]
     exact hA
   · have hA := hfs (E * 4503599627370496 + f) (by omega) h2 (by omega)
     have hB : (E - 1) * 4503599627370496 + (4503599627370496 + f) = E * 4503599627370496 + f := by omega
     rw [ifF (by simp; omega), Option.bind_some, w64 (by omega) (by omega)]
     have hsum : U1 + f * pw 1022 = (4503599627370496 + f) * pw 1022 := by rw [U1_eq, Nat.add_mul]
     have hM : 4503599627370496 + f < 9007199254740992 := by omega
     have ha1 := far_add1 hq (by rw [hsum]; exact rep_of hM _ (by omega))
     rw [hsum] at ha1
     have key : ∃ a', iter spec_FloatOf.b0 (far .add (far .quo (FloatKind.f64.nearest (f : Int)) 4841369599423283200) 4607182418800017408, (E : Int) - 1023) = some (Sum.inl a') ∧ IsV a' false ((4503599627370496 + f) * pw (E - 1)) := by
      by_cases hk : 1023 ≤ E
      · obtain ⟨a', ha, hav⟩ := fo_up _ hM (E - 1023) 1022 _ (by omega) ha1
        refine ⟨a', ?_, by rw [show E - 1 = 1022 + (E - 1023) by omega]; exact hav⟩
        rw [show (E : Int) - 1023 = ((E - 1023 : Nat) : Int) by omega]; exact ha
      · obtain ⟨a', ha, hav⟩ := fo_dn _ hM (1023 - E) (E - 1) _ (by omega) (by rw [show E - 1 + (1023 - E) = 1022 by omega]; exact ha1)
        refine ⟨a', ?_, hav⟩
        rw [fo_0 _ _ (by omega), show (E : Int) - 1023 = -((1023 - E : Nat) : Int) by omega]; exact ha
     obtain ⟨a', ha, hav⟩ := key
     rw [ha, Option.bind_some, sel_inl]
     have := hav.eq (wd_v hM (.inr (by omega)) (by omega))
     rw [this, wd_eq, hB]
     exact hA
theorem impl_FloatOf (n : Nat) : impl_FloatOf.f (n : Int) = some (cn n) := rfl
end Go.Proofs.YtegicanjlefmdaaGreat
set_option linter.unusedVariables false
set_option linter.unusedSimpArgs false
set_option linter.unusedSectionVars false
namespace Go.Proofs.YtegicanjlefmdaaGreat
open Go V Ieee
theorem in_rin (a b c : Int) : spec_l5in.f a b c = some (rin a b c) := rfl
theorem within_rin (a b c : Int) : impl_within.f a b c = some (rin a b c) := rfl
def IOK (a : Item) : Bool := ((rin a.Kind 0 3 && ((a.N == (0 : Int)) || (a.Kind == (1 : Int)))) && (((a.F : Int) == 0) || (a.Kind == (2 : Int)))) && (((a.T.length : Int) == (0 : Int)) || ((a.Kind == (3 : Int)) && (decide ((a.T.length : Int) ≤ (40 : Int)))))
theorem impl_ItemOk (a : Item) : impl_ItemOk.f a = some (IOK a) := by
 unfold impl_ItemOk.f
 rw [within_rin, Option.bind_some]; rfl
theorem iok_iff (a : Item) : IOK a = true ↔ ((0 ≤ a.Kind ∧ a.Kind ≤ 3) ∧ (a.N = 0 ∨ a.Kind = 1)) ∧ (a.F = 0 ∨ a.Kind = 2) ∧ (a.T.length = 0 ∨ a.Kind = 3 ∧ a.T.length ≤ 40) := by
 simp only [IOK, rin, Bool.and_eq_true, Bool.or_eq_true, decide_eq_true_eq, beq_iff_eq]
 constructor
 · rintro ⟨⟨⟨h1, h2⟩, h3⟩, h4⟩; exact ⟨⟨h1, h2⟩, by omega, by omega⟩
 · rintro ⟨⟨h1, h2⟩, h3, h4⟩; exact ⟨⟨⟨h1, h2⟩, by omega⟩, by omega⟩
theorem spec_ItemOk (a : Item) (h : okF a.F) : spec_ItemOk.f a = some (IOK a) := by
  unfold spec_ItemOk.f
  rw [spec_FloatBits a.F h]
  obtain ⟨k, n, f, t⟩ := a
  have hi := iok_iff ⟨k, n, f, t⟩
  simp only at hi ⊢
  generalize t.length = l at hi ⊢
  by_cases c1 : (((decide (k < (0 : Int))) || (decide (k > (3 : Int)))) || (decide ((l : Int) > (40 : Int)))) = true
  · rw [if_pos c1]
    have : IOK ⟨k, n, f, t⟩ = false := by
      cases hh : IOK ⟨k, n, f, t⟩ with
      | false => rfl
      | true =>
        have := hi.1 hh
        simp only [Bool.or_eq_true, decide_eq_true_eq] at c1
        omega
    rw [this]
  · rw [if_neg c1]
    simp only [Bool.or_eq_true, decide_eq_true_eq, not_or] at c1
    by_cases c2 : ((k != (1 : Int)) && (n != (0 : Int))) = true
    · rw [if_pos c2]
      have : IOK ⟨k, n, f, t⟩ = false := by
        cases hh : IOK ⟨k, n, f, t⟩ with
        | false => rfl
        | true =>
          have := hi.1 hh
          simp only [Bool.and_eq_true, bne_iff_ne, ne_eq] at c2
          omega
      rw [this]
    · rw [if_neg c2]
      simp only [Bool.and_eq_true, bne_iff_ne, ne_eq, not_and, Decidable.not_not] at c2
      by_cases c3 : k = 2
      · rw [if_neg (by simp [c3])]
        simp only [Option.bind_some, Bool.false_eq_true, if_false]
        congr 1
        have e : ((k == (3 : Int)) || ((l : Int) == (0 : Int))) = decide (k = 3 ∨ l = 0) := by
          by_cases q : k = 3 <;> by_cases q2 : l = 0 <;> simp [q, q2]
        rw [e]
        cases hh : IOK ⟨k, n, f, t⟩ with
        | true => exact decide_eq_true (by have := hi.1 hh; omega)
        | false => exact decide_eq_false (fun hc => by
            have : IOK ⟨k, n, f, t⟩ = true := hi.2 (by omega)
            rw [hh] at this; cases this)
      · rw [if_pos (by simp [c3])]
        simp only [Option.bind_some]
        by_cases c4 : f = 0
        · rw [if_neg (by simp [c4])]
          congr 1
          have e : ((k == (3 : Int)) || ((l : Int) == (0 : Int))) = decide (k = 3 ∨ l = 0) := by
            by_cases q : k = 3 <;> by_cases q2 : l = 0 <;> simp [q, q2]
          rw [e]
          cases hh : IOK ⟨k, n, f, t⟩ with
          | true => exact decide_eq_true (by have := hi.1 hh; omega)
          | false => exact decide_eq_false (fun hc => by
              have : IOK ⟨k, n, f, t⟩ = true := hi.2 (by omega)
              rw [hh] at this; cases this)
        · rw [if_pos (by simp; exact c4)]
          have : IOK ⟨k, n, f, t⟩ = false := by
            cases hh : IOK ⟨k, n, f, t⟩ with
            | false => rfl
            | true =>
              have := hi.1 hh
              omega
          rw [this]
def KOK (a : Item) : Bool := (IOK a && (a.Kind != (0 : Int))) && decide (a.F ≠ 9223372036854775808)
theorem impl_KeyOk (a : Item) (h : okF a.F) : impl_KeyOk.f a = some (KOK a) := by
 unfold impl_KeyOk.f KOK
 rw [impl_ItemOk, Option.bind_some]
 obtain ⟨_, c2, _, _⟩ := cmp_facts a.F h
 have e : ((fcmp .f64 a.F 0 != some .eq) || ((a.F : Int) == 0)) = decide (a.F ≠ 9223372036854775808) := by
  have hb : (fcmp .f64 a.F 0 != some .eq) = !(fcmp .f64 a.F 0 == some .eq) := rfl
  rw [hb, c2]
  generalize a.F = q
  by_cases h0 : q = 0
  · subst h0; rfl
  · by_cases h1 : q = 9223372036854775808
    · subst h1; rfl
    · rw [decide_eq_false (by omega), decide_eq_true h1]; rfl
 rw [e]
theorem spec_KeyOk (a : Item) (h : okF a.F) : spec_KeyOk.f a = some (KOK a) := by
 unfold spec_KeyOk.f KOK
 rw [spec_ItemOk a h, Option.bind_some]
 obtain ⟨_, c2, _, _⟩ := cmp_facts a.F h
 cases hc : (IOK a && (a.Kind != (0 : Int))) with
 | false => rfl
 | true =>
  rw [if_pos rfl, c2, spec_FloatBits a.F h]
  generalize a.F = q
  by_cases h0 : q = 0
  · subst h0; rfl
  · by_cases h1 : q = 9223372036854775808
    · subst h1; rfl
    · rw [decide_eq_false (by omega), decide_eq_true h1]; rfl
theorem iok_T {a : Item} (h : IOK a = true) : a.T.length ≤ 40 := by have := (iok_iff a).1 h; omega
theorem kok_iok {a : Item} (h : KOK a = true) : IOK a = true := by
 simp only [KOK, Bool.and_eq_true] at h; exact h.1.1
end Go.Proofs.YtegicanjlefmdaaGreat
set_option linter.unusedVariables false
set_option linter.unusedSimpArgs false
namespace Go.Proofs.YtegicanjlefmdaaGreat
open Go V
def le (n k : Nat) : List Int := (List.range k).map fun j : Nat => ((n / 256 ^ j % 256 : Nat) : Int)
theorem le_succ (n k : Nat) : le n (k + 1) = le n k ++ [((n / 256 ^ k % 256 : Nat) : Int)] := by simp [le, List.range_succ]
theorem le_len (n k : Nat) : (le n k).length = k := by simp [le]
def PN (n k : Int) : List Int := if 1 ≤ k ∧ k ≤ 8 ∧ 0 ≤ n ∧ n.toNat / 256 ^ k.toNat = 0 then le n.toNat k.toNat else []
theorem div_step (n k : Nat) : n / 256 ^ k / 256 = n / 256 ^ (k + 1) := by rw [Nat.div_div_eq_div_mul, Nat.pow_succ]
theorem div_le (n k : Nat) : n / 256 ^ k ≤ n := Nat.div_le_self _ _
theorem div_i64 (n j : Nat) (h : (n : Int) ≤ 9223372036854775807) : -9223372036854775808 ≤ ((n / 256 ^ j : Nat) : Int) ∧ ((n / 256 ^ j : Nat) : Int) ≤ 9223372036854775807 := by
 have := div_le n j
 generalize n / 256 ^ j = q at *
 omega
theorem pos_nat (q : Nat) : decide ((q : Int) > 0) = !(decide (q = 0)) := by
 by_cases h : q = 0
 · simp [h]
 · have : (q : Int) > 0 := by omega
   simp only [this, h, decide_true, decide_false, Bool.not_false]
theorem ne_nat (q : Nat) : ((q : Int) != 0) = !(decide (q = 0)) := by
 by_cases h : q = 0
 · simp [h]
 · have : (q : Int) ≠ 0 := by omega
   simp [h, this]
theorem spec_PutNum (n k : Int) (hn : InK .i64 n) : spec_PutNum.f n k = some (PN n k) := by
 have hn' := i64_of hn
 unfold spec_PutNum.f PN
 by_cases hg : 1 ≤ k ∧ k ≤ 8 ∧ 0 ≤ n
 · obtain ⟨h1, h2, h3⟩ := hg
   rw [if_neg (by simp; omega)]
   obtain ⟨n, rfl⟩ := Int.eq_ofNat_of_zero_le h3
   obtain ⟨k, rfl⟩ := Int.eq_ofNat_of_zero_le (show 0 ≤ k by omega)
   simp only [Int.toNat_natCast]
   have hst : ((n : Int), ([] : List Int), (0 : Int)) = (((n / 256 ^ 0 : Nat) : Int), le n 0, ((0 : Nat) : Int)) := by simp [le]
   rw [hst]
   refine iter_for k (fun j => (((n / 256 ^ j : Nat) : Int), le n j, (j : Int))) _ (fun j hj => ?_) ?_
   · unfold spec_PutNum.b0
     have hd := div_le n j
     simp only []
     rw [if_pos (by simp; omega), if_pos (by rw [le_len]; simp [Lim]; omega)]
     have e1 : Int.tmod ((n / 256 ^ j : Nat) : Int) 256 = ((n / 256 ^ j % 256 : Nat) : Int) := rfl
     have e2 : Int.tdiv ((n / 256 ^ j : Nat) : Int) 256 = ((n / 256 ^ (j + 1) : Nat) : Int) := by rw [← div_step]; rfl
     have e3 : IntKind.wrap .u8 ((n / 256 ^ j % 256 : Nat) : Int) = ((n / 256 ^ j % 256 : Nat) : Int) := by rw [IntKind.wrap_u8]; omega
     have hd2 := div_le n (j + 1)
     have hb := div_i64 n (j + 1) (by omega)
     rw [e1, e2, e3, w64 hb.1 hb.2, w64 (by omega) (by omega), le_succ]
     rfl
   · unfold spec_PutNum.b0
     simp only []
     rw [if_neg (by simp)]
     by_cases hz : n / 256 ^ k = 0
     · rw [pos_nat, if_neg (by simp [hz]), if_pos ⟨by omega, by omega, by omega, hz⟩]; rfl
     · rw [pos_nat, if_pos (by simp [hz]), if_neg (fun h => hz h.2.2.2)]; rfl
 · rw [if_pos (by simp; omega), if_neg (fun h => hg ⟨h.1, h.2.1, h.2.2.1⟩)]
theorem impl_PutNum (n k : Int) (hn : InK .i64 n) (hk : InK .i64 k) : impl_PutNum.f n k = some (PN n k) := by
 have hn' := i64_of hn
 have hk' := i64_of hk
 unfold impl_PutNum.f impl_within.f
 simp only [Option.bind_some]
 by_cases hg : 1 ≤ k ∧ k ≤ 8 ∧ 0 ≤ n
 · obtain ⟨h1, h2, h3⟩ := hg
   have hc : ((!(decide ((1 : Int) ≤ k) && decide (k ≤ 8))) || decide (n < 0)) = false := by simp; omega
   rw [hc, if_neg (by decide)]
   obtain ⟨n, rfl⟩ := Int.eq_ofNat_of_zero_le h3
   obtain ⟨k, rfl⟩ := Int.eq_ofNat_of_zero_le (show 0 ≤ k by omega)
   have hloop : iter (impl_PutNum.b0 (k : Int)) ((n : Int), ([] : List Int), (0 : Int)) = some (le n k) := by
    have hst : ((n : Int), ([] : List Int), (0 : Int)) = (((n / 256 ^ 0 : Nat) : Int), le n 0, ((0 : Nat) : Int)) := by simp [le]
    rw [hst]
    refine iter_for k (fun j => (((n / 256 ^ j : Nat) : Int), le n j, (j : Int))) _ (fun j hj => ?_) ?_
    · unfold impl_PutNum.b0
      simp only []
      rw [if_pos (by simp; omega), if_pos (by rw [le_len]; simp [Lim]; omega)]
      have e2 : ishr .i64 ((n / 256 ^ j : Nat) : Int) 8 = ((n / 256 ^ (j + 1) : Nat) : Int) := by
       rw [show (8 : Int) = ((8 : Nat) : Int) from rfl, ishr_nat _ _ _ (by decide), ← div_step]
      have e3 : IntKind.wrap .u8 ((n / 256 ^ j : Nat) : Int) = ((n / 256 ^ j % 256 : Nat) : Int) := by rw [IntKind.wrap_u8]; omega
      rw [e2, e3, w64 (by omega) (by omega), le_succ]
      rfl
    · unfold impl_PutNum.b0
      simp only []
      rw [if_neg (by simp)]; rfl
   have hm : IntKind.wrap .i64 (8 * (k : Int)) = ((8 * k : Nat) : Int) := by rw [w64 (by omega) (by omega)]; omega
   rw [hm, ishr_nat _ _ _ (by show 8 * k ≤ 64; omega)]
   have hp : 2 ^ (8 * k) = 256 ^ k := by rw [Nat.pow_mul]
   rw [hp, hloop]
   have hP : PN (n : Int) (k : Int) = if n / 256 ^ k = 0 then le n k else [] := by
    unfold PN
    simp only [Int.toNat_natCast]
    by_cases hz : n / 256 ^ k = 0
    · rw [if_pos ⟨by omega, by omega, by omega, hz⟩, if_pos hz]
    · rw [if_neg (fun h => hz h.2.2.2), if_neg hz]
   rw [hP, ne_nat]
   by_cases h8 : k < 8
   · rw [if_pos (by simpa using (show (k : Int) < 8 by omega)), if_pos (by omega)]
     by_cases hz : n / 256 ^ k = 0 <;> simp [hz]
   · obtain rfl : k = 8 := by omega
     have hz : n / 256 ^ 8 = 0 := Nat.div_eq_of_lt (by omega)
     rw [if_neg (by decide), if_pos hz]; rfl
 · have hc : ((!(decide ((1 : Int) ≤ k) && decide (k ≤ 8))) || decide (n < 0)) = true := by simp; omega
   rw [hc, if_pos rfl]
   unfold PN
   rw [if_neg (fun h => hg ⟨h.1, h.2.1, h.2.2.1⟩)]; rfl
theorem grow_nil (n : Int) (h0 : 0 ≤ n) (h1 : n ≤ 1000000000) : slices_Grow_byte_byte_nil.f n = some [] := by
 unfold slices_Grow_byte_byte_nil.f
 have e : IntKind.wrap .i64 (n - IntKind.wrap .i64 ((0 : Int) - (([] : List Int).length : Int))) = n := by
  rw [List.length_nil, w64 (n := (0 : Int) - ((0 : Nat) : Int)) (by omega) (by omega)]
  rw [w64 (by omega) (by omega)]; omega
 rw [e, if_neg (by simp; omega)]
 by_cases hp : n > 0
 · rw [if_pos (by simpa using hp), if_pos (by simp [Lim]; omega), if_pos (by simp; omega)]
   simp
 · rw [if_neg (by simpa using hp)]; rfl
theorem flat_le {α : Type} (xs : List (List α)) (k : Nat) : (xs.take k).flatten.length ≤ xs.flatten.length := by
 conv => rhs; rw [← List.take_append_drop k xs, List.flatten_append, List.length_append]
 omega
theorem flat_succ {α : Type} (xs : List (List α)) (k : Nat) (h : k < xs.length) : (xs.take (k + 1)).flatten = (xs.take k).flatten ++ xs[k] := by
 rw [List.take_succ_eq_append_getElem h, List.flatten_append]; simp
theorem concatB (xs : List (List Int)) (hl : xs.length ≤ 1000000) (ht : xs.flatten.length ≤ 1000000000) : slices_Concat_byte_byte.f xs = some xs.flatten := by
 unfold slices_Concat_byte_byte.f
 have hst : ((0 : Int), (0 : Int)) = ((((xs.take 0).flatten.length : Nat) : Int), ((0 : Nat) : Int)) := by simp
 rw [hst]
 refine iter_for xs.length (fun k => ((((xs.take k).flatten.length : Nat) : Int), (k : Int))) _ (fun k hk => ?_) ?_
 · unfold slices_Concat_byte_byte.b0
   have h1 := flat_le xs (k + 1)
   simp only []
   rw [if_pos (by simp; omega), if_pos ⟨by omega, by omega⟩, at_nat xs k hk]
   rw [flat_succ xs k hk, List.length_append] at h1 ⊢
   rw [w64 (by omega) (by omega), if_neg (by simp; omega), w64 (by omega) (by omega)]
   simp
 · unfold slices_Concat_byte_byte.b0
   simp only [List.take_length]
   rw [if_neg (by simp), grow_nil _ (by omega) (by omega)]
   simp only [Option.bind_some]
   have : iter (slices_Concat_byte_byte.b1 xs) (([] : List Int), (0 : Int)) = some xs.flatten := by
    have hst : (([] : List Int), (0 : Int)) = ((xs.take 0).flatten, ((0 : Nat) : Int)) := by simp
    rw [hst]
    refine iter_for xs.length (fun k => ((xs.take k).flatten, (k : Int))) _ (fun k hk => ?_) ?_
    · unfold slices_Concat_byte_byte.b1
      have h1 := flat_le xs (k + 1)
      simp only []
      rw [if_pos (by simp; omega), if_pos ⟨by omega, by omega⟩, at_nat xs k hk]
      rw [flat_succ xs k hk] at h1 ⊢
      rw [List.length_append] at h1
      rw [if_pos (by simp only [Lim]; omega), w64 (by omega) (by omega)]
      simp
    · unfold slices_Concat_byte_byte.b1
      simp only [List.take_length]
      rw [if_neg (by simp)]; rfl
   rw [this]; rfl
theorem pn_u8 (n k : Int) : ∀ x ∈ PN n k, InK .u8 x := by
 intro x hx
 unfold PN at hx
 split at hx
 · simp only [le, List.mem_map] at hx
   obtain ⟨j, _, rfl⟩ := hx
   have := Nat.mod_lt (n.toNat / 256 ^ j) (show 256 > 0 by omega)
   simp [InK, IntKind.min, IntKind.max, IntKind.signed, IntKind.bits]
   omega
 · cases hx
def val (l : List Int) : Nat := l.foldr (fun b acc => b.toNat + 256 * acc) 0
theorem val_cons (b : Int) (l : List Int) : val (b :: l) = b.toNat + 256 * val l := rfl
theorem val_lt (l : List Int) (h : ∀ x ∈ l, InK .u8 x) : val l < 256 ^ l.length := by
 induction l with
 | nil => simp [val]
 | cons b l ih =>
  have hb := u8_of (h b (by simp))
  have := ih fun x hx => h x (by simp [hx])
  rw [val_cons, List.length_cons, Nat.pow_succ]
  omega
theorem val_app (l : List Int) (b : Int) : val (l ++ [b]) = val l + 256 ^ l.length * b.toNat := by
 induction l with
 | nil => simp [val]
 | cons c l ih =>
  rw [List.cons_append, val_cons, val_cons, ih, List.length_cons, Nat.pow_succ, Nat.mul_add, Nat.add_assoc]
  congr 2
  rw [← Nat.mul_assoc, Nat.mul_comm 256]
theorem val_le (n k : Nat) : val (le n k) = n % 256 ^ k := by
 induction k with
 | zero => simp [le, val, Nat.mod_one]
 | succ k ih =>
  rw [le_succ, val_app, ih, le_len, Int.toNat_natCast, Nat.pow_succ, Nat.mod_mul]
def cut (x : List Int) (a k : Nat) : List Int := (x.drop a).take k
theorem cut_len (x : List Int) (a k : Nat) (h : a + k ≤ x.length) : (cut x a k).length = k := by simp [cut]; omega
theorem cut_u8 (x : List Int) (a k : Nat) (h : ∀ y ∈ x, InK .u8 y) : ∀ y ∈ cut x a k, InK .u8 y := fun y hy => h y (List.mem_of_mem_drop (List.mem_of_mem_take hy))
theorem cut_succ (x : List Int) (a k : Nat) (h : a < x.length) : cut x a (k + 1) = x[a] :: cut x (a + 1) k := by
 unfold cut
 rw [List.drop_eq_getElem_cons h, List.take_succ_cons]
def GN (x : List Int) (a k : Int) : Int × Bool :=
 if 1 ≤ k ∧ k ≤ 8 ∧ 0 ≤ a ∧ a + k ≤ (x.length : Int) then (if val (cut x a.toNat k.toNat) < 9223372036854775808 then (((val (cut x a.toNat k.toNat) : Nat) : Int), true) else (0, false)) else (0, false)
theorem pow_le8 (k : Nat) (h : k ≤ 8) : 256 ^ k ≤ 18446744073709551616 := by
 have := Nat.pow_le_pow_right (show 256 > 0 by omega) h
 simpa using this
theorem impl_GetNum (x : List Int) (a k : Int) (hx : ∀ y ∈ x, InK .u8 y) (hl : x.length ≤ 1000000000000) (ha : InK .i64 a) (hk : InK .i64 k) : impl_GetNum.f x a k = some (GN x a k) := by
 have ha' := i64_of ha
 have hk' := i64_of hk
 unfold impl_GetNum.f impl_hasBytes.f impl_within.f GN
 simp only [Option.bind_some]
 by_cases hg : 1 ≤ k ∧ k ≤ 8 ∧ 0 ≤ a ∧ a + k ≤ (x.length : Int)
 · rw [if_pos hg]
   obtain ⟨h1, h2, h3, h4⟩ := hg
   obtain ⟨a, rfl⟩ := Int.eq_ofNat_of_zero_le h3
   obtain ⟨k, rfl⟩ := Int.eq_ofNat_of_zero_le (show 0 ≤ k by omega)
   have hw : IntKind.wrap .i64 ((x.length : Int) - (a : Int)) = (x.length : Int) - (a : Int) := w64 (by omega) (by omega)
   have hc : (!(decide ((1 : Int) ≤ (k : Int)) && decide ((k : Int) ≤ 8))) = false := by simp; omega
   have hc2 : ((decide ((0 : Int) ≤ (a : Int)) && decide ((a : Int) ≤ (x.length : Int))) && decide ((k : Int) ≤ (x.length : Int) - (a : Int))) = true := by simp; omega
   simp only [hc, hw, Bool.false_eq_true, if_false, Option.bind_some]
   first
    | rw [hc2]
    | (simp only [hc2])
   simp only [Option.bind_some, Bool.not_true, Bool.false_eq_true, if_false, Int.toNat_natCast]
   have hst : ((0 : Int), IntKind.wrap .i64 ((k : Int) - 1)) = (((val (cut x (a + (k - 0)) 0) : Nat) : Int), (k : Int) - 1 - ((0 : Nat) : Int)) := by
    rw [w64 (by omega) (by omega)]; simp [cut, val]
   rw [hst]
   refine iter_for k (fun j => (((val (cut x (a + (k - j)) j) : Nat) : Int), (k : Int) - 1 - (j : Int))) _ (fun j hj => ?_) ?_
   · unfold impl_GetNum.b0
     have hi : a + (k - (j + 1)) < x.length := by omega
     have hb := u8n (hx x[a + (k - (j + 1))] (List.getElem_mem hi))
     have hv := val_lt _ (cut_u8 x (a + (k - j)) j hx)
     rw [cut_len x _ j (by omega)] at hv
     have hp := pow_le8 (j + 1) (by omega)
     rw [Nat.pow_succ] at hp
     simp only []
     have hi2 : (a : Int) + ((k : Int) - 1 - (j : Int)) = ((a + (k - (j + 1)) : Nat) : Int) := by omega
     rw [if_pos (by simp; omega), hi2, w64 (by omega) (by omega), if_pos ⟨by omega, by omega⟩, at_nat x _ hi]
     have hcs : cut x (a + (k - (j + 1))) (j + 1) = x[a + (k - (j + 1))] :: cut x (a + (k - j)) j := by
      rw [cut_succ x _ j hi]
      congr 2
      omega
     rw [hcs, val_cons]
     generalize val (cut x (a + (k - j)) j) = n at *
     generalize x[a + (k - (j + 1))] = b at *
     have e1 : ishl .u64 ((n : Nat) : Int) 8 = ((n * 256 : Nat) : Int) := by
      unfold ishl
      have : min (8 : Int).toNat IntKind.u64.bits = 8 := by decide
      rw [this, IntKind.wrap_u64]; omega
     have e2 : IntKind.wrap .u64 b = ((b.toNat : Nat) : Int) := by rw [IntKind.wrap_u64]; omega
     rw [e1, e2, ior_u64 _ _ (by omega) (by omega), or_add 8 _ _ hb.2, w64 (by omega) (by omega)]
     congr 3
     · omega
     · omega
   · unfold impl_GetNum.b0
     simp only [Nat.sub_self, Nat.add_zero]
     have hv := val_lt _ (cut_u8 x a k hx)
     rw [cut_len x _ k (by omega)] at hv
     have hp := pow_le8 k (by omega)
     generalize val (cut x a k) = n at *
     rw [if_neg (by simp; omega)]
     by_cases hn : n < 9223372036854775808
     · rw [if_neg (by simp; omega), if_pos hn, w64 (by omega) (by omega)]; rfl
     · rw [if_pos (by simp; omega), if_neg hn]; rfl
 · rw [if_neg hg]
   by_cases hk1 : 1 ≤ k ∧ k ≤ 8
   · have hc : (!(decide ((1 : Int) ≤ k) && decide (k ≤ 8))) = false := by simp; omega
     simp only [hc, Bool.false_eq_true, if_false, Option.bind_some]
     by_cases ha2 : 0 ≤ a ∧ a ≤ (x.length : Int)
     · have hw : IntKind.wrap .i64 ((x.length : Int) - a) = (x.length : Int) - a := w64 (by omega) (by omega)
       have hc2 : ((decide ((0 : Int) ≤ a) && decide (a ≤ (x.length : Int))) && decide (k ≤ (x.length : Int) - a)) = false := by simp; omega
       rw [hw]
       first
        | rw [hc2]
        | (simp only [hc2])
       rfl
     · have hc2 : (decide ((0 : Int) ≤ a) && decide (a ≤ (x.length : Int))) = false := by simp; omega
       first
        | rw [hc2]
        | (simp only [hc2])
       rfl
   · have hc : (!(decide ((1 : Int) ≤ k) && decide (k ≤ 8))) = true := by simp; omega
     simp only [hc, if_true, Option.bind_some]
theorem spec_GetNum (x : List Int) (a k : Int) (hx : ∀ y ∈ x, InK .u8 y) (hl : x.length ≤ 1000000000000) (ha : InK .i64 a) (hk : InK .i64 k) : spec_GetNum.f x a k = some (GN x a k) := by
  have ha' := i64_of ha
  have hk' := i64_of hk
  unfold spec_GetNum.f GN
  by_cases hg : 1 ≤ k ∧ k ≤ 8 ∧ 0 ≤ a ∧ a + k ≤ (x.length : Int)
  · rw [if_pos hg]
    obtain ⟨h1, h2, h3, h4⟩ := hg
    obtain ⟨a, rfl⟩ := Int.eq_ofNat_of_zero_le h3
    obtain ⟨k, rfl⟩ := Int.eq_ofNat_of_zero_le (show 0 ≤ k by omega)
    have hw : IntKind.wrap .i64 ((x.length : Int) - (a : Int)) = (x.length : Int) - (a : Int) := w64 (by omega) (by omega)
    rw [hw, if_neg (by simp; omega)]
    simp only [Int.toNat_natCast]
    have hst : ((0 : Int), IntKind.wrap .i64 ((k : Int) - 1)) = (((val (cut x (a + (k - 0)) 0) : Nat) : Int), (k : Int) - 1 - ((0 : Nat) : Int)) := by
      rw [w64 (by omega) (by omega)]; simp [cut, val]
    rw [hst]
    by_cases ht : ∃ h8 : k = 8, x[a + 7]'(by omega) > 127
    · obtain ⟨rfl, hbig⟩ := ht
      rw [iter_eq]
      have : val (cut x a 8) ≥ 9223372036854775808 := by
        have e : cut x a 8 = cut x a 7 ++ [x[a + 7]'(by omega)] := by
          unfold cut
          rw [List.take_succ_eq_append_getElem (by simp; omega)]
          simp
        rw [e, val_app, cut_len x a 7 (by omega)]
        have : 128 ≤ (x[a + 7]'(by omega)).toNat := by omega
        have := Nat.mul_le_mul_left (256 ^ 7) this
        omega
      rw [if_neg (by omega)]
      have hb : spec_GetNum.b0 x (a : Int) (((val (cut x (a + (8 - 0)) 0) : Nat) : Int), ((8 : Nat) : Int) - 1 - ((0 : Nat) : Int)) = some (.inr ((0 : Int), false)) := by
        unfold spec_GetNum.b0
        simp only []
        have hi2 : (a : Int) + (((8 : Nat) : Int) - 1 - ((0 : Nat) : Int)) = ((a + 7 : Nat) : Int) := by omega
        rw [if_pos (by simp), hi2, w64 (by omega) (by omega), if_pos ⟨by omega, by omega⟩, at_nat x _ (by omega), wrap_u8n _ (hx _ (List.getElem_mem _)), if_pos (by simp; omega)]
      rw [hb]; rfl
    · have hlow : ∀ h8 : k = 8, x[a + 7]'(by omega) ≤ 127 := fun h8 => by
        by_cases hq : x[a + 7]'(by omega) ≤ 127
        · exact hq
        · exact absurd ⟨h8, by omega⟩ ht
      have hsmall : ∀ j, j ≤ k → val (cut x (a + (k - j)) j) < 9223372036854775808 := by
        intro j hj
        have hv := val_lt _ (cut_u8 x (a + (k - j)) j hx)
        rw [cut_len x _ j (by omega)] at hv
        by_cases h7 : j ≤ 7
        · have := Nat.pow_le_pow_right (show 256 > 0 by omega) h7
          omega
        · have hk8 : k = 8 := by omega
          have hj8 : j = 8 := by omega
          subst hj8; subst hk8
          have hlow := hlow rfl
          have e : cut x (a + (8 - 8)) 8 = cut x a 7 ++ [x[a + 7]'(by omega)] := by
            unfold cut
            rw [List.take_succ_eq_append_getElem (by simp; omega)]
            simp
          have hv7 := val_lt _ (cut_u8 x a 7 hx)
          rw [cut_len x a 7 (by omega)] at hv7
          rw [e, val_app, cut_len x a 7 (by omega)]
          have : (x[a + 7]'(by omega)).toNat ≤ 127 := by omega
          have := Nat.mul_le_mul_left (256 ^ 7) this
          omega
      have hfin := hsmall k (Nat.le_refl _)
      rw [Nat.sub_self, Nat.add_zero] at hfin
      rw [if_pos hfin]
      refine iter_for k (fun j => (((val (cut x (a + (k - j)) j) : Nat) : Int), (k : Int) - 1 - (j : Int))) _ (fun j hj => ?_) ?_
      · unfold spec_GetNum.b0
        have hi : a + (k - (j + 1)) < x.length := by omega
        have hb := u8n (hx x[a + (k - (j + 1))] (List.getElem_mem hi))
        have hs1 := hsmall (j + 1) (by omega)
        simp only []
        have hi2 : (a : Int) + ((k : Int) - 1 - (j : Int)) = ((a + (k - (j + 1)) : Nat) : Int) := by omega
        have hno : ¬ ((((k : Int) - 1 - (j : Int)) == (7 : Int)) && decide (x[a + (k - (j + 1))] > 127)) = true := by
          intro h
          simp only [Bool.and_eq_true, beq_iff_eq, decide_eq_true_eq] at h
          have hk8 : k = 8 := by omega
          have hj0 : j = 0 := by omega
          subst hk8; subst hj0
          have := hlow rfl
          have h2 : x[a + 7]'(by omega) > 127 := h.2
          omega
        rw [if_pos (by simp; omega), hi2, w64 (n := ((a + (k - (j + 1)) : Nat) : Int)) (by omega) (by omega), if_pos ⟨by omega, by omega⟩, at_nat x _ hi, wrap_u8n _ (hx _ (List.getElem_mem hi)), if_neg hno]
        have hcs : cut x (a + (k - (j + 1))) (j + 1) = x[a + (k - (j + 1))] :: cut x (a + (k - j)) j := by
          rw [cut_succ x _ j hi]
          congr 2
          omega
        rw [hcs, val_cons] at hs1 ⊢
        generalize val (cut x (a + (k - j)) j) = n at *
        generalize x[a + (k - (j + 1))] = b at *
        rw [w64 (n := (n : Int) * 256) (by omega) (by omega), w64 (by omega) (by omega), w64 (by omega) (by omega)]
        congr 3
        · omega
        · omega
      · unfold spec_GetNum.b0
        simp only [Nat.sub_self, Nat.add_zero]
        rw [if_neg (by simp; omega)]; rfl
  · rw [if_neg hg]
    by_cases ha2 : 0 ≤ a ∧ a ≤ (x.length : Int)
    · have hw : IntKind.wrap .i64 ((x.length : Int) - a) = (x.length : Int) - a := w64 (by omega) (by omega)
      rw [hw, if_pos (by simp; omega)]
    · rw [if_pos (by simp; omega)]
theorem take_drop (x : List Int) (e a : Nat) : (x.take e).drop a = cut x a (e - a) := by
 unfold cut; rw [List.drop_take]
theorem gn_in (x : List Int) (a k : Nat) (hx : ∀ y ∈ x, InK .u8 y) (h1 : 1 ≤ k) (h2 : k ≤ 7) (h : a + k ≤ x.length) : GN x (a : Int) (k : Int) = (((val (cut x a k) : Nat) : Int), true) := by
 unfold GN
 rw [if_pos ⟨by omega, by omega, by omega, by omega⟩]
 simp only [Int.toNat_natCast]
 have hv := val_lt _ (cut_u8 x a k hx)
 rw [cut_len x _ k h] at hv
 have := Nat.pow_le_pow_right (show 256 > 0 by omega) h2
 rw [if_pos (by omega)]
theorem str_list (xs : List Int) : (str xs).toList = xs.map fun n => UInt8.ofNat n.toNat := by
 have key : ∀ (xs : List Int) (b : ByteArray), (xs.foldl (fun r n => r.push (UInt8.ofNat n.toNat)) b).data.toList = b.data.toList ++ xs.map fun n => UInt8.ofNat n.toNat := by
  intro xs
  induction xs with
  | nil => intro b; simp
  | cons x xs ih => intro b; rw [List.foldl_cons, ih]; simp [ByteArray.push]
 have := key xs ByteArray.empty
 rw [show (ByteArray.empty).data.toList = [] from rfl, List.nil_append] at this
 rw [← this]
 unfold str
 exact ByteArray.toList_eq _
theorem str_eq (a b : List Int) (ha : ∀ x ∈ a, InK .u8 x) (hb : ∀ x ∈ b, InK .u8 x) : ((str a).toList == (str b).toList) = decide (a = b) := by
  rw [str_list, str_list]
  by_cases h : a = b
  · subst h; simp
  · have hne : (a.map fun n => UInt8.ofNat n.toNat) ≠ (b.map fun n => UInt8.ofNat n.toNat) := by
      intro hm
      apply h
      have hlen : a.length = b.length := by simpa using congrArg List.length hm
      apply List.ext_getElem hlen
      intro i h1 h2
      have := congrArg (fun l => l[i]?) hm
      simp only [List.getElem?_map, List.getElem?_eq_getElem h1, List.getElem?_eq_getElem h2, Option.map_some, Option.some.injEq] at this
      have e1 := u8n (ha a[i] (List.getElem_mem h1))
      have e2 := u8n (hb b[i] (List.getElem_mem h2))
      have := congrArg UInt8.toNat this
      simp only [UInt8.toNat_ofNat'] at this
      omega
    simp only [h, decide_false]
    exact beq_eq_false_iff_ne.2 hne
theorem bytesEqual (a b : List Int) (ha : ∀ x ∈ a, InK .u8 x) (hb : ∀ x ∈ b, InK .u8 x) : bytes_Equal.f a b = some (decide (a = b)) := by
 unfold bytes_Equal.f
 rw [str_eq a b ha hb]
theorem cloneB (a : List Int) (h : a.length ≤ 1000000000) : slices_Clone_byte_byte.f a = some a := by
 unfold slices_Clone_byte_byte.f
 rw [if_pos (by simp [Lim]; omega)]; rfl
end Go.Proofs.YtegicanjlefmdaaGreat
set_option linter.unusedVariables false
set_option linter.unusedSimpArgs false
set_option linter.unusedSectionVars false
namespace Go.Proofs.YtegicanjlefmdaaGreat
open Go V Ieee
def highP (n k : Nat) : List Int := (List.range k).map fun j : Nat => ((n / 2 ^ (56 - 8 * j) % 256 : Nat) : Int)
def highB (n : Nat) : List Int := highP n 8
theorem highP_succ (n k : Nat) : highP n (k + 1) = highP n k ++ [((n / 2 ^ (56 - 8 * k) % 256 : Nat) : Int)] := by simp [highP, List.range_succ]
theorem highP_len (n k : Nat) : (highP n k).length = k := by simp [highP]
theorem highB_u8 (n : Nat) : ∀ x ∈ highB n, InK .u8 x := by
 intro x hx
 simp only [highB, highP, List.mem_map] at hx
 obtain ⟨j, _, rfl⟩ := hx
 have := Nat.mod_lt (n / 2 ^ (56 - 8 * j)) (show 256 > 0 by omega)
 exact u8_ok (by omega) (by omega)
theorem wrap8 (q : Nat) : IntKind.wrap .u8 ((q : Nat) : Int) = ((q % 256 : Nat) : Int) := by rw [IntKind.wrap_u8]; omega
theorem impl_highFirst (n : Nat) : impl_highFirst.f (n : Int) = some (highB n) := by
 unfold impl_highFirst.f
 have hst : (([] : List Int), (56 : Int)) = (highP n 0, (56 : Int) - 8 * ((0 : Nat) : Int)) := rfl
 rw [hst]
 refine iter_for 8 (fun k => (highP n k, (56 : Int) - 8 * (k : Int))) _ (fun k hk => ?_) ?_
 · unfold impl_highFirst.b0
   simp only []
   have e1 : (56 : Int) - 8 * (k : Int) = ((56 - 8 * k : Nat) : Int) := by omega
   rw [if_pos (by simp; omega), if_pos (by omega), if_pos (by rw [highP_len]; simp [Lim]; omega), e1, ishr_nat .u64 n _ (by show 56 - 8 * k ≤ 64; omega), wrap8, highP_succ, w64 (by omega) (by omega)]
   rw [show ((56 - 8 * k : Nat) : Int) - 8 = (56 : Int) - 8 * ((k + 1 : Nat) : Int) by omega]
 · unfold impl_highFirst.b0
   simp only []
   rw [if_neg (by simp)]; rfl
theorem spec_l3high (n : Nat) (h : n < 18446744073709551616) : spec_l3high.f (n : Int) = some (highB n) := by
 unfold spec_l3high.f
 have hst : (([] : List Int), (7 : Int)) = (highP n 0, (7 : Int) - ((0 : Nat) : Int)) := rfl
 rw [hst]
 refine iter_for 8 (fun k => (highP n k, (7 : Int) - (k : Int))) _ (fun k hk => ?_) ?_
 · unfold spec_l3high.b0
   simp only []
   have e1 : IntKind.wrap .u64 (IntKind.wrap .i64 ((8 : Int) * ((7 : Int) - (k : Int)))) = ((56 - 8 * k : Nat) : Int) := by
    rw [w64 (by omega) (by omega), show (8 : Int) * ((7 : Int) - (k : Int)) = ((56 - 8 * k : Nat) : Int) by omega, wu64 _ (by omega)]
   have h2 : iand .u64 ((n / 2 ^ (56 - 8 * k) : Nat) : Int) (255 : Int) = (((n / 2 ^ (56 - 8 * k)) &&& 255 : Nat) : Int) := iand_u64 _ 255 (Nat.lt_of_le_of_lt (Nat.div_le_self _ _) h) (by omega)
   have h3 : (n / 2 ^ (56 - 8 * k)) &&& 255 = n / 2 ^ (56 - 8 * k) % 256 := Nat.and_two_pow_sub_one_eq_mod _ 8
   rw [e1, if_pos (by simp; omega), if_pos (by omega), if_pos (by rw [highP_len]; simp [Lim]; omega), ishr_nat .u64 n _ (by show 56 - 8 * k ≤ 64; omega), h2, h3, wrap8, Nat.mod_mod, highP_succ, w64 (by omega) (by omega)]
   rw [show (7 : Int) - (k : Int) - 1 = (7 : Int) - ((k + 1 : Nat) : Int) by omega]
 · unfold spec_l3high.b0
   simp only []
   rw [if_neg (by simp)]; rfl
theorem sgn_bit (n : Int) (h : InK .i64 n) : ∃ q : Nat, q < 18446744073709551616 ∧ IntKind.wrap .u64 ((IntKind.wrap .u64 n) + (9223372036854775808 : Int)) = (q : Int) ∧ ixor .u64 (IntKind.wrap .u64 n) (9223372036854775808 : Int) = (q : Int) := by
 have hn := i64_of h
 obtain ⟨m, hm, hml⟩ : ∃ m : Nat, IntKind.wrap .u64 n = (m : Int) ∧ m < 18446744073709551616 := ⟨(IntKind.wrap .u64 n).toNat, by rw [IntKind.wrap_u64]; omega, by rw [IntKind.wrap_u64]; omega⟩
 rw [hm]
 have hx : ixor .u64 (m : Int) (9223372036854775808 : Int) = ((m ^^^ 9223372036854775808 : Nat) : Int) := ixor_u64 m 9223372036854775808 hml (by omega)
 by_cases hs : m < 9223372036854775808
 · refine ⟨m + 9223372036854775808, by omega, by rw [IntKind.wrap_u64]; omega, ?_⟩
   rw [hx]
   have := xor_sign m hs
   have h2 : (9223372036854775808 + m) ^^^ 2 ^ 63 = m := this
   have h3 : ((9223372036854775808 + m) ^^^ 2 ^ 63) ^^^ 2 ^ 63 = m ^^^ 2 ^ 63 := by rw [h2]
   rw [Nat.xor_assoc, Nat.xor_self, Nat.xor_zero] at h3
   have h4 : m ^^^ 9223372036854775808 = 9223372036854775808 + m := h3.symm
   rw [h4, Nat.add_comm]
 · obtain ⟨r, rfl⟩ : ∃ r, m = 9223372036854775808 + r := ⟨m - 9223372036854775808, by omega⟩
   refine ⟨r, by omega, by rw [IntKind.wrap_u64]; omega, ?_⟩
   rw [hx]
   have h2 : (9223372036854775808 + r) ^^^ 9223372036854775808 = r := xor_sign r (by omega)
   rw [h2]
noncomputable def IB (a : Item) (n : Nat) : List Int := if a.Kind = 1 then IntKind.wrap .u8 a.Kind :: highB (ixor .u64 (IntKind.wrap .u64 a.N) 9223372036854775808).toNat else if a.Kind = 2 then IntKind.wrap .u8 a.Kind :: highB n else IntKind.wrap .u8 a.Kind :: a.T
theorem highB_len (n : Nat) : (highB n).length = 8 := highP_len n 8
theorem impl_itemBytes (a : Item) (n : Nat) (h : InK .i64 a.N) (hT : a.T.length ≤ 1000000) : impl_itemBytes.f a (n : Int) = some (IB a n) := by
 obtain ⟨q, hq, e1, e2⟩ := sgn_bit a.N h
 unfold impl_itemBytes.f IB
 rw [e1, e2, impl_highFirst, impl_highFirst]
 by_cases h1 : a.Kind = 1
 · rw [if_pos (by simpa using h1), if_pos h1, Option.bind_some, if_pos (by rw [highB_len]; simp [Lim])]; rfl
 · rw [if_neg (by simpa using h1), if_neg h1]
   by_cases h2 : a.Kind = 2
   · rw [if_pos (by simpa using h2), if_pos h2, Option.bind_some, if_pos (by rw [highB_len]; simp [Lim])]; rfl
   · rw [if_neg (by simpa using h2), if_neg h2, if_pos (by simp [Lim]; omega)]; rfl
theorem spec_l3bytes (a : Item) (n : Nat) (hn : n < 18446744073709551616) (h : InK .i64 a.N) (hT : a.T.length ≤ 1000000) : spec_l3bytes.f a (n : Int) = some (IB a n) := by
 obtain ⟨q, hq, e1, e2⟩ := sgn_bit a.N h
 unfold spec_l3bytes.f IB
 rw [e2, spec_l3high _ hq, spec_l3high _ hn]
 by_cases h1 : a.Kind = 1
 · rw [if_pos (by simpa using h1), if_pos h1, Option.bind_some, if_pos (by rw [highB_len]; simp [Lim])]; rfl
 · rw [if_neg (by simpa using h1), if_neg h1]
   by_cases h2 : a.Kind = 2
   · rw [if_pos (by simpa using h2), if_pos h2, Option.bind_some, if_pos (by rw [highB_len]; simp [Lim])]; rfl
   · rw [if_neg (by simpa using h2), if_neg h2, if_pos (by simp [Lim]; omega)]; rfl
noncomputable def KB (a : Item) : List Int := if KOK a = true then IB a (FRK a.F) else []
noncomputable def VB (a : Item) : List Int := if IOK a = true ∧ a.Kind ≠ 0 then IB a a.F else []
theorem impl_KeyBytes (a : Item) (h : ok_Item a) : impl_KeyBytes.f a = some (KB a) := by
 unfold impl_KeyBytes.f KB
 rw [impl_KeyOk a h.2.2.1, Option.bind_some]
 cases hk : KOK a with
 | false => rfl
 | true =>
  have := iok_T (kok_iok hk)
  rw [if_neg (by decide), impl_FloatRank a.F h.2.2.1, Option.bind_some, impl_itemBytes a _ h.2.1 (by omega), if_pos rfl]; rfl
theorem spec_KeyBytes (a : Item) (h : ok_Item a) : spec_KeyBytes.f a = some (KB a) := by
 unfold spec_KeyBytes.f KB
 rw [spec_KeyOk a h.2.2.1, Option.bind_some]
 cases hk : KOK a with
 | false => rfl
 | true =>
  have := iok_T (kok_iok hk)
  rw [if_neg (by decide), spec_FloatRank a.F h.2.2.1, Option.bind_some, spec_l3bytes a _ (FRK_lt _ h.2.2.1.2) h.2.1 (by omega), if_pos rfl]; rfl
theorem impl_ValueBytes (a : Item) (h : ok_Item a) : impl_ValueBytes.f a = some (VB a) := by
  unfold impl_ValueBytes.f VB
  rw [impl_ItemOk a, Option.bind_some]
  by_cases hk : IOK a = true ∧ a.Kind ≠ 0
  · have := iok_T hk.1
    rw [if_neg (by simp [hk.1, hk.2]), impl_FloatBits a.F h.2.2.1, Option.bind_some, impl_itemBytes a _ h.2.1 (by omega), if_pos hk]; rfl
  · rw [if_pos (by
      cases hi : IOK a with
      | false => rfl
      | true => simp [hi] at hk ⊢; exact hk), if_neg hk]
theorem spec_ValueBytes (a : Item) (h : ok_Item a) : spec_ValueBytes.f a = some (VB a) := by
  unfold spec_ValueBytes.f VB
  rw [spec_ItemOk a h.2.2.1, Option.bind_some]
  by_cases hk : IOK a = true ∧ a.Kind ≠ 0
  · have := iok_T hk.1
    rw [if_neg (by simp [hk.1, hk.2]), spec_FloatBits a.F h.2.2.1, Option.bind_some, spec_l3bytes a _ h.2.2.1.2 h.2.1 (by omega), if_pos hk]; rfl
  · rw [if_pos (by
      cases hi : IOK a with
      | false => rfl
      | true => simp [hi] at hk ⊢; exact hk), if_neg hk]
theorem u8w (x : Int) : InK .u8 (IntKind.wrap .u8 x) := by rw [IntKind.wrap_u8]; exact u8_ok (by omega) (by omega)
theorem ib_u8 (a : Item) (n : Nat) (h : ok_Item a) : ∀ x ∈ IB a n, InK .u8 x := by
 intro x hx
 unfold IB at hx
 split at hx
 · rcases List.mem_cons.1 hx with rfl | hx
   · exact u8w _
   · exact highB_u8 _ x hx
 · split at hx
   · rcases List.mem_cons.1 hx with rfl | hx
     · exact u8w _
     · exact highB_u8 _ x hx
   · rcases List.mem_cons.1 hx with rfl | hx
     · exact u8w _
     · exact h.2.2.2.2 x hx
theorem kb_u8 (a : Item) (h : ok_Item a) : ∀ x ∈ KB a, InK .u8 x := by
 intro x hx; unfold KB at hx; split at hx
 · exact ib_u8 a _ h x hx
 · cases hx
theorem vb_u8 (a : Item) (h : ok_Item a) : ∀ x ∈ VB a, InK .u8 x := by
 intro x hx; unfold VB at hx; split at hx
 · exact ib_u8 a _ h x hx
 · cases hx
theorem ib_len (a : Item) (n : Nat) : (IB a n).length = if a.Kind = 1 ∨ a.Kind = 2 then 9 else a.T.length + 1 := by
 unfold IB
 by_cases h1 : a.Kind = 1
 · rw [if_pos h1, if_pos (.inl h1), List.length_cons, highB_len]
 · by_cases h2 : a.Kind = 2
   · rw [if_neg h1, if_pos h2, if_pos (.inr h2), List.length_cons, highB_len]
   · rw [if_neg h1, if_neg h2, if_neg (by omega), List.length_cons]
theorem kb_len (a : Item) : (KB a).length ≤ 41 := by
 unfold KB
 split
 · rename_i h; have := iok_T (kok_iok h); rw [ib_len]; split <;> omega
 · simp
theorem vb_len (a : Item) : (VB a).length ≤ 41 := by
 unfold VB
 split
 · rename_i h; have := iok_T h.1; rw [ib_len]; split <;> omega
 · simp
end Go.Proofs.YtegicanjlefmdaaGreat
set_option linter.unusedVariables false
set_option linter.unusedSimpArgs false
set_option linter.unusedSectionVars false
namespace Go.Proofs.YtegicanjlefmdaaGreat
open Go V Ieee
theorem i64w (x : Int) : InK .i64 (IntKind.wrap .i64 x) := by rw [IntKind.wrap_i64]; exact i64_ok (by omega) (by omega)
theorem okF_cn (n : Nat) (h : n < 18446744073709551616) : okF (cn n) := by
 refine ⟨cn_cn n, ?_⟩
 unfold cn
 cases isN n with
 | true => show nanB < _; decide
 | false => exact h
theorem okF_0 : okF 0 := ⟨by decide, by decide⟩
def lwS (n : Nat) (b : Int) : Nat := (n * 256 % 18446744073709551616) ||| b.toNat
def LW (l : List Int) : Nat := l.foldl lwS 0
theorem lw_lt (l : List Int) (h : ∀ x ∈ l, InK .u8 x) : LW l < 18446744073709551616 := by
 unfold LW
 have : ∀ (l : List Int) (n : Nat), (∀ x ∈ l, InK .u8 x) → n < 18446744073709551616 → l.foldl lwS n < 18446744073709551616 := by
  intro l
  induction l with
  | nil => intro n _ h; exact h
  | cons x l ih =>
   intro n hx hn
   have := u8n (hx x (by simp))
   exact ih _ (fun y hy => hx y (by simp [hy])) (Nat.or_lt_two_pow (n := 64) (Nat.mod_lt _ (by decide)) (by omega))
 exact this l 0 h (by decide)
theorem lw_take (l : List Int) (k : Nat) (h : k < l.length) : LW (l.take (k + 1)) = lwS (LW (l.take k)) l[k] := by
 unfold LW
 rw [List.take_succ_eq_append_getElem h, List.foldl_append]; rfl
theorem lw_step (n : Nat) (b : Int) (hn : n < 18446744073709551616) (hb : InK .u8 b) : ior .u64 (ishl .u64 (n : Int) (8 : Int)) (IntKind.wrap .u64 b) = ((lwS n b : Nat) : Int) := by
 obtain ⟨e, hl⟩ := u8n hb
 have h1 : ishl .u64 (n : Int) (8 : Int) = ((n * 256 % 18446744073709551616 : Nat) : Int) := by
  unfold ishl
  show IntKind.wrap .u64 ((n : Int) * 2 ^ 8) = _
  rw [IntKind.wrap_u64, show (2 : Int) ^ 8 = 256 by decide]
  omega
 rw [h1, e, wu64 _ (by omega), ior_u64 _ _ (Nat.mod_lt _ (by decide)) (by omega), ← e]; rfl
theorem spec_l3low (l : List Int) (h : ∀ x ∈ l, InK .u8 x) (hl : l.length ≤ 1000000000) : spec_l3low.f l = some ((LW l : Nat) : Int) := by
 unfold spec_l3low.f
 have hst : ((0 : Int), (0 : Int)) = (((LW (l.take 0) : Nat) : Int), ((0 : Nat) : Int)) := rfl
 have he : LW l = LW (l.take l.length) := by rw [List.take_length]
 rw [hst, he]
 refine iter_for l.length (fun k => (((LW (l.take k) : Nat) : Int), (k : Int))) _ (fun k hk => ?_) ?_
 · unfold spec_l3low.b0
   simp only []
   rw [if_pos (by simp; omega), if_pos ⟨by omega, by omega⟩, at_nat l k hk, lw_step _ _ (lw_lt _ fun x hx => h x (List.mem_of_mem_take hx)) (h _ (List.getElem_mem hk)), w64 (by omega) (by omega), lw_take l k hk]
   rfl
 · unfold spec_l3low.b0
   simp only []
   rw [if_neg (by simp)]; rfl
theorem impl_fromHigh (l : List Int) (h : ∀ x ∈ l, InK .u8 x) (hl : l.length ≤ 1000000000) : impl_fromHigh.f l = some ((LW l : Nat) : Int) := by
 rw [← spec_l3low l h hl]; rfl
def UY (n : Nat) : Nat := if 9223372036854775808 ≤ n then n % 9223372036854775808 else 18446744073709551615 ^^^ n
def UR (n : Nat) : Nat × Bool := if n = 18446744073709551615 then (nanB, true) else if FRK (cn (UY n)) = n then (cn (UY n), true) else (0, false)
theorem uy_lt (n : Nat) (h : n < 18446744073709551616) : UY n < 18446744073709551616 := by
 unfold UY
 split
 · omega
 · exact Nat.xor_lt_two_pow (n := 64) (by omega) h
theorem ur_ok (n : Nat) (h : n < 18446744073709551616) : okF (UR n).1 := by
 unfold UR
 split
 · exact ⟨by decide, by decide⟩
 · split
   · exact okF_cn _ (uy_lt n h)
   · exact okF_0
theorem iandn63 (n : Nat) (h : n < 18446744073709551616) : iandn .u64 (n : Int) (9223372036854775808 : Int) = ((n % 9223372036854775808 : Nat) : Int) := by
 unfold iandn
 have e : (BitVec.ofInt IntKind.u64.bits (n : Int) &&& ~~~ BitVec.ofInt IntKind.u64.bits (9223372036854775808 : Int)).toNat = n &&& 9223372036854775807 := by
  rw [BitVec.toNat_and, BitVec.toNat_not, ofInt_nat IntKind.u64.bits n h]
  have : (BitVec.ofInt IntKind.u64.bits (9223372036854775808 : Int)).toNat = 9223372036854775808 := by decide
  rw [this]; rfl
 rw [e]
 have h3 : n &&& 9223372036854775807 = n % 9223372036854775808 := Nat.and_two_pow_sub_one_eq_mod _ 63
 rw [h3, wu64 _ (by omega)]
theorem beq_nat (a b : Nat) : ((a : Int) == (b : Int)) = decide (a = b) := by
 by_cases h : a = b
 · subst h; simp
 · rw [decide_eq_false h]; simp; omega
theorem bne_nat (a b : Nat) : ((a : Int) != (b : Int)) = !decide (a = b) := by rw [← beq_nat]; rfl
theorem spec_FloatUnrank (n : Nat) (h : n < 18446744073709551616) : spec_FloatUnrank.f (n : Int) = some (UR n) := by
  unfold spec_FloatUnrank.f UR
  by_cases h1 : n = 18446744073709551615
  · subst h1
    rw [ifT (by decide), if_pos rfl, Option.bind_some]
    have e1 : spec_FloatOf.f (9221120237041090560 : Int) = some nanB := by
      have := spec_FloatOf 9221120237041090560 (by decide)
      exact this
    rw [e1, Option.bind_some, spec_FloatRank nanB ⟨by decide, by decide⟩, Option.bind_some]
    rfl
  · have hb : ((n : Int) == (18446744073709551615 : Int)) = false := by
      have := beq_nat n 18446744073709551615
      rw [decide_eq_false h1] at this
      exact this
    rw [if_neg (by rw [hb]; decide), if_neg h1]
    have hy : (if (ishr .u64 (n : Int) (63 : Int) == (1 : Int)) = true then some (iand .u64 (n : Int) (9223372036854775807 : Int)) else some (ixor .u64 (IntKind.max .u64) (n : Int))) = some ((UY n : Nat) : Int) := by
      unfold UY
      rw [ishr63]
      by_cases hs : 9223372036854775808 ≤ n
      · have h2 : iand .u64 (n : Int) (9223372036854775807 : Int) = ((n &&& 9223372036854775807 : Nat) : Int) := iand_u64 n 9223372036854775807 h (by omega)
        have h3 : n &&& 9223372036854775807 = n % 9223372036854775808 := Nat.and_two_pow_sub_one_eq_mod _ 63
        rw [if_pos (decide_eq_true (by omega)), if_pos hs, h2, h3]
      · rw [if_neg (by rw [decide_eq_false (by omega)]; decide), if_neg hs, max_u64, ixor_u64 _ _ (by omega) h]
    rw [hy]
    simp only [Option.bind_some]
    rw [spec_FloatOf _ (uy_lt n h)]
    simp only [Option.bind_some]
    rw [spec_FloatRank _ (okF_cn _ (uy_lt n h))]
    simp only [Option.bind_some]
    rw [bne_nat]
    by_cases hr : FRK (cn (UY n)) = n
    · rw [if_pos hr, decide_eq_true hr]; rfl
    · rw [if_neg hr, decide_eq_false hr]; rfl
theorem impl_FloatUnrank (n : Nat) (h : n < 18446744073709551616) : impl_FloatUnrank.f (n : Int) = some (UR n) := by
  unfold impl_FloatUnrank.f UR
  have hy : (if (decide ((n : Int) < (9223372036854775808 : Int))) = true then some (ixor .u64 (IntKind.max .u64) (n : Int)) else some (iandn .u64 (n : Int) (9223372036854775808 : Int))) = some ((UY n : Nat) : Int) := by
    unfold UY
    by_cases hs : 9223372036854775808 ≤ n
    · rw [if_neg (by simp; omega), if_pos hs, iandn63 n h]
    · rw [if_pos (by simp; omega), if_neg hs, max_u64, ixor_u64 _ _ (by omega) h]
  rw [hy, Option.bind_some, Int.toNat_natCast]
  by_cases h1 : n = 18446744073709551615
  · subst h1
    rw [ifT (by decide), if_pos rfl]
    have : math_NaN.f = some nanB := by unfold math_NaN.f; decide
    rw [this]; rfl
  · have hb : ((n : Int) == (18446744073709551615 : Int)) = false := by
      have := beq_nat n 18446744073709551615
      rw [decide_eq_false h1] at this
      exact this
    rw [if_neg (by rw [hb]; decide), if_neg h1]
    have hk := okF_cn _ (uy_lt n h)
    obtain ⟨c1, _, _, _⟩ := cmp_facts _ hk
    generalize cn (UY n) = f at hk c1 ⊢
    by_cases hx : f = 9221120237041090560
    · rw [ifT (by rw [c1]; exact decide_eq_true hx), Option.bind_some, ifT rfl, if_neg]
      rw [hx]
      show ¬ FRK 9221120237041090560 = n
      have : FRK 9221120237041090560 = 18446744073709551615 := by decide
      rw [this]; omega
    · rw [ifF (by rw [c1]; exact decide_eq_false hx), impl_FloatRank f hk, Option.bind_some, Option.bind_some, bne_nat]
      by_cases hr : FRK f = n
      · rw [if_pos hr, decide_eq_true hr]; rfl
      · rw [if_neg hr, decide_eq_false hr]; rfl
def I0 : Item := Item.mk 0 0 0 []
def PK (fl : Nat → Nat) (b : List Int) : Item := Item.mk (at_ b 0) (if at_ b 0 = 1 then IntKind.wrap .i64 (ixor .u64 ((LW (b.drop 1) : Nat) : Int) 9223372036854775808) else 0) (if at_ b 0 = 2 then fl (LW (b.drop 1)) else 0) (if at_ b 0 = 3 then b.drop 1 else [])
noncomputable def RD (By : Item → List Int) (fl : Nat → Nat) (b : List Int) : Item × Bool := if 1 ≤ b.length ∧ b.length ≤ 41 ∧ By (PK fl b) = b then (PK fl b, true) else (I0, false)
section
variable (b : List Int) (hb : ∀ x ∈ b, InK .u8 x)
include hb
theorem at0_u8 (h : 1 ≤ b.length) : InK .u8 (at_ b 0) := by
 have : at_ b 0 = b[0] := at_nat b 0 (by omega)
 rw [this]; exact hb _ (List.getElem_mem _)
theorem drop_u8 (k : Nat) : ∀ x ∈ b.drop k, InK .u8 x := fun x hx => hb x (List.mem_of_mem_drop hx)
theorem pk_ok (fl : Nat → Nat) (hf : ∀ n, n < 18446744073709551616 → okF (fl n)) (h : 1 ≤ b.length) (h2 : b.length ≤ 1000000000) : ok_Item (PK fl b) := by
 have h0 := u8_of (at0_u8 b hb h)
 refine ⟨i64_ok (by simp only [PK]; omega) (by simp only [PK]; omega), ?_, ?_, ?_, ?_⟩
 · simp only [PK]; split
   · exact i64w _
   · exact i64_ok (by omega) (by omega)
 · simp only [PK]; split
   · exact hf _ (lw_lt _ (drop_u8 b hb 1))
   · exact okF_0
 · simp only [PK]; split
   · simp [maxLen]; omega
   · simp
 · simp only [PK]; split
   · exact drop_u8 b hb 1
   · intro y hy; cases hy
theorem spec_parse (fl : Nat → Nat) (F : Int → Option Nat) (hF : ∀ n : Nat, n < 18446744073709551616 → F (n : Int) = some (fl n)) (h : 1 ≤ b.length) (h2 : b.length ≤ 1000000000) :
    ((if ((IntKind.wrap .i64 (at_ b (0 : Int))) == (1 : Int)) = true then (if 0 ≤ (1 : Int) ∧ (1 : Int) ≤ (b.length : Int) then ((spec_l3low.f (b.drop ((1 : Int)).toNat)).bind fun r26 => (some ((IntKind.wrap .i64 (ixor .u64 r26 (9223372036854775808 : Int))), (0 : Nat), ([] : (List Int))))) else none) else ((if ((IntKind.wrap .i64 (at_ b (0 : Int))) == (2 : Int)) = true then (if 0 ≤ (1 : Int) ∧ (1 : Int) ≤ (b.length : Int) then ((spec_l3low.f (b.drop ((1 : Int)).toNat)).bind fun r39 => ((F r39).bind fun r41 => (some (r41, ([] : (List Int)))))) else none) else ((if ((IntKind.wrap .i64 (at_ b (0 : Int))) == (3 : Int)) = true then (if 0 ≤ (1 : Int) ∧ (1 : Int) ≤ (b.length : Int) then (if ([] : (List Int)).length + (b.drop ((1 : Int)).toNat).length ≤ Lim then (some (([] : (List Int)) ++ (b.drop ((1 : Int)).toNat))) else none) else none) else (some ([] : (List Int)))).bind fun y48 => (some ((0 : Nat), y48)))).bind fun y33 => (some ((0 : Int), y33.1, y33.2))))) = some ((PK fl b).N, (PK fl b).F, (PK fl b).T) := by
  have h0 := at0_u8 b hb h
  have hl := lw_lt _ (drop_u8 b hb 1)
  rw [wrap_u8n _ h0, show ((1 : Int)).toNat = 1 from rfl, spec_l3low _ (drop_u8 b hb 1) (by simp; omega)]
  have hlen : (b.drop 1).length ≤ Lim := by simp [Lim]; omega
  simp only [Option.bind_some, hF _ hl, List.nil_append, List.length_nil, Nat.zero_add, if_pos hlen]
  have hg : (0 : Int) ≤ 1 ∧ (1 : Int) ≤ (b.length : Int) := ⟨by omega, by omega⟩
  simp only [if_pos hg, PK]
  by_cases c1 : at_ b 0 = 1
  · simp [c1]
  · by_cases c2 : at_ b 0 = 2
    · simp [c2]
    · by_cases c3 : at_ b 0 = 3
      · simp [c3]
      · simp [c1, c2, c3]
end
theorem pk_eta (fl : Nat → Nat) (b : List Int) : Item.mk (at_ b 0) (PK fl b).N (PK fl b).F (PK fl b).T = PK fl b := rfl
theorem RD_no {By : Item → List Int} {fl : Nat → Nat} {b : List Int} (h : ¬ (1 ≤ b.length ∧ b.length ≤ 41 ∧ By (PK fl b) = b)) : RD By fl b = (I0, false) := if_neg h
theorem RD_yes {By : Item → List Int} {fl : Nat → Nat} {b : List Int} (h : 1 ≤ b.length ∧ b.length ≤ 41 ∧ By (PK fl b) = b) : RD By fl b = (PK fl b, true) := if_pos h
def urf (n : Nat) : Nat := (UR n).1
theorem spec_KeyRead (b : List Int) (hb : ∀ x ∈ b, InK .u8 x) : spec_KeyRead.f b = some (RD KB urf b) := by
 unfold spec_KeyRead.f
 by_cases hl : 1 ≤ b.length ∧ b.length ≤ 41
 · rw [if_neg (by simp; omega), if_pos ⟨by omega, by omega⟩]
   have hp := spec_parse b hb urf (fun n => (spec_FloatUnrank.f n).bind fun r => some r.1) (fun n hn => by
    show (spec_FloatUnrank.f (n : Int)).bind _ = _
    rw [spec_FloatUnrank n hn]; rfl) hl.1 (by omega)
   have hk := pk_ok b hb urf (fun n hn => ur_ok n hn) hl.1 (by omega)
   have hbind : ∀ (X : Option (Nat × Bool)), (X.bind fun r41 => (some (r41.1, ([] : List Int)))) = ((X.bind fun r => some r.1).bind fun r41 => some (r41, ([] : List Int))) := fun X => by cases X <;> rfl
   simp only [hbind]
   rw [hp]
   simp only [Option.bind_some]
   rw [wrap_u8n _ (at0_u8 b hb hl.1), pk_eta, spec_KeyBytes _ hk, Option.bind_some, str_eq _ _ (kb_u8 _ hk) hb]
   by_cases he : KB (PK urf b) = b
   · rw [decide_eq_true he, RD_yes ⟨hl.1, hl.2, he⟩]; rfl
   · rw [decide_eq_false he, RD_no (fun h => he h.2.2)]; rfl
 · rw [if_pos (by simp; omega), RD_no (fun h => hl ⟨h.1, h.2.1⟩)]; rfl
theorem spec_ValueRead (b : List Int) (hb : ∀ x ∈ b, InK .u8 x) : spec_ValueRead.f b = some (RD VB cn b) := by
 unfold spec_ValueRead.f
 by_cases hl : 1 ≤ b.length ∧ b.length ≤ 41
 · rw [if_neg (by simp; omega), if_pos ⟨by omega, by omega⟩]
   have hp := spec_parse b hb cn spec_FloatOf.f (fun n hn => spec_FloatOf n hn) hl.1 (by omega)
   have hk := pk_ok b hb cn (fun n hn => okF_cn n hn) hl.1 (by omega)
   rw [hp]
   simp only [Option.bind_some]
   rw [wrap_u8n _ (at0_u8 b hb hl.1), pk_eta, spec_ValueBytes _ hk, Option.bind_some, str_eq _ _ (vb_u8 _ hk) hb]
   by_cases he : VB (PK cn b) = b
   · rw [decide_eq_true he, RD_yes ⟨hl.1, hl.2, he⟩]; rfl
   · rw [decide_eq_false he, RD_no (fun h => he h.2.2)]; rfl
 · rw [if_pos (by simp; omega), RD_no (fun h => hl ⟨h.1, h.2.1⟩)]; rfl
theorem impl_readItem (b : List Int) (hb : ∀ x ∈ b, InK .u8 x) (hl : b.length ≤ 1000000000) (fl : Nat → Nat) (F : Int → Option Nat) (hF : ∀ n : Nat, n < 18446744073709551616 → F (n : Int) = some (fl n)) :
    impl_readItem.f b F = some (if 1 ≤ b.length ∧ (at_ b 0 = 3 ∨ b.length = 9) then PK fl b else I0) := by
  unfold impl_readItem.f
  by_cases h : 1 ≤ b.length
  · have h0 := at0_u8 b hb h
    have hlw := lw_lt _ (drop_u8 b hb 1)
    rw [if_neg (by simp; intro hh; subst hh; simp at h), if_pos ⟨by omega, by omega⟩, if_pos ⟨by omega, by omega⟩, wrap_u8n _ h0, show ((1 : Int)).toNat = 1 from rfl, impl_fromHigh _ (drop_u8 b hb 1) (by simp; omega), cloneB _ (by simp; omega)]
    simp only [Option.bind_some, hF _ hlw]
    have hx : IntKind.wrap .u64 (((LW (b.drop 1) : Nat) : Int) - 9223372036854775808) = ixor .u64 ((LW (b.drop 1) : Nat) : Int) 9223372036854775808 := by
      generalize LW (b.drop 1) = m at hlw
      have hx2 : ixor .u64 (m : Int) (9223372036854775808 : Int) = ((m ^^^ 9223372036854775808 : Nat) : Int) := ixor_u64 m 9223372036854775808 hlw (by omega)
      rw [hx2]
      by_cases hs : m < 9223372036854775808
      · have h2 : (9223372036854775808 + m) ^^^ 2 ^ 63 = m := xor_sign m hs
        have h3 : ((9223372036854775808 + m) ^^^ 2 ^ 63) ^^^ 2 ^ 63 = m ^^^ 2 ^ 63 := by rw [h2]
        rw [Nat.xor_assoc, Nat.xor_self, Nat.xor_zero] at h3
        have h4 : m ^^^ 9223372036854775808 = 9223372036854775808 + m := h3.symm
        rw [h4, IntKind.wrap_u64]; omega
      · obtain ⟨r, rfl⟩ : ∃ r, m = 9223372036854775808 + r := ⟨m - 9223372036854775808, by omega⟩
        have h2 : (9223372036854775808 + r) ^^^ 9223372036854775808 = r := xor_sign r (by omega)
        rw [h2, IntKind.wrap_u64]; omega
    rw [hx]
    have hlen : ((((b.drop 1).length : Int) != (8 : Int)) = true) ↔ ¬ b.length = 9 := by simp; omega
    by_cases c3 : at_ b 0 = 3
    · rw [if_pos (by simp [c3]), (if_pos (c := 1 ≤ b.length ∧ (at_ b 0 = 3 ∨ b.length = 9)) ⟨h, .inl c3⟩)]
      simp [PK, c3]
    · rw [if_neg (by simp [c3])]
      by_cases c9 : b.length = 9
      · rw [if_neg (by rw [hlen]; simp [c9]), (if_pos (c := 1 ≤ b.length ∧ (at_ b 0 = 3 ∨ b.length = 9)) ⟨h, .inr c9⟩)]
        simp only [PK, if_neg c3]
        by_cases c1 : at_ b 0 = 1
        · simp [c1]
        · by_cases c2 : at_ b 0 = 2
          · simp [c2]
          · simp [c1, c2]
      · rw [if_pos (by rw [hlen]; exact c9), (if_neg (c := 1 ≤ b.length ∧ (at_ b 0 = 3 ∨ b.length = 9)) fun hh => hh.2.elim c3 c9)]
        rfl
  · have hn : b = [] := by cases b with | nil => rfl | cons x l => simp at h
    subst hn; rfl
theorem ok_I0 : ok_Item I0 := ⟨i64_ok (by decide) (by decide), i64_ok (by decide) (by decide), okF_0, by simp [I0], fun y hy => by cases hy⟩
theorem kok_0 : KOK I0 = false := by decide
theorem kb_kind {a : Item} (h : KB a ≠ []) : a.Kind ≠ 0 ∧ IOK a = true := by
 unfold KB at h
 split at h
 · rename_i hk
   simp only [KOK, Bool.and_eq_true, bne_iff_ne, ne_eq] at hk
   exact ⟨hk.1.2, hk.1.1⟩
 · exact absurd rfl h
theorem vb_kind {a : Item} (h : VB a ≠ []) : a.Kind ≠ 0 ∧ IOK a = true := by
 unfold VB at h
 split at h
 · rename_i hk; exact ⟨hk.2, hk.1⟩
 · exact absurd rfl h
theorem kb_9 {a : Item} (h : KB a ≠ []) (h3 : a.Kind ≠ 3) : (KB a).length = 9 := by
 have hk := kb_kind h
 have := (iok_iff a).1 hk.2
 unfold KB at h ⊢
 split at h
 · rename_i hh; rw [if_pos hh, ib_len, if_pos (by omega)]
 · exact absurd rfl h
theorem vb_9 {a : Item} (h : VB a ≠ []) (h3 : a.Kind ≠ 3) : (VB a).length = 9 := by
 have hk := vb_kind h
 have := (iok_iff a).1 hk.2
 unfold VB at h ⊢
 split at h
 · rename_i hh; rw [if_pos hh, ib_len, if_pos (by omega)]
 · exact absurd rfl h
theorem impl_KeyRead (b : List Int) (hb : ∀ x ∈ b, InK .u8 x) (hl : b.length ≤ 1000000000) : impl_KeyRead.f b = some (RD KB urf b) := by
  unfold impl_KeyRead.f
  rw [impl_readItem b hb hl urf impl_KeyRead_1.f (fun n hn => by unfold impl_KeyRead_1.f; rw [impl_FloatUnrank n hn]; rfl), Option.bind_some]
  by_cases hc : 1 ≤ b.length ∧ (at_ b 0 = 3 ∨ b.length = 9)
  · rw [if_pos hc]
    have hk := pk_ok b hb urf (fun n hn => ur_ok n hn) hc.1 hl
    rw [impl_KeyOk _ hk.2.2.1, Option.bind_some, impl_KeyBytes _ hk, Option.bind_some, bytesEqual _ _ (kb_u8 _ hk) hb, Option.bind_some]
    by_cases he : KB (PK urf b) = b
    · have hkok : KOK (PK urf b) = true := by
        cases hh : KOK (PK urf b) with
        | true => rfl
        | false =>
          unfold KB at he
          rw [if_neg (by rw [hh]; decide)] at he
          rw [← he] at hc; simp at hc
      have hlen := kb_len (PK urf b)
      rw [he] at hlen
      rw [hkok, decide_eq_true he, RD_yes ⟨hc.1, hlen, he⟩]; rfl
    · rw [decide_eq_false he, RD_no (fun h => he h.2.2)]
      cases KOK (PK urf b) <;> rfl
  · rw [if_neg hc, impl_KeyOk _ okF_0, Option.bind_some, kok_0]
    rw [RD_no]
    · rfl
    · rintro ⟨h1, h2, h3⟩
      have hne : KB (PK urf b) ≠ [] := by rw [h3]; intro h; subst h; simp at h1
      refine hc ⟨h1, ?_⟩
      by_cases c3 : at_ b 0 = 3
      · exact .inl c3
      · have := kb_9 hne c3
        rw [h3] at this
        exact .inr this
theorem impl_ValueRead (b : List Int) (hb : ∀ x ∈ b, InK .u8 x) (hl : b.length ≤ 1000000000) : impl_ValueRead.f b = some (RD VB cn b) := by
 unfold impl_ValueRead.f
 rw [impl_readItem b hb hl cn impl_FloatOf.f (fun n hn => impl_FloatOf n), Option.bind_some]
 by_cases hc : 1 ≤ b.length ∧ (at_ b 0 = 3 ∨ b.length = 9)
 · rw [if_pos hc]
   have hk := pk_ok b hb cn (fun n hn => okF_cn n hn) hc.1 hl
   rw [impl_ItemOk, Option.bind_some, impl_ValueBytes _ hk, Option.bind_some, bytesEqual _ _ (vb_u8 _ hk) hb, Option.bind_some]
   by_cases he : VB (PK cn b) = b
   · have hne : VB (PK cn b) ≠ [] := by rw [he]; intro h; subst h; simp at hc
     obtain ⟨hk0, hiok⟩ := vb_kind hne
     have hlen := vb_len (PK cn b)
     rw [he] at hlen
     rw [hiok, decide_eq_true he, RD_yes ⟨hc.1, hlen, he⟩, if_neg (by simp [hk0])]; rfl
   · rw [decide_eq_false he, RD_no (fun h => he h.2.2)]
     cases hq : ((!IOK (PK cn b)) || ((PK cn b).Kind == (0 : Int))) <;> rfl
 · rw [if_neg hc, impl_ItemOk, Option.bind_some]
   have : ((!IOK I0) || (I0.Kind == (0 : Int))) = true := by decide
   rw [if_pos this, RD_no]
   · rfl
   · rintro ⟨h1, h2, h3⟩
     have hne : VB (PK cn b) ≠ [] := by rw [h3]; intro h; subst h; simp at h1
     refine hc ⟨h1, ?_⟩
     by_cases c3 : at_ b 0 = 3
     · exact .inl c3
     · have := vb_9 hne c3
       rw [h3] at this
       exact .inr this
end Go.Proofs.YtegicanjlefmdaaGreat
set_option linter.unusedVariables false
set_option linter.unusedSimpArgs false
set_option linter.unusedSectionVars false
namespace Go.Proofs.YtegicanjlefmdaaGreat
open Go V Ieee
def TOK (t : Tuple) : Bool := rin t.Xmin 1 400 && rin t.Xmax 0 400 && KOK t.Key && IOK t.Value && (t.Value.Kind != (0 : Int))
theorem impl_TupleOk (t : Tuple) (h : ok_Tuple t) : impl_TupleOk.f t = some (TOK t) := by
 unfold impl_TupleOk.f TOK
 have e1 : impl_isXid.f t.Xmin = some (rin t.Xmin 1 400) := rfl
 simp only [e1, within_rin, impl_KeyOk _ h.2.2.1.2.2.1, impl_ItemOk, Option.bind_some]
 cases rin t.Xmin 1 400 <;> cases rin t.Xmax 0 400 <;> cases KOK t.Key <;> cases IOK t.Value <;> rfl
theorem spec_TupleOk (t : Tuple) (h : ok_Tuple t) : spec_TupleOk.f t = some (TOK t) := by
 unfold spec_TupleOk.f TOK
 simp only [in_rin, spec_KeyOk _ h.2.2.1.2.2.1, spec_ItemOk _ h.2.2.2.2.2.1, Option.bind_some]
 cases rin t.Xmin 1 400 <;> cases rin t.Xmax 0 400 <;> cases KOK t.Key <;> cases IOK t.Value <;> rfl
noncomputable def TB (t : Tuple) : List Int := if TOK t = true then ((((PN t.Xmin 4 ++ PN t.Xmax 4) ++ [IntKind.wrap .u8 ((KB t.Key).length : Int)]) ++ KB t.Key) ++ [IntKind.wrap .u8 ((VB t.Value).length : Int)]) ++ VB t.Value else []
theorem tb_u8 (t : Tuple) (h : ok_Tuple t) : ∀ x ∈ TB t, InK .u8 x := by
 unfold TB
 split
 · intro x hx
   simp only [List.mem_append, List.mem_singleton] at hx
   rcases hx with ((((hx | hx) | hx) | hx) | hx) | hx
   · exact pn_u8 _ _ x hx
   · exact pn_u8 _ _ x hx
   · subst hx; exact u8w _
   · exact kb_u8 _ h.2.2.1 x hx
   · subst hx; exact u8w _
   · exact vb_u8 _ h.2.2.2 x hx
 · intro x hx; cases hx
theorem pn4_len (n : Int) : (PN n 4).length ≤ 4 := by
 unfold PN
 split
 · rw [le_len]; decide
 · simp
theorem tb_len (t : Tuple) : (TB t).length ≤ 92 := by
 unfold TB
 have h1 := pn4_len t.Xmin
 have h2 := pn4_len t.Xmax
 have h3 := kb_len t.Key
 have h4 := vb_len t.Value
 split
 · simp only [List.length_append, List.length_singleton]; omega
 · simp
theorem impl_TupleBytes (t : Tuple) (h : ok_Tuple t) : impl_TupleBytes.f t = some (TB t) := by
 unfold impl_TupleBytes.f
 rw [impl_TupleOk t h, Option.bind_some]
 have h1 := pn4_len t.Xmin
 have h2 := pn4_len t.Xmax
 have h3 := kb_len t.Key
 have h4 := vb_len t.Value
 cases hT : TOK t with
 | false => unfold TB; rw [hT]; rfl
 | true =>
  rw [if_neg (by decide), impl_KeyBytes _ h.2.2.1, Option.bind_some, impl_ValueBytes _ h.2.2.2, Option.bind_some, impl_PutNum _ _ h.1 (i64_ok (by decide) (by decide)), Option.bind_some, impl_PutNum _ _ h.2.1 (i64_ok (by decide) (by decide)), Option.bind_some, Option.bind_some, concatB _ (by simp) (by simp; omega), Option.bind_some]
  unfold TB
  rw [hT]; simp
theorem spec_TupleBytes (t : Tuple) (h : ok_Tuple t) : spec_TupleBytes.f t = some (TB t) := by
 unfold spec_TupleBytes.f
 rw [spec_TupleOk t h, Option.bind_some]
 have h1 := pn4_len t.Xmin
 have h2 := pn4_len t.Xmax
 have h3 := kb_len t.Key
 have h4 := vb_len t.Value
 cases hT : TOK t with
 | false => unfold TB; rw [hT]; rfl
 | true =>
  rw [if_neg (by decide), spec_KeyBytes _ h.2.2.1, Option.bind_some, spec_ValueBytes _ h.2.2.2, Option.bind_some, spec_PutNum _ _ h.1, Option.bind_some, spec_PutNum _ _ h.2.1, Option.bind_some]
  rw [if_pos (by simp [Lim]; omega), if_pos (by simp [Lim]; omega), if_pos (by simp [Lim]; omega), if_pos (by simp [Lim]; omega), if_pos (by simp [Lim]; omega)]
  unfold TB
  rw [hT]; rfl
def T0 : Tuple := Tuple.mk 0 0 I0 I0
def x8 (b : List Int) : Nat := (at_ b 8).toNat
noncomputable def RK (b : List Int) : Item × Bool := RD KB urf (cut b 9 (x8 b))
noncomputable def RV (b : List Int) : Item × Bool := RD VB cn (b.drop (10 + x8 b))
noncomputable def TT (b : List Int) : Tuple := Tuple.mk (GN b 0 4).1 (GN b 4 4).1 (RK b).1 (RV b).1
noncomputable def TR (b : List Int) : Tuple × Bool := if 10 + x8 b ≤ b.length ∧ (RK b).2 = true ∧ (RV b).2 = true ∧ TB (TT b) = b then (TT b, true) else (T0, false)
theorem ok_T0 : ok_Tuple T0 := ⟨i64_ok (by decide) (by decide), i64_ok (by decide) (by decide), ok_I0, ok_I0⟩
theorem rd_ok (By : Item → List Int) (fl : Nat → Nat) (hf : ∀ n, n < 18446744073709551616 → okF (fl n)) (b : List Int) (hb : ∀ x ∈ b, InK .u8 x) : ok_Item (RD By fl b).1 := by
 unfold RD
 split
 · rename_i h; exact pk_ok b hb fl hf h.1 (by omega)
 · exact ok_I0
theorem gn_i64 (b : List Int) (a k : Int) : InK .i64 (GN b a k).1 := by
 unfold GN
 split
 · split
   · exact i64_ok (by simp only []; omega) (by simp only []; omega)
   · exact i64_ok (by decide) (by decide)
 · exact i64_ok (by decide) (by decide)
theorem tt_ok (b : List Int) (hb : ∀ x ∈ b, InK .u8 x) : ok_Tuple (TT b) := ⟨gn_i64 _ _ _, gn_i64 _ _ _, rd_ok _ _ (fun n hn => ur_ok n hn) _ (cut_u8 b _ _ hb), rd_ok _ _ (fun n hn => okF_cn n hn) _ (drop_u8 b hb _)⟩
theorem tr_ok (b : List Int) (hb : ∀ x ∈ b, InK .u8 x) : ok_Tuple (TR b).1 := by
 unfold TR
 split
 · exact tt_ok b hb
 · exact ok_T0
theorem TR_yes {b : List Int} (h : 10 + x8 b ≤ b.length ∧ (RK b).2 = true ∧ (RV b).2 = true ∧ TB (TT b) = b) : TR b = (TT b, true) := if_pos h
theorem TR_no {b : List Int} (h : ¬ (10 + x8 b ≤ b.length ∧ (RK b).2 = true ∧ (RV b).2 = true ∧ TB (TT b) = b)) : TR b = (T0, false) := if_neg h
theorem spec_TupleRead (b : List Int) (hb : ∀ x ∈ b, InK .u8 x) : spec_TupleRead.f b = some (TR b) := by
  unfold spec_TupleRead.f
  by_cases hl : 10 ≤ b.length ∧ b.length ≤ 92
  · have h8 : InK .u8 (at_ b 8) := by
      have : at_ b 8 = b[8] := at_nat b 8 (by omega)
      rw [this]; exact hb _ (List.getElem_mem _)
    have hx : at_ b 8 = (x8 b : Int) := (u8n h8).1
    have hx2 : x8 b < 256 := (u8n h8).2
    rw [if_neg (by simp; omega), spec_GetNum b 0 4 hb (by omega) (i64_ok (by decide) (by decide)) (i64_ok (by decide) (by decide)), Option.bind_some, spec_GetNum b 4 4 hb (by omega) (i64_ok (by decide) (by decide)) (i64_ok (by decide) (by decide)), Option.bind_some, if_pos ⟨by omega, by omega⟩, wrap_u8n _ h8, hx, w64 (n := (b.length : Int) - 10) (by omega) (by omega)]
    by_cases hc : 10 + x8 b ≤ b.length
    · rw [if_neg (by simp; omega), w64 (n := 9 + (x8 b : Int)) (by omega) (by omega), w64 (n := 10 + (x8 b : Int)) (by omega) (by omega), if_pos ⟨by omega, by omega, by omega⟩]
      rw [show (9 + (x8 b : Int)).toNat = 9 + x8 b by omega, show ((9 : Int)).toNat = 9 from rfl, take_drop, show 9 + x8 b - 9 = x8 b by omega, show (10 + (x8 b : Int)).toNat = 10 + x8 b by omega]
      rw [spec_KeyRead _ (cut_u8 b _ _ hb), Option.bind_some, if_pos ⟨by omega, by omega⟩, spec_ValueRead _ (drop_u8 b hb _), Option.bind_some]
      have ht := tt_ok b hb
      have e := str_eq _ _ (tb_u8 _ ht) hb
      show ((if (!(RK b).2) = true then some true else ((if (!(RV b).2) = true then some true else ((spec_TupleBytes.f (TT b)).bind fun r116 => (some (!((str r116).toList == (str b).toList))))).bind fun y93 => (some y93))).bind fun y74 => (if y74 = true then some (T0, false) else some (TT b, true))) = _
      rw [spec_TupleBytes _ ht, Option.bind_some, e]
      by_cases hk : (RK b).2 = true
      · by_cases hv : (RV b).2 = true
        · by_cases he : TB (TT b) = b
          · rw [TR_yes ⟨hc, hk, hv, he⟩, hk, hv, decide_eq_true he]; rfl
          · rw [TR_no (fun h => he h.2.2.2), hk, hv, decide_eq_false he]; rfl
        · rw [TR_no (fun h => hv h.2.2.1), hk, eq_false_of_ne_true hv]; rfl
      · rw [TR_no (fun h => hk h.2.1), eq_false_of_ne_true hk]; rfl
    · rw [if_pos (by simp; omega), TR_no (fun h => hc h.1)]; rfl
  · rw [if_pos (by simp; omega), TR_no]
    · rfl
    · rintro ⟨h1, _, _, h4⟩
      have := tb_len (TT b)
      rw [h4] at this
      omega
theorem impl_TupleRead (b : List Int) (hb : ∀ x ∈ b, InK .u8 x) (hl : b.length ≤ 1000000000) : impl_TupleRead.f b = some (TR b) := by
  unfold impl_TupleRead.f
  rw [impl_GetNum b 0 4 hb (by omega) (i64_ok (by decide) (by decide)) (i64_ok (by decide) (by decide)), Option.bind_some, impl_GetNum b 4 4 hb (by omega) (i64_ok (by decide) (by decide)) (i64_ok (by decide) (by decide)), Option.bind_some]
  by_cases h9 : 9 ≤ b.length
  · have g1 := gn_in b 0 4 hb (by omega) (by omega) (by omega)
    have g2 := gn_in b 4 4 hb (by omega) (by omega) (by omega)
    have e1 : (GN b 0 4).2 = true := congrArg Prod.snd g1
    have e2 : (GN b 4 4).2 = true := congrArg Prod.snd g2
    have h8 : InK .u8 (at_ b 8) := by
      have : at_ b 8 = b[8] := at_nat b 8 (by omega)
      rw [this]; exact hb _ (List.getElem_mem _)
    have hx : at_ b 8 = (x8 b : Int) := (u8n h8).1
    have hx2 : x8 b < 256 := (u8n h8).2
    rw [e1, e2, if_neg (by simp; omega), if_pos ⟨by omega, by omega⟩, wrap_u8n _ h8, hx, Option.bind_some, w64 (n := 10 + (x8 b : Int)) (by omega) (by omega)]
    by_cases hc : 10 + x8 b ≤ b.length
    · rw [if_neg (by simp; omega), if_pos ⟨by omega, by omega⟩, w64 (n := 9 + (x8 b : Int)) (by omega) (by omega), w64 (n := 9 + (x8 b : Int) + 1) (by omega) (by omega), if_pos ⟨by omega, by omega, by omega⟩]
      rw [show (9 + (x8 b : Int)).toNat = 9 + x8 b by omega, show ((9 : Int)).toNat = 9 from rfl, take_drop, show 9 + x8 b - 9 = x8 b by omega, show (9 + (x8 b : Int) + 1).toNat = 10 + x8 b by omega]
      rw [impl_KeyRead _ (cut_u8 b _ _ hb) (by rw [cut_len _ _ _ (by omega)]; omega), Option.bind_some, if_pos ⟨by omega, by omega⟩, impl_ValueRead _ (drop_u8 b hb _) (by simp; omega), Option.bind_some]
      have ht := tt_ok b hb
      have e := bytesEqual _ _ (tb_u8 _ ht) hb
      show ((if ((!(RK b).2) || (!(RV b).2)) = true then some true else ((impl_TupleOk.f (TT b)).bind fun r72 => (some (!r72)))).bind fun y65 => ((if y65 = true then some true else ((impl_TupleBytes.f (TT b)).bind fun r83 => ((bytes_Equal.f r83 b).bind fun r88 => (some (!r88))))).bind fun y82 => (if y82 = true then some (T0, false) else some (TT b, true)))) = _
      rw [impl_TupleOk _ ht, impl_TupleBytes _ ht, Option.bind_some, Option.bind_some, e]
      by_cases hk : (RK b).2 = true
      · by_cases hv : (RV b).2 = true
        · by_cases he : TB (TT b) = b
          · have ho : TOK (TT b) = true := by
              cases hh : TOK (TT b) with
              | true => rfl
              | false =>
                unfold TB at he
                rw [if_neg (by rw [hh]; decide)] at he
                rw [← he] at h9; simp at h9
            rw [TR_yes ⟨hc, hk, hv, he⟩, hk, hv, ho, decide_eq_true he]; rfl
          · rw [TR_no (fun h => he h.2.2.2), hk, hv, decide_eq_false he]
            cases TOK (TT b) <;> rfl
        · rw [TR_no (fun h => hv h.2.2.1), hk, eq_false_of_ne_true hv]; rfl
      · rw [TR_no (fun h => hk h.2.1), eq_false_of_ne_true hk]
        cases (RV b).2 <;> rfl
    · rw [if_pos (by simp; omega), TR_no (fun h => hc h.1)]; rfl
  · rw [if_pos (by simp; omega), Option.bind_some, TR_no (fun h => by omega)]; rfl
end Go.Proofs.YtegicanjlefmdaaGreat
set_option linter.unusedVariables false
set_option linter.unusedSimpArgs false
namespace Go.Proofs.YtegicanjlefmdaaGreat
open Go V Ieee
theorem ik (n : Int) (h : -9223372036854775808 ≤ n := by decide) (h' : n ≤ 9223372036854775807 := by decide) : InK .i64 n := i64_ok h h'
theorem u64w (x : Int) : InK .u64 (IntKind.wrap .u64 x) := by
 rw [IntKind.wrap_u64]
 exact ⟨by show (0 : Int) ≤ _; omega, by show _ ≤ (18446744073709551615 : Int); omega⟩
theorem u64_of {n : Int} (h : InK .u64 n) : n = ((n.toNat : Nat) : Int) ∧ n.toNat < 18446744073709551616 := by
 have h1 : (0 : Int) ≤ n := h.1
 have h2 : n ≤ (18446744073709551615 : Int) := h.2
 omega
theorem l1number_ok (c : l1Cur) (h : Ci c.b c.i) : Ok (spec_l1number.f c) fun r => InK .i64 r.1 ∧ Ci c.b r.2.i := by
 unfold spec_l1number.f
 refine Ok.bind (l1Below_ok c 1000 h (by omega)) fun r1 h1 => Ok.bind (l1Below_ok (l1Cur.mk c.b r1.2.i r1.2.h) 6 h1.2.2 (by omega)) fun r2 h2 => ?_
 refine Ok.iter (fun s => InK .i64 s.1 ∧ 0 ≤ s.2.1 ∧ s.2.1 ≤ 6 ∧ Ci c.b s.2.2.1) (fun s => s.2.1.toNat) (fun s hs => ?_) _ ?_
 rotate_left
 · obtain ⟨a1, a2, _⟩ := h1
   obtain ⟨b1, b2, b3⟩ := h2
   exact ⟨i64_ok (by omega) (by omega), b1, by show r2.1 ≤ 6; omega, b3⟩
 obtain ⟨k1, k2, k3, k4⟩ := hs
 unfold spec_l1number.b0
 refine Ok.ite (fun hc => ?_) fun _ => Ok.out ?_
 · have hc' : s.2.1 > 0 := by simpa using hc
   refine Ok.bind (l1Byte_ok (l1Cur.mk c.b s.2.2.1 s.2.2.2) k4) fun r hr => Ok.ret ?_
   show (_ ∧ _ ∧ _ ∧ _) ∧ _
   simp only []
   rw [w64 (n := s.2.1 - 1) (by omega) (by omega)]
   exact ⟨⟨i64w _, by omega, by omega, hr.2.2⟩, by omega⟩
 · refine Ok.bind (l1Below_ok (l1Cur.mk c.b s.2.2.1 s.2.2.2) 12 k4 (by omega)) fun r hr => Ok.ite (fun _ => Ok.ret ⟨i64w _, hr.2.2⟩) fun _ => Ok.ite (fun _ => ?_) fun _ => Ok.ite (fun _ => Ok.ret ⟨ik 9223372036854775807, hr.2.2⟩) fun _ => Ok.ite (fun _ => Ok.ret ⟨ik (-9223372036854775808), hr.2.2⟩) fun _ => Ok.ret ⟨k1, hr.2.2⟩
   refine Ok.bind (l1Below_ok (l1Cur.mk c.b r.2.i r.2.h) 7 hr.2.2 (by omega)) fun q hq => ?_
   obtain ⟨q1, q2, q3⟩ := hq
   refine Ok.grd ?_ (Ok.bind (l1Below_ok (l1Cur.mk c.b q.2.i q.2.h) 2 q3 (by omega)) fun z hz => Ok.ret ⟨i64w _, hz.2.2⟩)
   rw [w64 (n := 1 + q.1) (by omega) (by omega), w64 (by omega) (by omega)]; omega
theorem l2bits_ok (c : l1Cur) (h : Ci c.b c.i) : Ok (spec_l2bits.f c) fun r => InK .u64 r.1 ∧ Ci c.b r.2.i := by
 unfold spec_l2bits.f
 refine Ok.iter (fun s => InK .u64 s.1 ∧ 0 ≤ s.2.1 ∧ s.2.1 ≤ 8 ∧ Ci c.b s.2.2.1) (fun s => (8 - s.2.1).toNat) (fun s hs => ?_) _ ⟨u64w 0, by simp, by simp, h⟩
 obtain ⟨k1, k2, k3, k4⟩ := hs
 unfold spec_l2bits.b0
 refine Ok.ite (fun hc => ?_) fun _ => Ok.out ?_
 · have hc' : s.2.1 < 8 := by simpa using hc
   refine Ok.bind (l1Byte_ok (l1Cur.mk c.b s.2.2.1 s.2.2.2) k4) fun r hr => Ok.ret ?_
   show (_ ∧ _ ∧ _ ∧ _) ∧ _
   simp only []
   rw [w64 (n := s.2.1 + 1) (by omega) (by omega)]
   exact ⟨⟨u64w _, by omega, by omega, hr.2.2⟩, by omega⟩
 · refine Ok.bind (l1Below_ok (l1Cur.mk c.b s.2.2.1 s.2.2.2) 9 k4 (by omega)) fun r hr => ?_
   refine Ok.ite (fun _ => Ok.bind (l1Below_ok (l1Cur.mk c.b r.2.i r.2.h) 2 hr.2.2 (by omega)) fun p hp => Ok.bind (l1Below_ok (l1Cur.mk c.b p.2.i p.2.h) 3 hp.2.2 (by omega)) fun q hq => Ok.ret ⟨u64w _, hq.2.2⟩) fun _ => ?_
   refine Ok.ite (fun _ => Ok.bind (l1Below_ok (l1Cur.mk c.b r.2.i r.2.h) 2 hr.2.2 (by omega)) fun p hp => Ok.bind (l1Below_ok (l1Cur.mk c.b p.2.i p.2.h) 3 hp.2.2 (by omega)) fun q hq => Ok.ret ⟨u64w _, hq.2.2⟩) fun _ => ?_
   refine Ok.ite (fun _ => Ok.bind (l1Below_ok (l1Cur.mk c.b r.2.i r.2.h) 2 hr.2.2 (by omega)) fun p hp => Ok.ret ⟨u64w _, hp.2.2⟩) fun _ => ?_
   refine Ok.ite (fun _ => Ok.bind (l1Below_ok (l1Cur.mk c.b r.2.i r.2.h) 2 hr.2.2 (by omega)) fun p hp => Ok.bind (l1Below_ok (l1Cur.mk c.b p.2.i p.2.h) 3 hp.2.2 (by omega)) fun q hq => Ok.ret ⟨u64w _, hq.2.2⟩) fun _ => ?_
   refine Ok.ite (fun _ => Ok.bind (l1Below_ok (l1Cur.mk c.b r.2.i r.2.h) 12 hr.2.2 (by omega)) fun p hp => Ok.bind (l1Below_ok (l1Cur.mk c.b p.2.i p.2.h) 16 hp.2.2 (by omega)) fun q hq => Ok.ret ⟨u64w _, hq.2.2⟩) fun _ => ?_
   refine Ok.ite (fun _ => Ok.bind (l1Below_ok (l1Cur.mk c.b r.2.i r.2.h) 21 hr.2.2 (by omega)) fun p hp => ?_) fun _ => Ok.ret ⟨k1, hr.2.2⟩
   obtain ⟨p1, p2, p3⟩ := hp
   have hk : okF (FloatKind.f64.nearest (IntKind.wrap .i64 (p.1 - 10))) := by
    rw [w64 (by omega) (by omega)]
    have key : ∀ n : Fin 21, (let x := FloatKind.f64.nearest (((n : Nat) : Int) - 10); (cn x == x && decide (x < 18446744073709551616))) = true := by decide +kernel
    have h2 := key ⟨p.1.toNat, by omega⟩
    have e : ((p.1.toNat : Nat) : Int) - 10 = p.1 - 10 := by omega
    simp only [e, Bool.and_eq_true, beq_iff_eq, decide_eq_true_eq] at h2
    exact h2
   refine Ok.bind (Ok.eq (spec_FloatBits _ hk) (P := fun v => InK .u64 v) ⟨by show (0 : Int) ≤ _; omega, by have := hk.2; show _ ≤ (18446744073709551615 : Int); omega⟩) fun v hv => Ok.ret ⟨hv, p3⟩
theorem l2float_ok (c : l1Cur) (h : Ci c.b c.i) : Ok (spec_l2float.f c) fun r => okF r.1 ∧ Ci c.b r.2.i := by
 unfold spec_l2float.f
 refine Ok.bind (l2bits_ok c h) fun r hr => ?_
 obtain ⟨e, hl⟩ := u64_of hr.1
 rw [e]
 exact Ok.bind (Ok.eq (spec_FloatOf _ hl) (P := okF) (okF_cn _ hl)) fun v hv => Ok.ret ⟨hv, hr.2⟩
def okI (a : Item) : Prop := ok_Item a ∧ a.T.length ≤ 40
def okJ (a : Item) : Prop := ok_Item a ∧ a.T.length ≤ 100
theorem okI0 : okI I0 := ⟨ok_I0, by decide⟩
theorem okI_mk {k n : Int} {f : Nat} {t : List Int} (hk : InK .i64 k) (hn : InK .i64 n) (hf : okF f) (ht : ∀ x ∈ t, InK .u8 x) (hl : t.length ≤ 40) : okI (Item.mk k n f t) := ⟨⟨hk, hn, hf, by show t.length ≤ maxLen; simp only [maxLen]; omega, ht⟩, hl⟩
theorem ItemClean_ok (a : Item) (h : okI a) : Ok (spec_ItemClean.f a) okI := by
 unfold spec_ItemClean.f
 obtain ⟨⟨h1, h2, h3, h4, h5⟩, h6⟩ := h
 refine Ok.bind (Ok.eq (spec_ItemOk a h3) trivial (P := fun _ => True)) fun r _ => Ok.ite (fun _ => Ok.ret okI0) fun _ => ?_
 refine Ok.bind (P := fun b => okI b) ?_ fun b hb => ?_
 · unfold spec_l3copy.f
   refine Ok.grd (by simp only [Lim, List.length_nil]; omega) (Ok.ret ?_)
   exact okI_mk h1 h2 h3 h5 h6
 · refine Ok.bind (P := okF) (Ok.ite (fun _ => Ok.ret okF_0) fun _ => Ok.ret hb.1.2.2.1) fun f hf => Ok.ret ?_
   exact okI_mk hb.1.1 hb.1.2.1 hf hb.1.2.2.2.2 hb.2
theorem nu8 : ∀ x ∈ ([] : List Int), InK .u8 x := fun x hx => by cases hx
theorem l3key_ok (c : l1Cur) (h : Ci c.b c.i) : Ok (spec_l3key.f c) fun r => okI r.1 ∧ Ci c.b r.2.i := by
 unfold spec_l3key.f
 refine Ok.bind (l1Below_ok c 6 h (by omega)) fun r hr => ?_
 have k := hr.2.2
 refine Ok.ite (fun _ => ?_) fun _ => Ok.ite (fun _ => ?_) fun _ => ?_
 · refine Ok.bind (l1Below_ok (l1Cur.mk c.b r.2.i r.2.h) 3 k (by omega)) fun p hp => Ok.ret ⟨okI_mk (ik 3) (ik 0) okF_0 (fun x hx => ?_) (by simp), hp.2.2⟩
   rw [List.mem_singleton.1 hx]; exact u8w _
 · refine Ok.bind (l1Below_ok (l1Cur.mk c.b r.2.i r.2.h) 5 k (by omega)) fun p hp => ?_
   obtain ⟨p1, p2, p3⟩ := hp
   refine Ok.bind (ItemClean_ok _ (okI_mk (ik 2) (ik 0) ?_ nu8 (by simp))) fun b hb => Ok.ret ⟨hb, p3⟩
   rw [w64 (by omega) (by omega)]
   have key : ∀ n : Fin 5, (let x := far .quo (FloatKind.f64.nearest (((n : Nat) : Int) - 2)) (4611686018427387904 : Nat); (cn x == x && decide (x < 18446744073709551616))) = true := by decide +kernel
   have h2 := key ⟨p.1.toNat, by omega⟩
   have e : ((p.1.toNat : Nat) : Int) - 2 = p.1 - 2 := by omega
   simp only [e, Bool.and_eq_true, beq_iff_eq, decide_eq_true_eq] at h2
   exact h2
 · refine Ok.sel (R := fun y => Ci c.b y.1) (Ok.ite (fun _ => ?_) fun _ => ?_) fun y hy => ?_
   · refine Ok.bind (l1Once_ok (l1Cur.mk c.b r.2.i r.2.h) 3 k (by omega)) fun p hp => Ok.ite (fun _ => ?_) fun _ => Ok.ret hp
     exact Ok.bind (l2float_ok (l1Cur.mk c.b p.2.i p.2.h) hp) fun q hq => Ok.bind (ItemClean_ok _ (okI_mk (ik 2) (ik 0) hq.1 nu8 (by simp))) fun b hb => Ok.ret ⟨hb, hq.2⟩
   · refine Ok.sel (R := fun y => Ci c.b y.1) (Ok.ite (fun _ => ?_) fun _ => Ok.ret k) fun y hy => Ok.ret hy
     refine Ok.bind (l1Once_ok (l1Cur.mk c.b r.2.i r.2.h) 4 k (by omega)) fun p hp => Ok.ite (fun _ => ?_) fun _ => Ok.ret hp
     exact Ok.bind (l1some_ok (l1Cur.mk c.b p.2.i p.2.h) 40 hp (by omega) (by omega)) fun q hq => Ok.ret ⟨okI_mk (ik 3) (ik 0) okF_0 hq.1.2 (by have := hq.1.1; omega), hq.2⟩
   · exact Ok.bind (l1Below_ok (l1Cur.mk c.b y.1 y.2) 6 hy (by omega)) fun p hp => Ok.ret ⟨okI_mk (ik 1) (i64w _) okF_0 nu8 (by simp), hp.2.2⟩
theorem l3value_ok (c : l1Cur) (h : Ci c.b c.i) : Ok (spec_l3value.f c) fun r => okI r.1 ∧ Ci c.b r.2.i := by
 unfold spec_l3value.f
 refine Ok.bind (l1Below_ok c 5 h (by omega)) fun r hr => ?_
 have k := hr.2.2
 refine Ok.ite (fun _ => ?_) fun _ => Ok.ite (fun _ => ?_) fun _ => Ok.ite (fun _ => ?_) fun _ => ?_
 · exact Ok.bind (l1some_ok (l1Cur.mk c.b r.2.i r.2.h) 8 k (by omega) (by omega)) fun q hq => Ok.ret ⟨okI_mk (ik 3) (ik 0) okF_0 hq.1.2 (by have := hq.1.1; omega), hq.2⟩
 · exact Ok.bind (l2float_ok (l1Cur.mk c.b r.2.i r.2.h) k) fun q hq => Ok.ret ⟨okI_mk (ik 2) (ik 0) hq.1 nu8 (by simp), hq.2⟩
 · refine Ok.bind (l1Below_ok (l1Cur.mk c.b r.2.i r.2.h) 64 k (by omega)) fun p hp => Ok.ret ⟨okI_mk (ik 2) (ik 0) ?_ nu8 (by simp), hp.2.2⟩
   obtain ⟨p1, p2, p3⟩ := hp
   rw [w64 (by omega) (by omega)]
   have key : ∀ n : Fin 64, (let x := far .quo (FloatKind.f64.nearest (((n : Nat) : Int) - 32)) (4616189618054758400 : Nat); (cn x == x && decide (x < 18446744073709551616))) = true := by decide +kernel
   have h2 := key ⟨p.1.toNat, by omega⟩
   have e : ((p.1.toNat : Nat) : Int) - 32 = p.1 - 32 := by omega
   simp only [e, Bool.and_eq_true, beq_iff_eq, decide_eq_true_eq] at h2
   exact h2
 · refine Ok.sel (R := fun y => Ci c.b y.1) (Ok.ite (fun _ => ?_) fun _ => Ok.ret k) fun y hy => ?_
   · refine Ok.bind (l1Once_ok (l1Cur.mk c.b r.2.i r.2.h) 5 k (by omega)) fun p hp => Ok.ite (fun _ => ?_) fun _ => Ok.ret hp
     exact Ok.bind (l1some_ok (l1Cur.mk c.b p.2.i p.2.h) 40 hp (by omega) (by omega)) fun q hq => Ok.ret ⟨okI_mk (ik 3) (ik 0) okF_0 hq.1.2 (by have := hq.1.1; omega), hq.2⟩
   · exact Ok.bind (l1number_ok (l1Cur.mk c.b y.1 y.2) hy) fun p hp => Ok.ret ⟨okI_mk (ik 1) hp.1 okF_0 nu8 (by simp), hp.2⟩
theorem l3any_ok (c : l1Cur) (h : Ci c.b c.i) : Ok (spec_l3any.f c) fun r => okJ r.1 ∧ Ci c.b r.2.i := by
 unfold spec_l3any.f
 refine Ok.bind (l3value_ok c h) fun v hv => Ok.bind (l1Once_ok (l1Cur.mk c.b v.2.i v.2.h) 2 hv.2 (by omega)) fun o ho => ?_
 refine Ok.bind (P := fun y => Ci c.b y.1 ∧ okI (Item.mk y.2.2.1 y.2.2.2.1 y.2.2.2.2.1 y.2.2.2.2.2)) (Ok.ite (fun _ => Ok.bind (l3key_ok (l1Cur.mk c.b o.2.i o.2.h) ho) fun q hq => Ok.ret ⟨hq.2, hq.1⟩) fun _ => Ok.ret ⟨ho, hv.1⟩) fun y hy => ?_
 obtain ⟨hy0, ⟨y1, y2, y3, y4, y5⟩, y6⟩ := hy
 simp only [] at y1 y2 y3 y4 y5 y6
 refine Ok.bind (l1Below_ok (l1Cur.mk c.b y.1 y.2.1) 14 hy0 (by omega)) fun p hp => ?_
 obtain ⟨p1, p2, p3⟩ := hp
 refine Ok.bind (P := fun y => Ci c.b y.1 ∧ InK .i64 y.2.2.1 ∧ InK .i64 y.2.2.2.1 ∧ okF y.2.2.2.2.1 ∧ (∀ x ∈ y.2.2.2.2.2, InK .u8 x) ∧ y.2.2.2.2.2.length ≤ 100) ?_ fun y hy => Ok.ret ⟨⟨⟨hy.2.1, hy.2.2.1, hy.2.2.2.1, by have := hy.2.2.2.2.2; show y.2.2.2.2.2.length ≤ maxLen; simp only [maxLen]; omega, hy.2.2.2.2.1⟩, hy.2.2.2.2.2⟩, hy.1⟩
 have h100 : y.2.2.2.2.2.length ≤ 100 := by omega
 refine Ok.ite (fun _ => Ok.bind (l1Below_ok (l1Cur.mk c.b p.2.i p.2.h) 7 p3 (by omega)) fun q hq => Ok.ret ⟨hq.2.2, i64w _, y2, y3, y5, h100⟩) fun _ => ?_
 refine Ok.bind (P := fun y => Ci c.b y.1 ∧ InK .i64 y.2.2.1 ∧ InK .i64 y.2.2.2.1 ∧ okF y.2.2.2.2.1 ∧ (∀ x ∈ y.2.2.2.2.2, InK .u8 x) ∧ y.2.2.2.2.2.length ≤ 100) ?_ fun y hy => Ok.ret hy
 refine Ok.ite (fun _ => Ok.ret ⟨p3, y1, i64w _, y3, y5, h100⟩) fun _ => ?_
 refine Ok.bind (P := fun y => Ci c.b y.1 ∧ InK .i64 y.2.2.1 ∧ InK .i64 y.2.2.2.1 ∧ okF y.2.2.2.2.1 ∧ (∀ x ∈ y.2.2.2.2.2, InK .u8 x) ∧ y.2.2.2.2.2.length ≤ 100) ?_ fun y hy => Ok.ret hy
 refine Ok.ite (fun _ => Ok.bind (l2float_ok (l1Cur.mk c.b p.2.i p.2.h) p3) fun q hq => Ok.ret ⟨hq.2, y1, y2, hq.1, y5, h100⟩) fun _ => ?_
 refine Ok.bind (P := fun y => Ci c.b y.1 ∧ InK .i64 y.2.2.1 ∧ InK .i64 y.2.2.2.1 ∧ okF y.2.2.2.2.1 ∧ (∀ x ∈ y.2.2.2.2.2, InK .u8 x) ∧ y.2.2.2.2.2.length ≤ 100) ?_ fun y hy => Ok.ret hy
 refine Ok.ite (fun _ => Ok.bind (l1some_ok (l1Cur.mk c.b p.2.i p.2.h) 3 p3 (by omega) (by omega)) fun q hq => ?_) fun _ => ?_
 · obtain ⟨⟨q1, q2⟩, q3⟩ := hq
   refine Ok.grd (by simp only [Lim]; omega) (Ok.ret ⟨q3, y1, y2, y3, fun x hx => ?_, by simp; omega⟩)
   rcases List.mem_append.1 hx with hx | hx
   · exact y5 x hx
   · exact q2 x hx
 refine Ok.bind (P := fun y => Ci c.b y.1 ∧ InK .i64 y.2.2.1 ∧ InK .i64 y.2.2.2.1 ∧ okF y.2.2.2.2.1 ∧ (∀ x ∈ y.2.2.2.2.2, InK .u8 x) ∧ y.2.2.2.2.2.length ≤ 100) ?_ fun y hy => Ok.ret hy
 refine Ok.ite (fun _ => ?_) fun _ => ?_
 · refine Ok.iter (fun s => Ci c.b s.1 ∧ (∀ x ∈ s.2.2, InK .u8 x) ∧ s.2.2.length ≤ 41) (fun s => 41 - s.2.2.length) (fun s hs => ?_) _ ⟨p3, y5, by show y.2.2.2.2.2.length ≤ 41; omega⟩
   obtain ⟨s1, s2, s3⟩ := hs
   unfold spec_l3any.b0
   refine Ok.bind (l1Below_ok (l1Cur.mk c.b s.1 s.2.1) 2 s1 (by omega)) fun q hq => ?_
   obtain ⟨q1, q2, q3⟩ := hq
   rw [w64 (by omega) (by omega)]
   refine Ok.ite (fun hc => ?_) fun _ => Ok.out (Ok.ret ⟨q3, ik 3, ik 0, okF_0, s2, by show s.2.2.length ≤ 100; omega⟩)
   have hc' : (s.2.2.length : Int) < 40 + q.1 := by simpa using hc
   refine Ok.grd (by simp only [Lim, List.length_singleton]; omega) (Ok.ret ⟨⟨q3, fun x hx => ?_, by simp; omega⟩, by simp; omega⟩)
   rcases List.mem_append.1 hx with hx | hx
   · exact s2 x hx
   · rw [List.mem_singleton.1 hx]; exact u8_ok (by decide) (by decide)
 · refine Ok.bind (P := fun y => InK .i64 y.1 ∧ InK .i64 y.2.1 ∧ okF y.2.2.1 ∧ (∀ x ∈ y.2.2.2, InK .u8 x) ∧ y.2.2.2.length ≤ 100) (Ok.ite (fun _ => Ok.ret ⟨ik 2, ik 0, ⟨by decide +kernel, by decide +kernel⟩, nu8, by simp⟩) fun _ => Ok.ret ⟨y1, y2, y3, y5, h100⟩) fun z hz => Ok.ret ⟨p3, hz⟩
theorem l6tuple_ok (c : l1Cur) (h : Ci c.b c.i) : Ok (spec_l6tuple.f c) fun r => ok_Tuple r.1 ∧ Ci c.b r.2.i := by
 unfold spec_l6tuple.f
 refine Ok.bind (l1Below_ok c 9 h (by omega)) fun r hr => Ok.bind (l3key_ok (l1Cur.mk c.b r.2.i r.2.h) hr.2.2) fun p hp => Ok.bind (l3value_ok (l1Cur.mk c.b p.2.i p.2.h) hp.2) fun q hq => Ok.bind (l1Once_ok (l1Cur.mk c.b q.2.i q.2.h) 3 hq.2 (by omega)) fun z hz => ?_
 refine Ok.bind (P := fun y => Ci c.b y.1 ∧ InK .i64 y.2.2) (Ok.ite (fun _ => ?_) fun _ => Ok.ret ⟨hz, ik 0⟩) fun y hy => Ok.ret ⟨⟨i64w _, hy.2, hp.1.1, hq.1.1⟩, hy.1⟩
 exact Ok.bind (l1Below_ok (l1Cur.mk c.b z.2.i z.2.h) 9 hz (by omega)) fun v hv => Ok.ret ⟨hv.2.2, i64w _⟩
end Go.Proofs.YtegicanjlefmdaaGreat
set_option linter.unusedVariables false
set_option linter.unusedSimpArgs false
set_option linter.unusedSectionVars false
namespace Go.Proofs.YtegicanjlefmdaaGreat
open Go V Ieee
theorem iter_scanG {S O : Type} {body : S → Option (S ⊕ O)} (n : Nat) (st : Nat → S) (t : Nat → Bool) (o1 : Nat → O) (o2 : O) (h : ∀ k, k < n → body (st k) = if t k = true then some (.inl (st (k + 1))) else some (.inr (o1 k))) (hn : body (st n) = some (.inr o2)) :
    ((List.range n).all t = true ∧ iter body (st 0) = some o2) ∨ ((List.range n).all t = false ∧ ∃ k, k < n ∧ iter body (st 0) = some (o1 k)) := by
  have key : ∀ m, m ≤ n → (((List.range' (n - m) m).all t = true ∧ iter body (st (n - m)) = some o2) ∨ ((List.range' (n - m) m).all t = false ∧ ∃ k, k < n ∧ iter body (st (n - m)) = some (o1 k))) := by
    intro m
    induction m with
    | zero => intro _; left; exact ⟨rfl, by rw [iter_eq, Nat.sub_zero, hn]; rfl⟩
    | succ m ih =>
      intro hm
      have hb := h (n - (m + 1)) (by omega)
      rw [List.range'_succ, List.all_cons, show n - (m + 1) + 1 = n - m by omega] at *
      cases ht : t (n - (m + 1)) with
      | false =>
        right
        refine ⟨rfl, n - (m + 1), by omega, ?_⟩
        rw [ht, if_neg (by decide)] at hb
        exact iter_r hb
      | true =>
        rw [ht, if_pos rfl] at hb
        rw [iter_l hb, Bool.true_and]
        exact ih (by omega)
  have := key n (Nat.le_refl _)
  rw [Nat.sub_self] at this
  rw [List.range_eq_range']
  exact this
theorem iter_scan {S O : Type} {body : S → Option (S ⊕ O)} (n : Nat) (st : Nat → S) (t : Nat → Bool) (o1 o2 : O) (h : ∀ k, k < n → body (st k) = if t k = true then some (.inl (st (k + 1))) else some (.inr o1)) (hn : body (st n) = some (.inr o2)) :
    iter body (st 0) = some (if (List.range n).all t = true then o2 else o1) := by
  rcases iter_scanG n st t (fun _ => o1) o2 h hn with ⟨a, e⟩ | ⟨a, _, _, e⟩
  · rw [e, a]; rfl
  · rw [e, a]; rfl
theorem all_range {α : Type} (xs : List α) (f : α → Bool) (t : Nat → Bool) (h : ∀ k (hk : k < xs.length), t k = f xs[k]) : (List.range xs.length).all t = xs.all f := by
 rw [Bool.eq_iff_iff, List.all_eq_true, List.all_eq_true]
 constructor
 · intro ha x hx
   obtain ⟨k, hk, rfl⟩ := List.mem_iff_getElem.1 hx
   rw [← h k hk]; exact ha k (List.mem_range.2 hk)
 · intro ha k hk
   rw [h k (List.mem_range.1 hk)]; exact ha _ (List.getElem_mem _)
def okB (b : List Int) : Prop := b.length ≤ 1048576 ∧ ∀ x ∈ b, InK .u8 x
def okP (p : Page) : Prop := InK .i64 p.Lsn ∧ p.Slots.length ≤ 1048576 ∧ ∀ b ∈ p.Slots, okB b
def okH (h : Heap) : Prop := h.Pages.length ≤ 1048576 ∧ ∀ p ∈ h.Pages, okP p
def lsum (l : List (List Int)) : Nat := (l.map List.length).sum
theorem lsum_nil : lsum [] = 0 := rfl
theorem lsum_cons (x : List Int) (l : List (List Int)) : lsum (x :: l) = x.length + lsum l := by simp [lsum]
theorem lsum_app (a b : List (List Int)) : lsum (a ++ b) = lsum a + lsum b := by simp [lsum]
theorem lsum_le (c : Nat) (l : List (List Int)) (h : ∀ b ∈ l, b.length ≤ c) : lsum l ≤ c * l.length := by
 induction l with
 | nil => simp [lsum]
 | cons x l ih =>
  rw [lsum_cons, List.length_cons, Nat.mul_succ]
  have := h x (by simp)
  have := ih fun b hb => h b (by simp [hb])
  omega
theorem lsum_take (l : List (List Int)) (k : Nat) (h : k < l.length) : lsum (l.take (k + 1)) = lsum (l.take k) + l[k].length := by
 rw [List.take_succ_eq_append_getElem h, lsum_app, lsum_cons, lsum_nil]; omega
def PG (p : Page) : Bool := rin p.Lsn 0 1000000 && decide (p.Slots.length ≤ 16) && p.Slots.all (fun b => decide (b.length ≤ 92)) && !(decide (p.Slots.getLast? = some [])) && decide (1 + p.Slots.length + lsum p.Slots ≤ 240)
def PU (p : Page) : Int := if PG p = true then ((1 + p.Slots.length + lsum p.Slots : Nat) : Int) else -1
theorem pu_neg (p : Page) : decide (PU p < 0) = !PG p := by
 unfold PU
 cases PG p with
 | true => rw [if_pos rfl]; simp; omega
 | false => rfl
theorem pu_ge (p : Page) : decide (PU p ≥ 0) = PG p := by
 unfold PU
 cases PG p with
 | true => rw [if_pos rfl]; simp; omega
 | false => rfl
theorem last_at (l : List (List Int)) (h : 0 < l.length) : (((at_ l ((l.length : Int) - 1)).length : Int) == 0) = decide (l.getLast? = some []) := by
 have e : ((l.length : Int) - 1) = ((l.length - 1 : Nat) : Int) := by omega
 rw [e, at_nat l (l.length - 1) (by omega), List.getLast?_eq_getElem?, List.getElem?_eq_getElem (by omega)]
 generalize l[l.length - 1] = x
 cases x with
 | nil => rfl
 | cons a l => simp; omega
section
variable (p : Page) (hp : okP p)
include hp
theorem pu_step (hn : p.Slots.length ≤ 16) (k : Nat) (hk : k < p.Slots.length) : IntKind.wrap .i64 (((1 + p.Slots.length + lsum (p.Slots.take k) : Nat) : Int) + ((p.Slots[k]).length : Int)) = ((1 + p.Slots.length + lsum (p.Slots.take (k + 1)) : Nat) : Int) := by
 have h1 := lsum_le 1048576 (p.Slots.take k) (fun b hb => (hp.2.2 b (List.mem_of_mem_take hb)).1)
 have h2 := (hp.2.2 _ (List.getElem_mem hk)).1
 have h3 : (p.Slots.take k).length ≤ 16 := by simp; omega
 rw [lsum_take _ k hk, w64 (by omega) (by omega)]
 omega
theorem impl_PageUsed : impl_PageUsed.f p = some (PU p) := by
  unfold impl_PageUsed.f PU PG
  rw [within_rin, Option.bind_some]
  cases hr : rin p.Lsn 0 1000000 with
  | false => rfl
  | true =>
    by_cases hn : p.Slots.length ≤ 16
    · have hst : (IntKind.wrap .i64 ((1 : Int) + (p.Slots.length : Int)), (0 : Int)) = (((1 + p.Slots.length + lsum (p.Slots.take 0) : Nat) : Int), ((0 : Nat) : Int)) := by
        rw [w64 (by omega) (by omega)]; simp [lsum]
      rw [if_neg (by simp; omega), hst]
      rw [iter_scan p.Slots.length (fun k => (((1 + p.Slots.length + lsum (p.Slots.take k) : Nat) : Int), (k : Int))) (fun k => decide ((at_ p.Slots (k : Int)).length ≤ 92)) (-1) (if (decide (1 + p.Slots.length + lsum p.Slots ≤ 240) && !(decide (p.Slots.getLast? = some []))) = true then ((1 + p.Slots.length + lsum p.Slots : Nat) : Int) else -1)]
      · rw [all_range p.Slots (fun b => decide (b.length ≤ 92)) _ (fun k hk => by rw [at_nat _ k hk])]
        cases p.Slots.all (fun b => decide (b.length ≤ 92)) <;> cases decide (p.Slots.getLast? = some []) <;> simp [hn]
      · intro k hk
        unfold impl_PageUsed.b0
        simp only []
        rw [if_pos (by simp; omega), if_pos ⟨by omega, by omega⟩, at_nat _ k hk]
        by_cases hc : (p.Slots[k]).length ≤ 92
        · rw [if_neg (by simp; omega), if_pos (decide_eq_true hc), pu_step p hp hn k hk, w64 (by omega) (by omega)]; rfl
        · rw [if_pos (by simp; omega), if_neg (by rw [decide_eq_false hc]; decide)]
      · unfold impl_PageUsed.b0
        simp only []
        rw [if_neg (by simp), List.take_length]
        by_cases hs : 1 + p.Slots.length + lsum p.Slots ≤ 240
        · rw [if_neg (by simp; omega)]
          by_cases h0 : 0 < p.Slots.length
          · rw [if_pos (by simp; omega), w64 (by omega) (by omega), if_pos ⟨by omega, by omega⟩, last_at _ h0]
            cases decide (p.Slots.getLast? = some []) <;> simp [hs]
          · have : p.Slots = [] := by cases hq : p.Slots with | nil => rfl | cons a l => rw [hq] at h0; simp at h0
            rw [if_neg (by simp; omega), this]; rfl
        · rw [if_pos (by simp; omega), if_neg (by simp; omega)]; rfl
    · rw [if_pos (by simp; omega), if_neg (by simp; omega)]
theorem spec_PageUsed : spec_PageUsed.f p = some (PU p) := by
  unfold spec_PageUsed.f PU PG
  rw [in_rin, Option.bind_some]
  cases hr : rin p.Lsn 0 1000000 with
  | false => rfl
  | true =>
    by_cases hn : p.Slots.length ≤ 16
    · have hst : (IntKind.wrap .i64 ((1 : Int) + (p.Slots.length : Int)), (0 : Int)) = (((1 + p.Slots.length + lsum (p.Slots.take 0) : Nat) : Int), ((0 : Nat) : Int)) := by
        rw [w64 (by omega) (by omega)]; simp [lsum]
      rw [if_neg (by simp; omega), hst]
      rw [iter_scan p.Slots.length (fun k => (((1 + p.Slots.length + lsum (p.Slots.take k) : Nat) : Int), (k : Int))) (fun k => decide ((at_ p.Slots (k : Int)).length ≤ 92)) (-1) (if (decide (1 + p.Slots.length + lsum p.Slots ≤ 240) && !(decide (p.Slots.getLast? = some []))) = true then ((1 + p.Slots.length + lsum p.Slots : Nat) : Int) else -1)]
      · rw [all_range p.Slots (fun b => decide (b.length ≤ 92)) _ (fun k hk => by rw [at_nat _ k hk])]
        cases p.Slots.all (fun b => decide (b.length ≤ 92)) <;> cases decide (p.Slots.getLast? = some []) <;> simp [hn]
      · intro k hk
        unfold spec_PageUsed.b0
        simp only []
        rw [if_pos (by simp; omega), if_pos ⟨by omega, by omega⟩, at_nat _ k hk]
        by_cases hc : (p.Slots[k]).length ≤ 92
        · rw [if_neg (by simp; omega), if_pos ⟨by omega, by omega⟩, if_pos (decide_eq_true hc), pu_step p hp hn k hk, w64 (by omega) (by omega)]; rfl
        · rw [if_pos (by simp; omega), if_neg (by rw [decide_eq_false hc]; decide)]
      · unfold spec_PageUsed.b0
        simp only []
        rw [if_neg (by simp), List.take_length]
        by_cases h0 : 0 < p.Slots.length
        · rw [if_pos (by simp; omega), w64 (by omega) (by omega), if_pos ⟨by omega, by omega⟩, last_at _ h0]
          by_cases hs : 1 + p.Slots.length + lsum p.Slots ≤ 240
          · cases decide (p.Slots.getLast? = some []) with
            | true => simp [hs]
            | false => rw [Option.bind_some, if_neg (by decide), if_neg (by simp; omega)]; simp [hs]
          · rw [if_neg (c := (decide (1 + p.Slots.length + lsum p.Slots ≤ 240) && !(decide (p.Slots.getLast? = some []))) = true) (by simp; omega)]
            cases decide (p.Slots.getLast? = some []) with
            | true => simp
            | false => rw [Option.bind_some, if_neg (by decide), if_pos (by simp; omega)]; rfl
        · have : p.Slots = [] := by cases hq : p.Slots with | nil => rfl | cons a l => rw [hq] at h0; simp at h0
          rw [if_neg (by simp; omega), this]; rfl
    · rw [if_pos (by simp; omega), if_neg (by simp; omega)]
end
end Go.Proofs.YtegicanjlefmdaaGreat
set_option linter.unusedVariables false
set_option linter.unusedSimpArgs false
set_option linter.unusedSectionVars false
namespace Go.Proofs.YtegicanjlefmdaaGreat
open Go V Ieee
noncomputable def SOK (b : List Int) : Bool := (TR b).2 || decide (b.length = 0)
noncomputable def POK (p : Page) : Bool := PG p && p.Slots.all SOK
noncomputable def HOK (h : Heap) : Bool := decide (h.Pages.length ≤ 16) && h.Pages.all POK
theorem len0 (b : List Int) : ((b.length : Int) == 0) = decide (b.length = 0) := by
 cases b with
 | nil => rfl
 | cons a l => simp; omega
theorem impl_HeapOk_1_1 (b : List Int) (hb : okB b) : impl_HeapOk_1_1.f b = some (SOK b) := by
 unfold impl_HeapOk_1_1.f SOK
 rw [impl_TupleRead b hb.2 (by have := hb.1; omega), Option.bind_some, len0]
theorem areAllB (l : List (List Int)) (hl : l.length ≤ 1048576) (f : List Int → Option Bool) (g : List Int → Bool) (h : ∀ b ∈ l, f b = some (g b)) : impl_areAll_byte.f l f = some (l.all g) := by
 unfold impl_areAll_byte.f slices_ContainsFunc_byte_byte.f slices_IndexFunc_byte_byte.f
 have hs := iter_scanG (body := slices_IndexFunc_byte_byte.b0 l (fun x0 => impl_areAll_byte_1.f x0 f)) l.length (fun k => (k : Int)) (fun k => g (at_ l (k : Int))) (fun k => (k : Int)) (-1) (fun k hk => by
  unfold slices_IndexFunc_byte_byte.b0 impl_areAll_byte_1.f
  simp only []
  rw [if_pos (by simp; omega), if_pos ⟨by omega, by omega⟩, at_nat _ k hk, h _ (List.getElem_mem hk), Option.bind_some, Option.bind_some, w64 (by omega) (by omega)]
  cases g l[k] <;> rfl) (by
  unfold slices_IndexFunc_byte_byte.b0
  simp only []
  rw [if_neg (by simp)]; rfl)
 rw [all_range l g _ (fun k hk => by rw [at_nat _ k hk])] at hs
 rcases hs with ⟨a, e⟩ | ⟨a, k, hk, e⟩
 · rw [show ((0 : Int)) = ((0 : Nat) : Int) from rfl] at *
   rw [e, a]; rfl
 · rw [show ((0 : Int)) = ((0 : Nat) : Int) from rfl] at *
   rw [e, a, Option.bind_some, Option.bind_some, decide_eq_true (by omega)]; rfl
theorem areAllP (l : List Page) (hl : l.length ≤ 1048576) (f : Page → Option Bool) (g : Page → Bool) (h : ∀ b ∈ l, f b = some (g b)) : impl_areAll_impl_Page.f l f = some (l.all g) := by
 unfold impl_areAll_impl_Page.f slices_ContainsFunc_impl_Page_impl_Page.f slices_IndexFunc_impl_Page_impl_Page.f
 have hs := iter_scanG (body := slices_IndexFunc_impl_Page_impl_Page.b0 l (fun x0 => impl_areAll_impl_Page_1.f x0 f)) l.length (fun k => (k : Int)) (fun k => g (at_ l (k : Int))) (fun k => (k : Int)) (-1) (fun k hk => by
  unfold slices_IndexFunc_impl_Page_impl_Page.b0 impl_areAll_impl_Page_1.f
  simp only []
  rw [if_pos (by simp; omega), if_pos ⟨by omega, by omega⟩, at_nat _ k hk, h _ (List.getElem_mem hk), Option.bind_some, Option.bind_some, w64 (by omega) (by omega)]
  cases g l[k] <;> rfl) (by
  unfold slices_IndexFunc_impl_Page_impl_Page.b0
  simp only []
  rw [if_neg (by simp)]; rfl)
 rw [all_range l g _ (fun k hk => by rw [at_nat _ k hk])] at hs
 rcases hs with ⟨a, e⟩ | ⟨a, k, hk, e⟩
 · rw [show ((0 : Int)) = ((0 : Nat) : Int) from rfl] at *
   rw [e, a]; rfl
 · rw [show ((0 : Int)) = ((0 : Nat) : Int) from rfl] at *
   rw [e, a, Option.bind_some, Option.bind_some, decide_eq_true (by omega)]; rfl
theorem impl_HeapOk (h : Heap) (hh : okH h) : impl_HeapOk.f h = some (HOK h) := by
 unfold impl_HeapOk.f HOK
 rw [areAllP h.Pages hh.1 _ POK (fun p hp => by
  have hp' := hh.2 p hp
  unfold impl_HeapOk_1.f POK
  rw [impl_PageUsed p hp', Option.bind_some, pu_ge, areAllB p.Slots hp'.2.1 _ SOK (fun b hb => impl_HeapOk_1_1 b (hp'.2.2 b hb))]
  cases PG p <;> cases p.Slots.all SOK <;> rfl)]
 by_cases hl : h.Pages.length ≤ 16
 · rw [if_pos (by simp; omega), decide_eq_true hl]; rfl
 · rw [if_neg (by simp; omega), decide_eq_false hl]; rfl
theorem spec_HeapOk (h : Heap) (hh : okH h) : spec_HeapOk.f h = some (HOK h) := by
 unfold spec_HeapOk.f HOK
 by_cases hl : h.Pages.length ≤ 16
 · rw [if_neg (by simp; omega), decide_eq_true hl, Bool.true_and, show ((0 : Int)) = ((0 : Nat) : Int) from rfl]
   rw [iter_scan h.Pages.length (fun k => (k : Int)) (fun k => POK (at_ h.Pages (k : Int))) false true]
   · rw [all_range h.Pages POK _ (fun k hk => by rw [at_nat _ k hk])]
     cases h.Pages.all POK <;> rfl
   · intro k hk
     have hp := hh.2 _ (List.getElem_mem hk)
     have hsl := hp.2.1
     unfold spec_HeapOk.b0
     rw [if_pos (by simp; omega), if_pos ⟨by omega, by omega⟩, at_nat _ k hk, spec_PageUsed _ hp, Option.bind_some, pu_neg]
     unfold POK
     cases hg : PG h.Pages[k] with
     | false => rfl
     | true =>
      rw [if_neg (by decide), Bool.true_and, show ((0 : Int)) = ((0 : Nat) : Int) from rfl]
      rw [iter_scan (h.Pages[k]).Slots.length (fun j => (j : Int)) (fun j => SOK (at_ (h.Pages[k]).Slots (j : Int))) (Sum.inr false) (Sum.inl ((k : Int) + 1))]
      · rw [all_range _ SOK _ (fun j hj => by rw [at_nat _ j hj])]
        cases (h.Pages[k]).Slots.all SOK <;> rfl
      · intro j hj
        have hb := hp.2.2 _ (List.getElem_mem hj)
        unfold spec_HeapOk.b1
        rw [at_nat _ k hk, if_pos (by simp; omega), if_pos ⟨by omega, by omega⟩, at_nat _ j hj, spec_TupleRead _ hb.2, Option.bind_some, if_pos ⟨by omega, by omega⟩, w64 (by omega) (by omega)]
        unfold SOK
        have e : decide ((((h.Pages[k]).Slots[j]).length : Int) > 0) = !decide (((h.Pages[k]).Slots[j]).length = 0) := by
         by_cases hz : ((h.Pages[k]).Slots[j]).length = 0
         · rw [decide_eq_true hz, decide_eq_false (by omega)]; rfl
         · rw [decide_eq_false hz, decide_eq_true (by omega)]; rfl
        rw [e]
        cases (TR (h.Pages[k]).Slots[j]).2 <;> cases decide (((h.Pages[k]).Slots[j]).length = 0) <;> rfl
      · unfold spec_HeapOk.b1
        rw [at_nat _ k hk, if_neg (by simp), w64 (by omega) (by omega)]; rfl
   · unfold spec_HeapOk.b0
     rw [if_neg (by simp)]; rfl
 · rw [if_pos (by simp; omega), decide_eq_false hl]; rfl
noncomputable def HT (h : Heap) (i j : Int) : Tuple × Bool := if rin i 0 ((h.Pages.length : Int) - 1) = true ∧ rin j 0 (((at_ h.Pages i).Slots.length : Int) - 1) = true then TR (at_ (at_ h.Pages i).Slots j) else (T0, false)
noncomputable def HA (h : Heap) (i j : Int) : Tuple × Bool := if HOK h = true then HT h i j else (T0, false)
theorem at_in {α : Type} [Inhabited α] (l : List α) (i : Int) (h : rin i 0 ((l.length : Int) - 1) = true) : 0 ≤ i ∧ i < (l.length : Int) ∧ at_ l i ∈ l := by
 have := rin_iff.1 h
 refine ⟨by omega, by omega, ?_⟩
 have e : i = ((i.toNat : Nat) : Int) := by omega
 rw [e, at_nat l i.toNat (by omega)]; exact List.getElem_mem _
theorem impl_at (h : Heap) (i j : Int) (hh : okH h) : impl_Heap_at.f h i j = some (HT h i j) := by
 unfold impl_Heap_at.f HT
 have h1 := hh.1
 rw [w64 (n := (h.Pages.length : Int) - 1) (by omega) (by omega), within_rin, Option.bind_some]
 cases hr : rin i 0 ((h.Pages.length : Int) - 1) with
 | false => rfl
 | true =>
  obtain ⟨a, b, m⟩ := at_in _ _ hr
  have hp := hh.2 _ m
  have h2 := hp.2.1
  rw [if_neg (by decide), if_pos ⟨a, b⟩, w64 (n := ((at_ h.Pages i).Slots.length : Int) - 1) (by omega) (by omega), within_rin, Option.bind_some, Option.bind_some]
  cases hs : rin j 0 (((at_ h.Pages i).Slots.length : Int) - 1) with
  | false => rfl
  | true =>
   obtain ⟨a', b', m'⟩ := at_in _ _ hs
   have hb := hp.2.2 _ m'
   rw [if_neg (by decide), if_pos ⟨a, b⟩, if_pos ⟨a', b'⟩, impl_TupleRead _ hb.2 (by have := hb.1; omega), if_pos ⟨rfl, rfl⟩]; rfl
theorem spec_HeapAt (h : Heap) (i j : Int) (hh : okH h) : spec_HeapAt.f h i j = some (HA h i j) := by
 unfold spec_HeapAt.f HA HT
 have h1 := hh.1
 rw [spec_HeapOk h hh, Option.bind_some, w64 (n := (h.Pages.length : Int) - 1) (by omega) (by omega), in_rin, Option.bind_some]
 cases HOK h with
 | false => rfl
 | true =>
  rw [if_neg (by decide), if_pos rfl, Option.bind_some]
  cases hr : rin i 0 ((h.Pages.length : Int) - 1) with
  | false => rfl
  | true =>
   obtain ⟨a, b, m⟩ := at_in _ _ hr
   have hp := hh.2 _ m
   have h2 := hp.2.1
   rw [if_neg (by decide), if_pos ⟨a, b⟩, w64 (n := ((at_ h.Pages i).Slots.length : Int) - 1) (by omega) (by omega), in_rin, Option.bind_some, Option.bind_some]
   cases hs : rin j 0 (((at_ h.Pages i).Slots.length : Int) - 1) with
   | false => rfl
   | true =>
    obtain ⟨a', b', m'⟩ := at_in _ _ hs
    have hb := hp.2.2 _ m'
    rw [if_neg (by decide), if_pos ⟨a, b⟩, if_pos ⟨a', b'⟩, spec_TupleRead _ hb.2, if_pos ⟨rfl, rfl⟩]; rfl
theorem slots_copy (p : Page) (hp : okP p) : impl_Page_slots.f p = some p.Slots := by
 unfold impl_Page_slots.f
 have h1 := hp.2.1
 have hst : (([] : List (List Int)), (0 : Int)) = (p.Slots.take 0, ((0 : Nat) : Int)) := rfl
 have he : p.Slots = p.Slots.take p.Slots.length := by rw [List.take_length]
 rw [hst]
 conv => rhs; rw [he]
 refine iter_for p.Slots.length (fun k => (p.Slots.take k, (k : Int))) _ (fun k hk => ?_) ?_
 · have hb := (hp.2.2 _ (List.getElem_mem hk)).1
   unfold impl_Page_slots.b0
   simp only []
   rw [if_pos (by simp; omega), if_pos ⟨by omega, by omega⟩, at_nat _ k hk, cloneB _ (by omega), Option.bind_some, if_pos (by simp [Lim]; omega), w64 (by omega) (by omega), ← List.take_succ_eq_append_getElem hk]
   rfl
 · unfold impl_Page_slots.b0
   simp only []
   rw [if_neg (by simp)]; rfl
theorem spec_l7copy (p : Page) (hp : okP p) : spec_l7copy.f p = some p := by
 unfold spec_l7copy.f
 have h1 := hp.2.1
 have hst : ((0 : Int), ([] : List (List Int))) = (((0 : Nat) : Int), p.Slots.take 0) := rfl
 have he : p = Page.mk p.Lsn (p.Slots.take p.Slots.length) := by rw [List.take_length]
 rw [hst]
 conv => rhs; rw [he]
 refine iter_for p.Slots.length (fun k => ((k : Int), p.Slots.take k)) _ (fun k hk => ?_) ?_
 · have hb := (hp.2.2 _ (List.getElem_mem hk)).1
   unfold spec_l7copy.b0
   simp only []
   rw [if_pos (by simp; omega), if_pos ⟨by omega, by omega⟩, at_nat _ k hk, if_pos (by simp [Lim]; omega), if_pos (by simp [Lim]; omega), w64 (by omega) (by omega), List.nil_append, ← List.take_succ_eq_append_getElem hk]
   rfl
 · unfold spec_l7copy.b0
   simp only []
   rw [if_neg (by simp)]; rfl
theorem spec_l10copy (h : Heap) (hh : okH h) : spec_l10copy.f h = some h := by
 unfold spec_l10copy.f
 have h1 := hh.1
 have hst : ((0 : Int), ([] : List Page)) = (((0 : Nat) : Int), h.Pages.take 0) := rfl
 have he : h = Heap.mk (h.Pages.take h.Pages.length) := by rw [List.take_length]
 rw [hst]
 conv => rhs; rw [he]
 refine iter_for h.Pages.length (fun k => ((k : Int), h.Pages.take k)) _ (fun k hk => ?_) ?_
 · have hb := hh.2 _ (List.getElem_mem hk)
   unfold spec_l10copy.b0
   simp only []
   rw [if_pos (by simp; omega), if_pos ⟨by omega, by omega⟩, at_nat _ k hk, spec_l7copy _ hb, Option.bind_some, if_pos (by simp [Lim]; omega), w64 (by omega) (by omega), ← List.take_succ_eq_append_getElem hk]
   rfl
 · unfold spec_l10copy.b0
   simp only []
   rw [if_neg (by simp)]; rfl
def pad (l : List (List Int)) (i : Nat) : List (List Int) := l ++ List.replicate (i + 1 - l.length) []
theorem pad_len (l : List (List Int)) (i : Nat) : i < (pad l i).length := by simp [pad]; omega
theorem pad_id (l : List (List Int)) (i : Nat) (h : i < l.length) : pad l i = l := by
 unfold pad; rw [show i + 1 - l.length = 0 by omega]; simp
def PS (p : Page) (i : Nat) (b : List Int) (n : Int) : Page := Page.mk n ((pad p.Slots i).set i b)
def P0 : Page := Page.mk 0 []
def PP (p : Page) (i : Int) (b : List Int) (n : Int) : Page × Bool := if PG p = true ∧ rin i 0 15 = true ∧ b.length ≠ 0 ∧ rin n 1 1000000 = true ∧ PG (PS p i.toNat b n) = true then (PS p i.toNat b n, true) else (P0, false)
theorem pad_loop {O : Type} {body : List (List Int) → Option (List (List Int) ⊕ O)} (l : List (List Int)) (i : Nat) (o : O) (h : ∀ k : Nat, k ≤ i → l.length ≤ k → body (l ++ List.replicate (k - l.length) []) = some (.inl (l ++ List.replicate (k + 1 - l.length) []))) (hn : body (pad l i) = some (.inr o)) : iter body l = some o := by
 by_cases hi : i < l.length
 · rw [pad_id l i hi] at hn; exact iter_r hn
 · have e0 : l = l ++ List.replicate (l.length + 0 - l.length) [] := by simp
   conv => lhs; arg 2; rw [e0]
   refine iter_for (i + 1 - l.length) (fun k => l ++ List.replicate (l.length + k - l.length) []) o (fun k hk => ?_) ?_
   · exact h (l.length + k) (by omega) (by omega)
   · rw [show l.length + (i + 1 - l.length) - l.length = i + 1 - l.length by omega]; exact hn
theorem ps_ok (p : Page) (i : Nat) (b : List Int) (n : Int) (hp : okP p) (hb : okB b) (hn : InK .i64 n) (hi : i ≤ 15) : okP (PS p i b n) := by
 refine ⟨hn, ?_, ?_⟩
 · have := hp.2.1
   simp [PS, pad]; omega
 · intro y hy
   rcases List.mem_or_eq_of_mem_set hy with hy | rfl
   · unfold pad at hy
     rcases List.mem_append.1 hy with hy | hy
     · exact hp.2.2 y hy
     · rw [(List.mem_replicate.1 hy).2]; exact ⟨by simp, fun x hx => by cases hx⟩
   · exact hb
theorem impl_PagePut (p : Page) (i : Int) (b : List Int) (n : Int) (hp : okP p) (hb : okB b) (hn : InK .i64 n) : impl_PagePut.f p i b n = some (PP p i b n) := by
 unfold impl_PagePut.f PP
 have e1 : impl_isSlot.f i = some (rin i 0 15) := rfl
 have e2 : impl_isLsn.f n = some (rin n 1 1000000) := rfl
 rw [impl_PageUsed p hp, Option.bind_some, pu_neg, e1, e2]
 cases hg : PG p with
 | false => rw [if_neg (c := false = true ∧ _) (by simp)]; rfl
 | true =>
  cases hr : rin i 0 15 with
  | false => rw [if_neg (c := true = true ∧ false = true ∧ _) (by simp)]; rfl
  | true =>
   by_cases hl : b.length = 0
   · rw [if_neg (c := true = true ∧ true = true ∧ _) (fun h => h.2.2.1 hl), len0, decide_eq_true hl]; rfl
   · cases hs : rin n 1 1000000 with
     | false => rw [if_neg (c := true = true ∧ true = true ∧ _ ∧ false = true ∧ _) (by simp), len0, decide_eq_false hl]; rfl
     | true =>
      rw [if_neg (by decide), Option.bind_some, Option.bind_some, len0, decide_eq_false hl, if_neg (by decide), Option.bind_some, if_neg (by decide), slots_copy p hp, Option.bind_some]
      have hi := rin_iff.1 hr
      have ei : i = ((i.toNat : Nat) : Int) := by omega
      have hps := ps_ok p i.toNat b n hp hb hn (by omega)
      have hsl := hp.2.1
      refine pad_loop p.Slots i.toNat _ (fun k hk hk2 => ?_) ?_
      · unfold impl_PagePut.b0
        rw [if_pos (by simp; omega), if_pos (by simp [Lim]; omega), List.append_assoc, ← List.replicate_succ', show k - p.Slots.length + 1 = k + 1 - p.Slots.length by omega]
      · unfold impl_PagePut.b0
        have hpl := pad_len p.Slots i.toNat
        rw [if_neg (by simp; omega), cloneB b (by have := hb.1; omega), Option.bind_some, if_pos ⟨by omega, by omega⟩]
        show (((impl_PageUsed.f (PS p i.toNat b n)).bind fun r95 => (if (decide (r95 < (0 : Int))) = true then (some (P0, false)) else (some (PS p i.toNat b n, true)))).bind fun o => some (Sum.inr o)) = _
        rw [impl_PageUsed _ hps, Option.bind_some, pu_neg]
        by_cases hq : PG (PS p i.toNat b n) = true
        · rw [hq, if_neg (by decide), if_pos ⟨rfl, rfl, hl, rfl, rfl⟩]; rfl
        · rw [eq_false_of_ne_true hq, if_pos (by decide), if_neg (by simp)]; rfl
theorem pg_slot {p : Page} (h : PG p = true) : ∀ b ∈ p.Slots, b.length ≤ 92 := by
 intro b hb
 unfold PG at h
 simp only [Bool.and_eq_true, List.all_eq_true] at h
 have := h.1.1.2 b hb
 simpa using this
theorem spec_PagePut (p : Page) (i : Int) (b : List Int) (n : Int) (hp : okP p) (hb : okB b) (hn : InK .i64 n) : spec_PagePut.f p i b n = some (PP p i b n) := by
 unfold spec_PagePut.f PP
 rw [spec_PageUsed p hp, Option.bind_some, pu_neg, in_rin, in_rin]
 cases hg : PG p with
 | false => rw [if_neg (c := false = true ∧ _) (by simp)]; rfl
 | true =>
  cases hr : rin i 0 15 with
  | false => rw [if_neg (c := true = true ∧ false = true ∧ _) (by simp)]; rfl
  | true =>
   by_cases hl : b.length = 0
   · rw [if_neg (c := true = true ∧ true = true ∧ _) (fun h => h.2.2.1 hl), len0, decide_eq_true hl]; rfl
   · have hi := rin_iff.1 hr
     have hpl := pad_len p.Slots i.toNat
     by_cases h92 : b.length ≤ 92
     · have e92 : decide ((b.length : Int) > 92) = false := decide_eq_false (by omega)
       cases hs : rin n 1 1000000 with
       | false => rw [if_neg (c := true = true ∧ true = true ∧ _ ∧ false = true ∧ _) (by simp), len0, decide_eq_false hl, e92]; rfl
       | true =>
        rw [if_neg (by decide), Option.bind_some, Option.bind_some, len0, decide_eq_false hl, e92, if_neg (by decide), Option.bind_some, if_neg (by decide), spec_l7copy p hp, Option.bind_some]
        have ei : i = ((i.toNat : Nat) : Int) := by omega
        have hps := ps_ok p i.toNat b n hp hb hn (by omega)
        have hsl := hp.2.1
        refine pad_loop p.Slots i.toNat _ (fun k hk hk2 => ?_) ?_
        · unfold spec_PagePut.b0
          rw [if_pos (by simp; omega), if_pos (by simp [Lim]; omega), List.append_assoc, ← List.replicate_succ', show k - p.Slots.length + 1 = k + 1 - p.Slots.length by omega]
        · unfold spec_PagePut.b0
          rw [if_neg (by simp; omega), if_pos (by simp [Lim]; omega), if_pos ⟨by omega, by omega⟩]
          show (((spec_PageUsed.f (PS p i.toNat b n)).bind fun r95 => (if (decide (r95 < (0 : Int))) = true then (some (P0, false)) else (some (PS p i.toNat b n, true)))).bind fun o => some (Sum.inr o)) = _
          rw [spec_PageUsed _ hps, Option.bind_some, pu_neg]
          by_cases hq : PG (PS p i.toNat b n) = true
          · rw [hq, if_neg (by decide), if_pos ⟨rfl, rfl, hl, rfl, rfl⟩]; rfl
          · rw [eq_false_of_ne_true hq, if_pos (by decide), if_neg (by simp)]; rfl
     · have e92 : decide ((b.length : Int) > 92) = true := decide_eq_true (by omega)
       rw [if_neg (c := true = true ∧ true = true ∧ _) (fun h => h92 (pg_slot h.2.2.2.2 b (List.mem_set hpl b))), len0, decide_eq_false hl, e92]
       rfl
end Go.Proofs.YtegicanjlefmdaaGreat
set_option linter.unusedVariables false
set_option linter.unusedSimpArgs false
set_option linter.unusedSectionVars false
namespace Go.Proofs.YtegicanjlefmdaaGreat
open Go V Ieee
def H0 : Heap := Heap.mk []
def hxs (h : Heap) (i : Int) : List Page := if i = (h.Pages.length : Int) then h.Pages ++ [P0] else h.Pages
def HW (h : Heap) (i : Int) (p : Page) : Heap := Heap.mk ((hxs h i).set i.toNat p)
theorem hxs_len (h : Heap) (i : Int) (hi : 0 ≤ i) (hj : i ≤ (h.Pages.length : Int)) : i < ((hxs h i).length : Int) := by
 unfold hxs; split
 · simp; omega
 · omega
theorem impl_with (h : Heap) (i : Int) (p : Page) (hh : okH h) (hi : 0 ≤ i) (hj : i ≤ (h.Pages.length : Int)) : impl_Heap_with.f h i p = some (HW h i p) := by
 unfold impl_Heap_with.f
 have h1 := hh.1
 have hst : ((0 : Int), ([] : List Page)) = (((0 : Nat) : Int), h.Pages.take 0) := rfl
 rw [hst]
 refine iter_for h.Pages.length (fun k => ((k : Int), h.Pages.take k)) _ (fun k hk => ?_) ?_
 · have hb := hh.2 _ (List.getElem_mem hk)
   unfold impl_Heap_with.b0
   simp only []
   rw [if_pos (by simp; omega), if_pos ⟨by omega, by omega⟩, at_nat _ k hk, slots_copy _ hb, Option.bind_some, if_pos (by simp [Lim]; omega), w64 (by omega) (by omega)]
   show some (Sum.inl (((k + 1 : Nat) : Int), h.Pages.take k ++ [h.Pages[k]])) = _
   rw [← List.take_succ_eq_append_getElem hk]
 · unfold impl_Heap_with.b0
   simp only []
   rw [if_neg (by simp), List.take_length]
   have e : (if (i == (h.Pages.length : Int)) = true then (if h.Pages.length + ([(Page.mk (0 : Int) ([] : (List (List Int))))]).length ≤ Lim then (some (h.Pages ++ [(Page.mk (0 : Int) ([] : (List (List Int))))])) else none) else (some h.Pages)) = some (hxs h i) := by
    unfold hxs
    by_cases he : i = (h.Pages.length : Int)
    · rw [if_pos (by simp [he]), if_pos he, if_pos (by simp [Lim]; omega)]; rfl
    · rw [if_neg (by simp [he]), if_neg he]
   rw [e, Option.bind_some, if_pos ⟨hi, hxs_len h i hi hj⟩]; rfl
def pgAt (h : Heap) (i : Int) : Page := if i = (h.Pages.length : Int) then P0 else at_ h.Pages i
theorem okP0 : okP P0 := ⟨i64_ok (by decide) (by decide), by simp [P0], fun b hb => by cases hb⟩
theorem pgAt_ok (h : Heap) (i : Int) (hh : okH h) (hi : 0 ≤ i) (hj : i ≤ (h.Pages.length : Int)) : okP (pgAt h i) := by
 unfold pgAt
 split
 · exact okP0
 · exact hh.2 _ (at_in _ i (rin_iff.2 ⟨hi, by omega⟩)).2.2
def HP (h : Heap) (i j : Int) (b : List Int) (n : Int) : Heap × Bool := if 0 ≤ i ∧ i ≤ (h.Pages.length : Int) ∧ i < 16 ∧ (PP (pgAt h i) j b n).2 = true then (HW h i (PP (pgAt h i) j b n).1, true) else (H0, false)
theorem impl_put (h : Heap) (i j : Int) (b : List Int) (n : Int) (hh : okH h) (h16 : h.Pages.length ≤ 16) (hb : okB b) (hn : InK .i64 n) : impl_Heap_put.f h i j b n = some (HP h i j b n) := by
  unfold impl_Heap_put.f HP
  rw [w64 (by omega) (by omega), within_rin, Option.bind_some]
  cases hr : rin i 0 ((h.Pages.length : Int) - 1) with
  | true =>
    have hi := rin_iff.1 hr
    have hne : ¬ i = (h.Pages.length : Int) := by omega
    have hpa : pgAt h i = at_ h.Pages i := if_neg hne
    have hok := pgAt_ok h i hh (by omega) (by omega)
    rw [if_pos rfl, if_pos ⟨by omega, by omega⟩, Option.bind_some, sel_inl]
    show ((impl_PagePut.f (at_ h.Pages i) j b n).bind _) = _
    rw [← hpa, impl_PagePut _ _ _ _ hok hb hn, Option.bind_some]
    by_cases hq : (PP (pgAt h i) j b n).2 = true
    · rw [hq, if_neg (by decide), impl_with h i _ hh (by omega) (by omega), if_pos ⟨by omega, by omega, by omega, rfl⟩]; rfl
    · rw [eq_false_of_ne_true hq, if_pos (by decide), if_neg (by simp)]; rfl
  | false =>
    rw [if_neg (by decide)]
    by_cases hne : i = (h.Pages.length : Int)
    · by_cases h6 : i < 16
      · rw [if_neg (by simp; omega), Option.bind_some, sel_inl]
        have hpa : pgAt h i = P0 := if_pos hne
        have hok := pgAt_ok h i hh (by omega) (by omega)
        show ((impl_PagePut.f P0 j b n).bind _) = _
        rw [← hpa, impl_PagePut _ _ _ _ hok hb hn, Option.bind_some]
        by_cases hq : (PP (pgAt h i) j b n).2 = true
        · rw [hq, if_neg (by decide), impl_with h i _ hh (by omega) (by omega), if_pos ⟨by omega, by omega, by omega, rfl⟩]; rfl
        · rw [eq_false_of_ne_true hq, if_pos (by decide), if_neg (by simp)]; rfl
      · rw [if_pos (by simp; omega), if_neg (fun hh => h6 hh.2.2.1)]; rfl
    · have hno : ¬ (0 ≤ i ∧ i ≤ (h.Pages.length : Int) - 1) := fun hh => by
        rw [rin_iff.2 hh] at hr; cases hr
      rw [if_pos (by simp; left; exact hne), if_neg (fun hh => hno ⟨hh.1, by omega⟩)]; rfl
noncomputable def HPut (h : Heap) (i j : Int) (t : Tuple) (n : Int) : Heap × Bool := if HOK h = true ∧ TOK t = true ∧ (HT h i j).2 = false then HP h i j (TB t) n else (H0, false)
theorem hok16 {h : Heap} (hk : HOK h = true) : h.Pages.length ≤ 16 := by
 unfold HOK at hk
 simp only [Bool.and_eq_true, decide_eq_true_eq] at hk
 exact hk.1
theorem tb_ok (t : Tuple) (ht : ok_Tuple t) : okB (TB t) := ⟨by have := tb_len t; omega, tb_u8 t ht⟩
theorem impl_HeapPut (h : Heap) (i j : Int) (t : Tuple) (n : Int) (hh : okH h) (ht : ok_Tuple t) (hn : InK .i64 n) : impl_HeapPut.f h i j t n = some (HPut h i j t n) := by
 unfold impl_HeapPut.f HPut
 rw [impl_at h i j hh, Option.bind_some, impl_HeapOk h hh, Option.bind_some, impl_TupleOk t ht, impl_TupleBytes t ht]
 cases hk : HOK h with
 | false => rw [if_neg (c := false = true ∧ _) (by simp)]; rfl
 | true =>
  cases TOK t with
  | false => rw [if_neg (c := true = true ∧ false = true ∧ _) (by simp)]; rfl
  | true =>
   cases (HT h i j).2 with
   | true => rw [if_neg (c := true = true ∧ true = true ∧ true = false) (by simp)]; rfl
   | false =>
    rw [if_neg (by decide), Option.bind_some, Option.bind_some, if_neg (by decide), Option.bind_some, impl_put h i j _ n hh (hok16 hk) (tb_ok t ht) hn, if_pos ⟨rfl, rfl, rfl⟩]; rfl
theorem hx_at (h : Heap) (i : Int) (hi : 0 ≤ i) (hj : i ≤ (h.Pages.length : Int)) : at_ (hxs h i) i = pgAt h i := by
 unfold hxs pgAt
 split
 · rename_i e
   rw [e, at_nat _ _ (by simp)]; simp
 · rfl
theorem spec_HeapPut (h : Heap) (i j : Int) (t : Tuple) (n : Int) (hh : okH h) (ht : ok_Tuple t) (hn : InK .i64 n) : spec_HeapPut.f h i j t n = some (HPut h i j t n) := by
 unfold spec_HeapPut.f HPut HP
 have h1 := hh.1
 rw [spec_HeapAt h i j hh, Option.bind_some, spec_HeapOk h hh, Option.bind_some, spec_TupleOk t ht, spec_TupleBytes t ht]
 unfold HA
 cases hk : HOK h with
 | false => rw [if_neg (c := false = true ∧ _) (by simp)]; rfl
 | true =>
  cases TOK t with
  | false => rw [if_neg (c := true = true ∧ false = true ∧ _) (by simp)]; rfl
  | true =>
   rw [if_pos rfl]
   cases (HT h i j).2 with
   | true => rw [if_neg (c := true = true ∧ true = true ∧ true = false) (by simp)]; rfl
   | false =>
    rw [if_neg (by decide), Option.bind_some, Option.bind_some, in_rin, if_neg (by decide), Option.bind_some, Option.bind_some, if_pos (c := true = true ∧ true = true ∧ false = false) ⟨rfl, rfl, rfl⟩]
    by_cases hr : rin i 0 (h.Pages.length : Int) = true
    · have hi := rin_iff.1 hr
      by_cases h6 : i < 16
      · rw [hr, if_neg (by simp; omega), spec_l10copy h hh, Option.bind_some]
        have e : (if (i == (h.Pages.length : Int)) = true then (if h.Pages.length + ([(Page.mk (0 : Int) ([] : (List (List Int))))]).length ≤ Lim then (some (h.Pages ++ [(Page.mk (0 : Int) ([] : (List (List Int))))])) else none) else (some h.Pages)) = some (hxs h i) := by
         unfold hxs
         by_cases he : i = (h.Pages.length : Int)
         · rw [if_pos (by simp [he]), if_pos he, if_pos (by simp [Lim]; omega)]; rfl
         · rw [if_neg (by simp [he]), if_neg he]
        have hl := hxs_len h i hi.1 hi.2
        rw [e, Option.bind_some, if_pos ⟨hi.1, hl⟩, Option.bind_some, hx_at h i hi.1 hi.2, spec_PagePut _ _ _ _ (pgAt_ok h i hh hi.1 hi.2) (tb_ok t ht) hn, Option.bind_some, Option.bind_some]
        by_cases hq : (PP (pgAt h i) j (TB t) n).2 = true
        · show (if (!(PP (pgAt h i) j (TB t) n).2) = true then _ else _) = _
          rw [hq, if_neg (by decide), if_pos ⟨hi.1, hl⟩, if_pos ⟨hi.1, hi.2, h6, rfl⟩]; rfl
        · show (if (!(PP (pgAt h i) j (TB t) n).2) = true then _ else _) = _
          rw [eq_false_of_ne_true hq, if_pos (by decide), if_neg (by simp)]; rfl
      · rw [if_pos (by simp; omega), if_neg (fun hh => h6 hh.2.2.1)]; rfl
    · rw [eq_false_of_ne_true hr, if_pos (by simp), if_neg (fun hh => hr (rin_iff.2 ⟨hh.1, hh.2.1⟩))]; rfl
noncomputable def TM (h : Heap) (i j x : Int) : Tuple := Tuple.mk (HA h i j).1.Xmin x (HA h i j).1.Key (HA h i j).1.Value
noncomputable def HMk (h : Heap) (i j x n : Int) : Heap × Bool := if (HA h i j).2 = true ∧ rin x 0 400 = true ∧ rin n 1 1000000 = true then (Heap.mk (h.Pages.set i.toNat (Page.mk n ((at_ h.Pages i).Slots.set j.toNat (TB (TM h i j x))))), true) else (H0, false)
theorem ha_yes {h : Heap} {i j : Int} (hy : (HA h i j).2 = true) : HOK h = true ∧ rin i 0 ((h.Pages.length : Int) - 1) = true ∧ rin j 0 (((at_ h.Pages i).Slots.length : Int) - 1) = true ∧ TB (HA h i j).1 = at_ (at_ h.Pages i).Slots j ∧ TOK (HA h i j).1 = true := by
 unfold HA at hy ⊢
 by_cases hk : HOK h = true
 · rw [if_pos hk] at hy ⊢
   unfold HT at hy ⊢
   by_cases hr : rin i 0 ((h.Pages.length : Int) - 1) = true ∧ rin j 0 (((at_ h.Pages i).Slots.length : Int) - 1) = true
   · rw [if_pos hr] at hy ⊢
     unfold TR at hy ⊢
     generalize at_ (at_ h.Pages i).Slots j = b at hy ⊢
     by_cases hc : 10 + x8 b ≤ b.length ∧ (RK b).2 = true ∧ (RV b).2 = true ∧ TB (TT b) = b
     · rw [if_pos hc]
       refine ⟨hk, hr.1, hr.2, hc.2.2.2, ?_⟩
       cases hh : TOK (TT b) with
       | true => rfl
       | false =>
        have he := hc.2.2.2
        unfold TB at he
        rw [if_neg (by rw [hh]; decide)] at he
        have := hc.1
        rw [← he] at this; simp at this
     · rw [if_neg hc] at hy; cases hy
   · rw [if_neg hr] at hy; cases hy
 · rw [if_neg hk] at hy; cases hy
theorem pn4_eq (n : Int) (h : rin n 0 400 = true) : (PN n 4).length = 4 := by
 have := rin_iff.1 h
 unfold PN
 rw [if_pos]
 · exact le_len _ _
 · refine ⟨by decide, by decide, this.1, ?_⟩
   have e : (4 : Int).toNat = 4 := rfl
   rw [e]
   have : n.toNat < 256 ^ 4 := by
    have : (256 : Nat) ^ 4 = 4294967296 := by decide
    omega
   exact Nat.div_eq_of_lt this
theorem tok_parts {t : Tuple} (h : TOK t = true) : rin t.Xmin 1 400 = true ∧ rin t.Xmax 0 400 = true ∧ KOK t.Key = true ∧ IOK t.Value = true ∧ (t.Value.Kind != (0 : Int)) = true := by
 unfold TOK at h
 simp only [Bool.and_eq_true] at h
 exact ⟨h.1.1.1.1, h.1.1.1.2, h.1.1.2, h.1.2, h.2⟩
theorem tb_mark (t : Tuple) (x : Int) (h : TOK t = true) (hx : rin x 0 400 = true) : TOK (Tuple.mk t.Xmin x t.Key t.Value) = true ∧ (TB (Tuple.mk t.Xmin x t.Key t.Value)).length = (TB t).length := by
 have hp := tok_parts h
 have h2 : TOK (Tuple.mk t.Xmin x t.Key t.Value) = true := by
  unfold TOK
  simp only [hp.1, hx, hp.2.2.1, hp.2.2.2.1, hp.2.2.2.2, Bool.and_self]
 refine ⟨h2, ?_⟩
 unfold TB
 rw [if_pos h, if_pos h2]
 simp only [List.length_append, pn4_eq x hx, pn4_eq t.Xmax hp.2.1]
theorem lsum_set (l : List (List Int)) (i : Nat) (b : List Int) (hi : i < l.length) (h : b.length = l[i].length) : (l.set i b).map List.length = l.map List.length := by
 rw [List.map_set, h]
 apply List.ext_getElem
 · simp
 · intro k h1 h2
   rw [List.getElem_set]
   split
   · rename_i e; subst e; simp
   · rfl
theorem pg_set (p : Page) (i : Nat) (b : List Int) (n : Int) (hi : i < p.Slots.length) (h : b.length = p.Slots[i].length) (hn : rin n 0 1000000 = true) (hp : PG p = true) : PG (PS p i b n) = true := by
 have hm := lsum_set p.Slots i b hi h
 have e1 : lsum (p.Slots.set i b) = lsum p.Slots := by unfold lsum; rw [hm]
 unfold PG at hp ⊢
 unfold PS
 rw [pad_id _ _ hi]
 simp only [Bool.and_eq_true, decide_eq_true_eq, List.length_set, e1, List.all_eq_true] at hp ⊢
 refine ⟨⟨⟨⟨hn, hp.1.1.1.2⟩, ?_⟩, ?_⟩, hp.2⟩
 · intro y hy
   rcases List.mem_or_eq_of_mem_set hy with hy | rfl
   · exact hp.1.1.2 y hy
   · rw [h]; exact hp.1.1.2 _ (List.getElem_mem hi)
 · have hl := hp.1.2
   simp only [Bool.not_eq_true', decide_eq_false_iff_not] at hl ⊢
   intro hc
   apply hl
   have e2 : ((p.Slots.set i b).map List.length).getLast? = (p.Slots.map List.length).getLast? := by rw [hm]
   rw [List.getLast?_map, List.getLast?_map, hc] at e2
   cases hq : p.Slots.getLast? with
   | none => rw [hq] at e2; cases e2
   | some y =>
    rw [hq] at e2
    have : y.length = 0 := (Option.some.inj e2).symm
    cases y with
    | nil => rfl
    | cons a l => cases this
theorem pok_pg {h : Heap} (hk : HOK h = true) (p : Page) (hp : p ∈ h.Pages) : PG p = true := by
 unfold HOK at hk
 simp only [Bool.and_eq_true, List.all_eq_true] at hk
 have := hk.2 p hp
 unfold POK at this
 simp only [Bool.and_eq_true] at this
 exact this.1
end Go.Proofs.YtegicanjlefmdaaGreat
set_option linter.unusedVariables false
set_option linter.unusedSimpArgs false
namespace Go.Proofs.YtegicanjlefmdaaGreat
open Go V Ieee
theorem lw_app (l : List Int) (x : Int) : LW (l ++ [x]) = lwS (LW l) x := by unfold LW; rw [List.foldl_append]; rfl
theorem lw_high (n : Nat) (h : n < 18446744073709551616) : ∀ k, k ≤ 8 → LW (highP n k) = n / 2 ^ (64 - 8 * k) := by
 intro k
 induction k with
 | zero =>
  intro _
  show 0 = n / 2 ^ 64
  rw [Nat.div_eq_of_lt h]
 | succ k ih =>
  intro hk
  rw [highP_succ, lw_app, ih (by omega)]
  unfold lwS
  rw [Int.toNat_natCast]
  have e1 : 2 ^ (64 - 8 * k) = 2 ^ (56 - 8 * k) * 256 := by
   rw [show 64 - 8 * k = (56 - 8 * k) + 8 by omega, Nat.pow_add]
  have e2 : 64 - 8 * (k + 1) = 56 - 8 * k := by omega
  rw [e1, e2, ← Nat.div_div_eq_div_mul]
  generalize hm : n / 2 ^ (56 - 8 * k) = m
  have hlt : m < 18446744073709551616 := by rw [← hm]; exact Nat.lt_of_le_of_lt (Nat.div_le_self _ _) h
  rw [Nat.mod_eq_of_lt (by omega)]
  have := or_add 8 (m / 256) (m % 256) (Nat.mod_lt _ (by decide))
  rw [show (2 : Nat) ^ 8 = 256 by decide] at this
  rw [this]; omega
theorem lw_highB (n : Nat) (h : n < 18446744073709551616) : LW (highB n) = n := by
 have := lw_high n h 8 (Nat.le_refl _)
 unfold highB
 rw [this]
 show n / 1 = n
 exact Nat.div_one n
theorem ur_frk (x : Nat) (h : okF x) (hz : x ≠ 9223372036854775808) : urf (FRK x) = x := by
  have hl := h.2
  unfold urf UR
  by_cases h1 : x = 9221120237041090560
  · subst h1; rfl
  · have hf : FRK x ≠ 18446744073709551615 ∧ UY (FRK x) = x := by
      unfold FRK
      rw [if_neg h1]
      by_cases h2 : x = 0 ∨ x = 9223372036854775808
      · rw [if_pos h2]
        rcases h2 with h2 | h2
        · subst h2; exact ⟨by decide, by decide⟩
        · exact absurd h2 hz
      · rw [if_neg h2]
        by_cases h3 : 9223372036854775808 ≤ x
        · rw [if_pos h3]
          obtain ⟨r, rfl⟩ : ∃ r, x = 9223372036854775808 + r := ⟨x - 9223372036854775808, by omega⟩
          have hr : r < 9223372036854775808 := by omega
          have e : 18446744073709551615 ^^^ (9223372036854775808 + r) = 9223372036854775807 - r := by
            have h4 : 18446744073709551615 ^^^ (9223372036854775808 + r) = 2 ^ 64 - 1 - (9223372036854775808 + r) := by
              have := BitVec.toNat_not (x := BitVec.ofNat 64 (9223372036854775808 + r))
              rw [BitVec.toNat_ofNat, Nat.mod_eq_of_lt (by omega)] at this
              rw [← this]
              have h5 : ∀ y : BitVec 64, ~~~ y = BitVec.allOnes 64 ^^^ y := fun y => (BitVec.allOnes_xor).symm
              rw [h5, BitVec.toNat_xor, BitVec.toNat_ofNat, Nat.mod_eq_of_lt (show 9223372036854775808 + r < 2 ^ 64 by omega)]; rfl
            rw [h4]; omega
          rw [e]
          refine ⟨by omega, ?_⟩
          unfold UY
          rw [if_neg (by omega)]
          have h6 : 18446744073709551615 ^^^ (18446744073709551615 ^^^ (9223372036854775808 + r)) = 9223372036854775808 + r := by rw [← Nat.xor_assoc, Nat.xor_self, Nat.zero_xor]
          rw [e] at h6; exact h6
        · rw [if_neg h3]
          have e : x ||| 9223372036854775808 = 9223372036854775808 + x := by
            have := or_add 63 1 x (by show x < 2 ^ 63; omega)
            rw [Nat.or_comm]
            rw [Nat.one_mul] at this; exact this
          rw [e]
          by_cases h7 : 9223372036854775808 + x = 18446744073709551615
          · exfalso
            have hx : x = 9223372036854775807 := by omega
            subst hx
            have := h.1
            revert this; decide
          · refine ⟨h7, ?_⟩
            unfold UY
            rw [if_pos (by omega)]; omega
    rw [if_neg hf.1, hf.2, h.1, if_pos rfl]
theorem iok_parts {a : Item} (h : IOK a = true) (hk : a.Kind ≠ 0) : (a.Kind = 1 ∧ a.F = 0 ∧ a.T = []) ∨ (a.Kind = 2 ∧ a.N = 0 ∧ a.T = []) ∨ (a.Kind = 3 ∧ a.N = 0 ∧ a.F = 0 ∧ a.T.length ≤ 40) := by
 have := (iok_iff a).1 h
 have ht : a.T.length = 0 → a.T = [] := fun h => List.length_eq_zero_iff.1 h
 obtain ⟨⟨hr, hN⟩, hF, hT⟩ := this
 by_cases h1 : a.Kind = 1
 · exact .inl ⟨h1, by omega, ht (by omega)⟩
 · by_cases h2 : a.Kind = 2
   · exact .inr (.inl ⟨h2, by omega, ht (by omega)⟩)
   · exact .inr (.inr ⟨by omega, by omega, by omega, by omega⟩)
theorem at_hd (x : Int) (l : List Int) : at_ (x :: l) 0 = x := at_nat (x :: l) 0 (by simp)
theorem pk_ib (fl : Nat → Nat) (a : Item) (n : Nat) (hi : ok_Item a) (h : IOK a = true) (hk : a.Kind ≠ 0) (hn : n < 18446744073709551616) (hf : a.Kind = 2 → fl n = a.F) : PK fl (IB a n) = a := by
 obtain ⟨k, N, F, T⟩ := a
 rcases iok_parts h hk with ⟨h1, h2, h3⟩ | ⟨h1, h2, h3⟩ | ⟨h1, h2, h3, h4⟩
 · simp only [] at h1 h2 h3
   subst h1; subst h2; subst h3
   obtain ⟨q, hq, e1, e2⟩ := sgn_bit N hi.2.1
   have eI : IB (Item.mk 1 N 0 []) n = (1 : Int) :: highB q := by
    unfold IB
    rw [if_pos rfl, e2, Int.toNat_natCast]; rfl
   rw [eI]
   unfold PK
   rw [at_hd, if_pos rfl, if_neg (by decide), if_neg (by decide), List.drop_one, List.tail_cons, lw_highB q hq]
   have hx2 : ixor .u64 (q : Int) (9223372036854775808 : Int) = ((q ^^^ 9223372036854775808 : Nat) : Int) := ixor_u64 q 9223372036854775808 hq (by omega)
   rw [hx2]
   have hN := i64_of hi.2.1
   simp only [] at hN
   rw [IntKind.wrap_u64, IntKind.wrap_u64] at e1
   have hw : IntKind.wrap .i64 (((q ^^^ 9223372036854775808 : Nat)) : Int) = N := by
    by_cases hs : q < 9223372036854775808
    · have h2 : (9223372036854775808 + q) ^^^ 2 ^ 63 = q := xor_sign q hs
      have h3 : ((9223372036854775808 + q) ^^^ 2 ^ 63) ^^^ 2 ^ 63 = q ^^^ 2 ^ 63 := by rw [h2]
      rw [Nat.xor_assoc, Nat.xor_self, Nat.xor_zero] at h3
      have h4 : q ^^^ 9223372036854775808 = 9223372036854775808 + q := h3.symm
      rw [h4, IntKind.wrap_i64]; omega
    · obtain ⟨r, rfl⟩ : ∃ r, q = 9223372036854775808 + r := ⟨q - 9223372036854775808, by omega⟩
      have h2 : (9223372036854775808 + r) ^^^ 9223372036854775808 = r := xor_sign r (by omega)
      rw [h2, IntKind.wrap_i64]; omega
   rw [hw]
 · simp only [] at h1 h2 h3
   subst h1; subst h2; subst h3
   have eI : IB (Item.mk 2 0 F []) n = (2 : Int) :: highB n := by
    unfold IB
    rw [if_neg (by simp), if_pos rfl]; rfl
   rw [eI]
   unfold PK
   rw [at_hd, if_neg (by decide), if_pos rfl, if_neg (by decide), List.drop_one, List.tail_cons, lw_highB n hn, hf rfl]
 · simp only [] at h1 h2 h3
   subst h1; subst h2; subst h3
   have eI : IB (Item.mk 3 0 0 T) n = (3 : Int) :: T := by
    unfold IB
    rw [if_neg (by simp), if_neg (by simp)]; rfl
   rw [eI]
   unfold PK
   rw [at_hd, if_neg (by decide), if_neg (by decide), if_pos rfl, List.drop_one, List.tail_cons]
theorem kok_z {a : Item} (h : KOK a = true) : a.Kind ≠ 0 ∧ a.F ≠ 9223372036854775808 := by
 unfold KOK at h
 simp only [Bool.and_eq_true, decide_eq_true_eq, bne_iff_ne] at h
 exact ⟨h.1.2, h.2⟩
theorem ib_pos (a : Item) (n : Nat) : 1 ≤ (IB a n).length := by rw [ib_len]; split <;> omega
theorem rd_kb (a : Item) (hi : ok_Item a) (h : KOK a = true) : RD KB urf (KB a) = (a, true) := by
 have hp := pk_ib urf a (FRK a.F) hi (kok_iok h) (kok_z h).1 (FRK_lt _ hi.2.2.1.2) (fun _ => ur_frk _ hi.2.2.1 (kok_z h).2)
 have e : KB a = IB a (FRK a.F) := by unfold KB; rw [if_pos h]
 rw [RD_yes, e, hp]
 refine ⟨by rw [e]; exact ib_pos _ _, kb_len a, ?_⟩
 rw [e, hp, e]
theorem rd_vb (a : Item) (hi : ok_Item a) (h : IOK a = true) (hk : a.Kind ≠ 0) : RD VB cn (VB a) = (a, true) := by
 have hp := pk_ib cn a a.F hi h hk hi.2.2.1.2 (fun _ => hi.2.2.1.1)
 have e : VB a = IB a a.F := by unfold VB; rw [if_pos ⟨h, hk⟩]
 rw [RD_yes, e, hp]
 refine ⟨by rw [e]; exact ib_pos _ _, vb_len a, ?_⟩
 rw [e, hp, e]
theorem pn4_val (n : Int) (h : rin n 0 400 = true) : PN n 4 = le n.toNat 4 := by
  have := rin_iff.1 h
  unfold PN
  rw [if_pos]
  · rfl
  · refine ⟨by decide, by decide, this.1, ?_⟩
    rw [show (4 : Int).toNat = 4 from rfl]
    exact Nat.div_eq_of_lt (by have : (256 : Nat) ^ 4 = 4294967296 := by decide
                               omega)
theorem le4_val (n : Int) (h : rin n 0 400 = true) : ((val (le n.toNat 4) : Nat) : Int) = n := by
  have := rin_iff.1 h
  rw [val_le, Nat.mod_eq_of_lt (by have : (256 : Nat) ^ 4 = 4294967296 := by decide
                                   omega)]
  omega
theorem tr_tb (t : Tuple) (ht : ok_Tuple t) (h : TOK t = true) : TR (TB t) = (t, true) := by
 obtain ⟨hx, hm, hk, hv, hv0⟩ := tok_parts h
 have hx0 : rin t.Xmin 0 400 = true := by have := rin_iff.1 hx; exact rin_iff.2 (by omega)
 have e : TB t = ((((PN t.Xmin 4 ++ PN t.Xmax 4) ++ [IntKind.wrap .u8 ((KB t.Key).length : Int)]) ++ KB t.Key) ++ [IntKind.wrap .u8 ((VB t.Value).length : Int)]) ++ VB t.Value := by unfold TB; rw [if_pos h]
 have hkl := kb_len t.Key
 have hvl := vb_len t.Value
 have l1 : (PN t.Xmin 4).length = 4 := by rw [pn4_val _ hx0, le_len]
 have l2 : (PN t.Xmax 4).length = 4 := by rw [pn4_val _ hm, le_len]
 have hwk : IntKind.wrap .u8 ((KB t.Key).length : Int) = ((KB t.Key).length : Int) := by rw [IntKind.wrap_u8]; omega
 have hwv : IntKind.wrap .u8 ((VB t.Value).length : Int) = ((VB t.Value).length : Int) := by rw [IntKind.wrap_u8]; omega
 rw [hwk, hwv] at e
 have hu := tb_u8 t ht
 have hlen : (TB t).length = 10 + (KB t.Key).length + (VB t.Value).length := by rw [e]; simp only [List.length_append, List.length_singleton, l1, l2]; omega
 have e8 : x8 (TB t) = (KB t.Key).length := by
  unfold x8
  rw [show ((8 : Int)) = ((8 : Nat) : Int) from rfl, at_nat _ 8 (by omega)]
  have : (TB t)[8]'(by omega) = ((KB t.Key).length : Int) := by
   simp only [e]
   rw [List.getElem_append_left (by simp only [List.length_append, List.length_singleton, l1, l2]; omega), List.getElem_append_left (by simp only [List.length_append, List.length_singleton, l1, l2]; omega), List.getElem_append_left (by simp only [List.length_append, List.length_singleton, l1, l2]; omega), List.getElem_append_right (by simp only [List.length_append, List.length_singleton, l1, l2]; omega)]
   simp [l1, l2]
  rw [this, Int.toNat_natCast]
 have c0 : cut (TB t) 0 4 = PN t.Xmin 4 := by
  unfold cut
  rw [e, List.drop_zero]
  simp only [List.append_assoc]
  rw [List.take_left' l1]
 have c4 : cut (TB t) 4 4 = PN t.Xmax 4 := by
  unfold cut
  rw [e]
  simp only [List.append_assoc]
  rw [List.drop_left' l1, List.take_left' l2]
 have ck : cut (TB t) 9 (KB t.Key).length = KB t.Key := by
  unfold cut
  rw [e]
  rw [show ((((PN t.Xmin 4 ++ PN t.Xmax 4) ++ [((KB t.Key).length : Int)]) ++ KB t.Key) ++ [((VB t.Value).length : Int)]) ++ VB t.Value = ((PN t.Xmin 4 ++ PN t.Xmax 4) ++ [((KB t.Key).length : Int)]) ++ (KB t.Key ++ ([((VB t.Value).length : Int)] ++ VB t.Value)) by simp only [List.append_assoc]]
  rw [List.drop_left' (by simp only [List.length_append, List.length_singleton, l1, l2]), List.take_left' rfl]
 have cv : (TB t).drop (10 + (KB t.Key).length) = VB t.Value := by
  rw [e, List.drop_left' (by simp only [List.length_append, List.length_singleton, l1, l2]; omega)]
 have g1 : (GN (TB t) 0 4).1 = t.Xmin := by
  have := gn_in (TB t) 0 4 hu (by omega) (by omega) (by omega)
  rw [show ((0 : Nat) : Int) = 0 from rfl, show ((4 : Nat) : Int) = 4 from rfl] at this
  rw [this, c0, pn4_val _ hx0, le4_val _ hx0]
 have g2 : (GN (TB t) 4 4).1 = t.Xmax := by
  have := gn_in (TB t) 4 4 hu (by omega) (by omega) (by omega)
  rw [show ((4 : Nat) : Int) = 4 from rfl] at this
  rw [this, c4, pn4_val _ hm, le4_val _ hm]
 have hR : RK (TB t) = (t.Key, true) := by unfold RK; rw [e8, ck, rd_kb _ ht.2.2.1 hk]
 have hV : RV (TB t) = (t.Value, true) := by unfold RV; rw [e8, cv, rd_vb _ ht.2.2.2 hv (by simpa using hv0)]
 have hT : TT (TB t) = t := by unfold TT; rw [g1, g2, hR, hV]
 rw [TR_yes, hT]
 exact ⟨by rw [e8, hlen]; omega, by rw [hR], by rw [hV], by rw [hT]⟩
end Go.Proofs.YtegicanjlefmdaaGreat
set_option linter.unusedVariables false
set_option linter.unusedSimpArgs false
namespace Go.Proofs.YtegicanjlefmdaaGreat
open Go V Ieee
noncomputable def one (i k : Nat) (b : List Int) : List Row := if (TR b).2 = true then [Row.mk i k (TR b).1] else []
noncomputable def RS (i : Nat) : Nat → List (List Int) → List Row
 | _, [] => []
 | k, b :: l => one i k b ++ RS i (k + 1) l
noncomputable def RP : Nat → List Page → List Row
 | _, [] => []
 | i, p :: l => RS i 0 p.Slots ++ RP (i + 1) l
noncomputable def ROWS (h : Heap) : List Row := if HOK h = true then RP 0 h.Pages else []
theorem RS_app (i : Nat) : ∀ (l m : List (List Int)) (k : Nat), RS i k (l ++ m) = RS i k l ++ RS i (k + l.length) m
 | [], m, k => rfl
 | b :: l, m, k => by
  show one i k b ++ RS i (k + 1) (l ++ m) = (one i k b ++ RS i (k + 1) l) ++ _
  rw [RS_app i l m (k + 1), List.append_assoc]
  congr 2
  simp; congr 1; omega
theorem RP_app : ∀ (l m : List Page) (k : Nat), RP k (l ++ m) = RP k l ++ RP (k + l.length) m
 | [], m, k => rfl
 | b :: l, m, k => by
  show RS k 0 b.Slots ++ RP (k + 1) (l ++ m) = (RS k 0 b.Slots ++ RP (k + 1) l) ++ _
  rw [RP_app l m (k + 1), List.append_assoc]
  congr 2
  simp; congr 1; omega
theorem tr_nil : TR [] = (T0, false) := TR_no (fun h => by have := h.1; simp at this)
theorem one_nil (i k : Nat) : one i k [] = [] := by unfold one; rw [tr_nil]; rfl
theorem RS_rep (i : Nat) : ∀ (m k : Nat), RS i k (List.replicate m []) = []
 | 0, _ => rfl
 | m + 1, k => by
  rw [List.replicate_succ]
  show one i k [] ++ RS i (k + 1) _ = []
  rw [one_nil, RS_rep i m]; rfl
theorem RS_pad (i k j : Nat) (l : List (List Int)) : RS i k (pad l j) = RS i k l := by
 unfold pad
 rw [RS_app, RS_rep, List.append_nil]
theorem RS_set (i : Nat) (l : List (List Int)) (k j : Nat) (b : List Int) (h : j < l.length) : RS i k (l.set j b) = RS i k (l.take j) ++ one i (k + j) b ++ RS i (k + j + 1) (l.drop (j + 1)) := by
 rw [List.set_eq_take_append_cons_drop, if_pos h, RS_app, List.length_take, Nat.min_eq_left (by omega)]
 show _ ++ (one i (k + j) b ++ _) = _
 rw [List.append_assoc]
theorem RS_at (i : Nat) (l : List (List Int)) (k j : Nat) (h : j < l.length) : RS i k l = RS i k (l.take j) ++ one i (k + j) l[j] ++ RS i (k + j + 1) (l.drop (j + 1)) := by
 have := RS_set i l k j l[j] h
 rw [List.set_getElem_self] at this
 exact this
theorem RP_set (l : List Page) (k i : Nat) (p : Page) (h : i < l.length) : RP k (l.set i p) = RP k (l.take i) ++ RS (k + i) 0 p.Slots ++ RP (k + i + 1) (l.drop (i + 1)) := by
 rw [List.set_eq_take_append_cons_drop, if_pos h, RP_app, List.length_take, Nat.min_eq_left (by omega)]
 show _ ++ (RS (k + i) 0 p.Slots ++ _) = _
 rw [List.append_assoc]
theorem RS_len (i : Nat) : ∀ (l : List (List Int)) (k : Nat), (RS i k l).length ≤ l.length
 | [], _ => Nat.le_refl _
 | b :: l, k => by
  show (one i k b ++ RS i (k + 1) l).length ≤ _
  rw [List.length_append, List.length_cons]
  have := RS_len i l (k + 1)
  have h1 : (one i k b).length ≤ 1 := by unfold one; split <;> simp
  omega
theorem RP_len (c : Nat) : ∀ (l : List Page) (k : Nat), (∀ p ∈ l, p.Slots.length ≤ c) → (RP k l).length ≤ c * l.length
 | [], _, _ => by simp [RP]
 | p :: l, k, h => by
  show (RS k 0 p.Slots ++ RP (k + 1) l).length ≤ _
  rw [List.length_append, List.length_cons, Nat.mul_succ]
  have := RP_len c l (k + 1) fun q hq => h q (by simp [hq])
  have := RS_len k p.Slots 0
  have := h p (by simp)
  omega
theorem pok_slots {p : Page} (h : POK p = true) : p.Slots.length ≤ 16 ∧ PG p = true ∧ ∀ b ∈ p.Slots, SOK b = true := by
 unfold POK at h
 simp only [Bool.and_eq_true, List.all_eq_true] at h
 refine ⟨?_, h.1, h.2⟩
 have := h.1
 unfold PG at this
 simp only [Bool.and_eq_true, decide_eq_true_eq] at this
 exact this.1.1.1.2
theorem hok_pages {h : Heap} (hk : HOK h = true) : ∀ p ∈ h.Pages, POK p = true := by
 unfold HOK at hk
 simp only [Bool.and_eq_true, List.all_eq_true] at hk
 exact hk.2
theorem rows_len {h : Heap} (hk : HOK h = true) (i : Nat) : (RP 0 (h.Pages.take i)).length ≤ 256 := by
 have h1 := RP_len 16 (h.Pages.take i) 0 fun p hp => (pok_slots (hok_pages hk p (List.mem_of_mem_take hp))).1
 have h2 := hok16 hk
 have h3 : (h.Pages.take i).length ≤ 16 := by simp; omega
 omega
theorem impl_rows (h : Heap) (hh : okH h) (hk : HOK h = true) : impl_Heap_rows.f h = some (RP 0 h.Pages) := by
 unfold impl_Heap_rows.f
 have h16 := hok16 hk
 rw [show (([] : List Row), (0 : Int)) = (RP 0 (h.Pages.take 0), ((0 : Nat) : Int)) from rfl]
 refine iter_for h.Pages.length (fun i => (RP 0 (h.Pages.take i), (i : Int))) _ (fun i hi => ?_) ?_
 · have hp := hok_pages hk _ (List.getElem_mem hi)
   have hpo := hh.2 _ (List.getElem_mem hi)
   obtain ⟨p1, p2, p3⟩ := pok_slots hp
   have hrl := rows_len hk i
   unfold impl_Heap_rows.b0
   simp only []
   rw [if_pos (by simp; omega), if_pos ⟨by omega, by omega⟩]
   rw [show (RP 0 (h.Pages.take i), (0 : Int)) = (RP 0 (h.Pages.take i) ++ RS i 0 ((h.Pages[i]).Slots.take 0), ((0 : Nat) : Int)) by rw [List.take_zero]; show _ = (_ ++ [], _); rw [List.append_nil]; rfl]
   refine iter_for (h.Pages[i]).Slots.length (fun j => (RP 0 (h.Pages.take i) ++ RS i 0 ((h.Pages[i]).Slots.take j), (j : Int))) _ (fun j hj => ?_) ?_
   · have hb := hpo.2.2 _ (List.getElem_mem hj)
     have hrs := RS_len i ((h.Pages[i]).Slots.take j) 0
     have htl : ((h.Pages[i]).Slots.take j).length ≤ 16 := by simp; omega
     unfold impl_Heap_rows.b1
     simp only []
     rw [at_nat _ i hi, if_pos (by simp; omega), if_pos ⟨by omega, by omega⟩, at_nat _ j hj, impl_TupleRead _ hb.2 (by have := hb.1; omega), Option.bind_some, w64 (by omega) (by omega), List.take_succ_eq_append_getElem hj, RS_app, List.length_take, Nat.min_eq_left (by omega), Nat.zero_add]
     show _ = some (Sum.inl (_ ++ (RS i 0 _ ++ (one i j _ ++ [])), _))
     rw [List.append_nil, ← List.append_assoc]
     unfold one
     cases (TR (h.Pages[i]).Slots[j]).2 with
     | true => rw [if_pos rfl, if_pos rfl, if_pos (by simp only [Lim, List.length_append, List.length_singleton]; omega)]; rfl
     | false => rw [if_neg (by decide), if_neg (by decide), List.append_nil]; rfl
   · unfold impl_Heap_rows.b1
     simp only []
     rw [at_nat _ i hi, if_neg (by simp), List.take_length, w64 (by omega) (by omega), List.take_succ_eq_append_getElem hi, RP_app, List.length_take, Nat.min_eq_left (by omega), Nat.zero_add]
     show _ = some (Sum.inr (Sum.inl (_ ++ (RS i 0 _ ++ []), _)))
     rw [List.append_nil]; rfl
 · unfold impl_Heap_rows.b0
   simp only []
   rw [if_neg (by simp), List.take_length]; rfl
theorem spec_HeapRows (h : Heap) (hh : okH h) : spec_HeapRows.f h = some (ROWS h) := by
 unfold spec_HeapRows.f ROWS
 rw [spec_HeapOk h hh, Option.bind_some]
 cases hk : HOK h with
 | false => rfl
 | true =>
  rw [if_neg (by decide), if_pos rfl]
  have h16 := hok16 hk
  rw [show (([] : List Row), (0 : Int)) = (RP 0 (h.Pages.take 0), ((0 : Nat) : Int)) from rfl]
  refine iter_for h.Pages.length (fun i => (RP 0 (h.Pages.take i), (i : Int))) _ (fun i hi => ?_) ?_
  · have hp := hok_pages hk _ (List.getElem_mem hi)
    have hpo := hh.2 _ (List.getElem_mem hi)
    obtain ⟨p1, p2, p3⟩ := pok_slots hp
    have hrl := rows_len hk i
    unfold spec_HeapRows.b0
    simp only []
    rw [if_pos (by simp; omega)]
    rw [show (RP 0 (h.Pages.take i), (0 : Int)) = (RP 0 (h.Pages.take i) ++ RS i 0 ((h.Pages[i]).Slots.take 0), ((0 : Nat) : Int)) by rw [List.take_zero]; show _ = (_ ++ [], _); rw [List.append_nil]; rfl]
    refine iter_for (h.Pages[i]).Slots.length (fun j => (RP 0 (h.Pages.take i) ++ RS i 0 ((h.Pages[i]).Slots.take j), (j : Int))) _ (fun j hj => ?_) ?_
    · have hb := hpo.2.2 _ (List.getElem_mem hj)
      have hrs := RS_len i ((h.Pages[i]).Slots.take j) 0
      have htl : ((h.Pages[i]).Slots.take j).length ≤ 16 := by simp; omega
      unfold spec_HeapRows.b1
      simp only []
      rw [at_nat _ i hi, if_pos ⟨by omega, by omega⟩, if_pos (by simp; omega), if_pos ⟨by omega, by omega⟩, if_pos ⟨by omega, by omega⟩, at_nat _ j hj, spec_TupleRead _ hb.2, Option.bind_some, w64 (by omega) (by omega), List.take_succ_eq_append_getElem hj, RS_app, List.length_take, Nat.min_eq_left (by omega), Nat.zero_add]
      show _ = some (Sum.inl (_ ++ (RS i 0 _ ++ (one i j _ ++ [])), _))
      rw [List.append_nil, ← List.append_assoc]
      unfold one
      cases (TR (h.Pages[i]).Slots[j]).2 with
      | true => rw [if_pos rfl, if_pos rfl, if_pos (by simp only [Lim, List.length_append, List.length_singleton]; omega)]; rfl
      | false => rw [if_neg (by decide), if_neg (by decide), List.append_nil]; rfl
    · unfold spec_HeapRows.b1
      simp only []
      rw [at_nat _ i hi, if_pos ⟨by omega, by omega⟩, if_neg (by simp), List.take_length, w64 (by omega) (by omega), List.take_succ_eq_append_getElem hi, RP_app, List.length_take, Nat.min_eq_left (by omega), Nat.zero_add]
      show _ = some (Sum.inr (Sum.inl (_ ++ (RS i 0 _ ++ []), _)))
      rw [List.append_nil]; rfl
  · unfold spec_HeapRows.b0
    simp only []
    rw [if_neg (by simp), List.take_length]; rfl
theorem rowsOf (h : Heap) (hh : okH h) (f : Tuple → Option Bool) (g : Tuple → Bool) (hf : ∀ r ∈ ROWS h, f r.Tuple = some (g r.Tuple)) : impl_Heap_rowsOf.f h f = some ((ROWS h).filter fun r => g r.Tuple) := by
 unfold impl_Heap_rowsOf.f
 unfold ROWS at hf ⊢
 rw [impl_HeapOk h hh, Option.bind_some]
 cases hk : HOK h with
 | false => rfl
 | true =>
  rw [hk, if_pos rfl] at hf
  rw [if_neg (by decide), impl_rows h hh hk, Option.bind_some, if_pos rfl]
  have := delF_eq (fun x0 => impl_Heap_rowsOf_1.f x0 f) (fun r => !g r.Tuple) (RP 0 h.Pages) fun r hr => by
   show impl_Heap_rowsOf_1.f r f = _
   unfold impl_Heap_rowsOf_1.f
   rw [hf r hr]; rfl
  show (delF (RP 0 h.Pages) (fun x0 => impl_Heap_rowsOf_1.f x0 f)).bind _ = _
  rw [this, Option.bind_some]
  simp only [Bool.not_not]
theorem sok_tb (t : Tuple) (ht : ok_Tuple t) (h : TOK t = true) : SOK (TB t) = true := by unfold SOK; rw [tr_tb t ht h]; rfl
theorem sok_nil : SOK [] = true := by unfold SOK; simp
theorem mem_pad {l : List (List Int)} {j : Nat} {b : List Int} (h : b ∈ pad l j) : b ∈ l ∨ b = [] := by
 unfold pad at h
 rcases List.mem_append.1 h with h | h
 · exact .inl h
 · exact .inr (List.eq_of_mem_replicate h)
structure Put (h : Heap) (i : Nat) (p q : Page) (g : Heap) : Prop where
 lt : i ≤ h.Pages.length
 old : p = (if i = h.Pages.length then P0 else at_ h.Pages (i : Int))
 new : g.Pages = (if i = h.Pages.length then h.Pages ++ [P0] else h.Pages).set i q
theorem put_rows {h g : Heap} {i : Nat} {p q : Page} (hp : Put h i p q g) : ∃ A B, RP 0 h.Pages = A ++ RS i 0 p.Slots ++ B ∧ RP 0 g.Pages = A ++ RS i 0 q.Slots ++ B := by
 obtain ⟨lt, old, new⟩ := hp
 by_cases hi : i = h.Pages.length
 · rw [if_pos hi] at old new
   refine ⟨RP 0 h.Pages, [], ?_, ?_⟩
   · rw [old]; show _ = RP 0 h.Pages ++ [] ++ []; simp
   · rw [new, RP_set _ _ _ _ (by simp; omega), hi, List.take_left' rfl, Nat.zero_add, List.drop_eq_nil_of_le (by simp)]; rfl
 · rw [if_neg hi] at old new
   have hl : i < h.Pages.length := by omega
   refine ⟨RP 0 (h.Pages.take i), RP (0 + i + 1) (h.Pages.drop (i + 1)), ?_, ?_⟩
   · have := RP_set h.Pages 0 i h.Pages[i] hl
     rw [List.set_getElem_self, Nat.zero_add] at this
     rw [Nat.zero_add, this, old, at_nat _ i hl]
   · rw [new, RP_set _ _ _ _ hl, Nat.zero_add]
theorem put_hok {h g : Heap} {i : Nat} {p q : Page} (hp : Put h i p q g) (hk : HOK h = true) (hi : i < 16) (hq : POK q = true) : HOK g = true := by
 obtain ⟨lt, old, new⟩ := hp
 have h16 := hok16 hk
 have hpg := hok_pages hk
 have hP0 : POK P0 = true := by unfold POK; simp only [Bool.and_eq_true, List.all_eq_true]; exact ⟨by decide, fun b hb => by cases hb⟩
 unfold HOK
 simp only [Bool.and_eq_true, decide_eq_true_eq, List.all_eq_true]
 rw [new]
 refine ⟨?_, fun x hx => ?_⟩
 · rw [List.length_set]; split
   · simp; omega
   · exact h16
 · rcases List.mem_or_eq_of_mem_set hx with hx | rfl
   · split at hx
     · rcases List.mem_append.1 hx with hx | hx
       · exact hpg x hx
       · rw [List.mem_singleton.1 hx]; exact hP0
     · exact hpg x hx
   · exact hq
theorem put_at {h g : Heap} {i : Nat} {p q : Page} (hp : Put h i p q g) : i < g.Pages.length ∧ at_ g.Pages (i : Int) = q := by
 obtain ⟨lt, old, new⟩ := hp
 have hl : i < (if i = h.Pages.length then h.Pages ++ [P0] else h.Pages).length := by
  split
  · simp; omega
  · omega
 rw [new]
 exact ⟨by rw [List.length_set]; exact hl, at_set _ _ _ hl⟩
theorem put_hput {h : Heap} {i j : Int} {t : Tuple} {n : Int} (hy : (HPut h i j t n).2 = true) : ∃ a b : Nat, i = (a : Int) ∧ j = (b : Int) ∧ a < 16 ∧ b < 16 ∧ HOK h = true ∧ TOK t = true ∧ (HT h i j).2 = false ∧ rin n 1 1000000 = true ∧ PG (PS (pgAt h i) b (TB t) n) = true ∧ PG (pgAt h i) = true ∧ Put h a (pgAt h i) (PS (pgAt h i) b (TB t) n) (HPut h i j t n).1 := by
  unfold HPut at hy ⊢
  split at hy
  · rename_i hc
    rw [if_pos hc]
    unfold HP at hy ⊢
    split at hy
    · rename_i hd
      rw [if_pos hd]
      obtain ⟨d1, d2, d3, d4⟩ := hd
      obtain ⟨a, rfl⟩ := Int.eq_ofNat_of_zero_le d1
      have hpp := d4
      unfold PP at hpp
      split at hpp
      · rename_i hq
        obtain ⟨q1, q2, q3, q4, q5⟩ := hq
        have hj := rin_iff.1 q2
        obtain ⟨b, rfl⟩ := Int.eq_ofNat_of_zero_le hj.1
        rw [Int.toNat_natCast] at q5
        refine ⟨a, b, rfl, rfl, by omega, by omega, hc.1, hc.2.1, hc.2.2, q4, q5, q1, ⟨by omega, ?_, ?_⟩⟩
        · unfold pgAt
          by_cases ha : a = h.Pages.length
          · rw [if_pos ha, if_pos (by omega)]
          · rw [if_neg ha, if_neg (by omega)]
        · have e : (PP (pgAt h (a : Int)) (b : Int) (TB t) n).1 = PS (pgAt h (a : Int)) b (TB t) n := by
            unfold PP
            rw [Int.toNat_natCast, if_pos ⟨q1, q2, q3, q4, q5⟩]
          show ((hxs h (a : Int)).set ((a : Int)).toNat (PP (pgAt h (a : Int)) (b : Int) (TB t) n).1) = _
          rw [e, Int.toNat_natCast]
          unfold hxs
          by_cases ha : a = h.Pages.length
          · rw [if_pos ha, if_pos (by omega)]
          · rw [if_neg ha, if_neg (by omega)]
      · cases hpp
    · cases hy
  · cases hy
end Go.Proofs.YtegicanjlefmdaaGreat
set_option linter.unusedVariables false
set_option linter.unusedSimpArgs false
namespace Go.Proofs.YtegicanjlefmdaaGreat
open Go V Ieee
def trim (l : List (List Int)) : List (List Int) := (l.reverse.dropWhile fun b => decide (b.length = 0)).reverse
theorem trim_nil : trim [] = [] := rfl
theorem trim_app (l : List (List Int)) (b : List Int) : trim (l ++ [b]) = if b.length = 0 then trim l else l ++ [b] := by
 unfold trim
 rw [List.reverse_append, List.reverse_singleton, List.singleton_append, List.dropWhile_cons]
 by_cases h : b.length = 0
 · rw [if_pos (decide_eq_true h), if_pos h]
 · rw [if_neg (by simpa using h), if_neg h, List.reverse_cons, List.reverse_reverse]
theorem trim_loop {body : List (List Int) → Option (List (List Int) ⊕ (Page × Bool))} {n : Int} (h : ∀ l, body l = ((if (decide ((l.length : Int) > (0 : Int))) = true then (if 0 ≤ (IntKind.wrap .i64 ((l.length : Int) - (1 : Int))) ∧ (IntKind.wrap .i64 ((l.length : Int) - (1 : Int))) < (l.length : Int) then (some (((at_ l (IntKind.wrap .i64 ((l.length : Int) - (1 : Int)))).length : Int) == (0 : Int))) else none) else (some false)).bind fun y66 => (if y66 = true then (if 0 ≤ (IntKind.wrap .i64 ((l.length : Int) - (1 : Int))) ∧ (IntKind.wrap .i64 ((l.length : Int) - (1 : Int))) ≤ (l.length : Int) then (some (Sum.inl (l.take ((IntKind.wrap .i64 ((l.length : Int) - (1 : Int)))).toNat))) else none) else ((some ((Page.mk n l), true)).bind fun o => some (Sum.inr o))))) :
    ∀ (m : Nat) (l : List (List Int)), l.length = m → m ≤ 1048576 → iter body l = some (Page.mk n (trim l), true) := by
  intro m
  induction m with
  | zero =>
    intro l hl _
    obtain rfl := List.length_eq_zero_iff.1 hl
    refine iter_r ?_
    rw [h, if_neg (by decide), Option.bind_some, if_neg (by decide)]; rfl
  | succ m ih =>
    intro l hl hm
    rcases List.eq_nil_or_concat l with rfl | ⟨L, b, rfl⟩
    · cases hl
    rw [List.concat_eq_append] at hl
    have hL : L.length = m := by simpa using hl
    rw [List.concat_eq_append]
    have ew : IntKind.wrap .i64 (((L ++ [b]).length : Int) - 1) = (L.length : Int) := by rw [hl, w64 (by omega) (by omega)]; omega
    have ea : at_ (L ++ [b]) (L.length : Int) = b := by rw [at_nat _ _ (by simp)]; simp
    have e := h (L ++ [b])
    rw [ew, ea, Int.toNat_natCast, List.take_left' rfl, if_pos (by rw [hl]; simp), if_pos ⟨by omega, by rw [hl]; omega⟩, Option.bind_some, len0] at e
    by_cases hb : b.length = 0
    · rw [decide_eq_true hb, if_pos rfl, if_pos ⟨by omega, by rw [hl]; omega⟩] at e
      rw [iter_l e, trim_app, if_pos hb]
      exact ih L hL (by omega)
    · rw [decide_eq_false hb, if_neg (by decide)] at e
      rw [trim_app, if_neg hb]
      exact iter_r e
theorem trim_rep : ∀ (m : Nat) (l : List (List Int)), l.length = m → ∃ k, l = trim l ++ List.replicate k [] := by
 intro m
 induction m with
 | zero =>
  intro l hl
  obtain rfl := List.length_eq_zero_iff.1 hl
  exact ⟨0, rfl⟩
 | succ m ih =>
  intro l hl
  rcases List.eq_nil_or_concat l with rfl | ⟨L, b, rfl⟩
  · cases hl
  rw [List.concat_eq_append] at hl
  have hL : L.length = m := by simpa using hl
  rw [List.concat_eq_append, trim_app]
  by_cases hb : b.length = 0
  · obtain rfl := List.length_eq_zero_iff.1 hb
    obtain ⟨k, hk⟩ := ih L hL
    refine ⟨k + 1, ?_⟩
    rw [if_pos hb, List.replicate_succ', ← List.append_assoc, ← hk]
  · exact ⟨0, by rw [if_neg hb]; simp⟩
theorem trim_last : ∀ (m : Nat) (l : List (List Int)), l.length = m → (trim l).getLast? ≠ some [] := by
 intro m
 induction m with
 | zero =>
  intro l hl
  obtain rfl := List.length_eq_zero_iff.1 hl
  rw [trim_nil]; simp
 | succ m ih =>
  intro l hl
  rcases List.eq_nil_or_concat l with rfl | ⟨L, b, rfl⟩
  · cases hl
  rw [List.concat_eq_append] at hl
  have hL : L.length = m := by simpa using hl
  rw [List.concat_eq_append, trim_app]
  by_cases hb : b.length = 0
  · rw [if_pos hb]; exact ih L hL
  · rw [if_neg hb]
    simp
    intro h; rw [h] at hb; exact hb rfl
theorem RS_trim (i k : Nat) (l : List (List Int)) : RS i k (trim l) = RS i k l := by
 obtain ⟨m, hm⟩ := trim_rep _ l rfl
 conv => rhs; rw [hm]
 rw [RS_app, RS_rep, List.append_nil]
def PC (p : Page) (j n : Int) : Page × Bool := if PG p = true ∧ rin j 0 ((p.Slots.length : Int) - 1) = true ∧ rin n 1 1000000 = true then (Page.mk n (trim (p.Slots.set j.toNat [])), true) else (P0, false)
theorem spec_PageClear (p : Page) (j n : Int) (hp : okP p) : spec_PageClear.f p j n = some (PC p j n) := by
 unfold spec_PageClear.f PC
 have hl := hp.2.1
 rw [spec_PageUsed p hp, Option.bind_some, pu_neg, w64 (by omega) (by omega), in_rin, in_rin]
 cases hg : PG p with
 | false => rw [if_neg (c := false = true ∧ _) (by simp)]; rfl
 | true =>
  cases hj : rin j 0 ((p.Slots.length : Int) - 1) with
  | false => rw [if_neg (c := true = true ∧ false = true ∧ _) (by simp)]; rfl
  | true =>
   cases hn : rin n 1 1000000 with
   | false => rw [if_neg (c := true = true ∧ true = true ∧ false = true) (by simp)]; rfl
   | true =>
    have hjr := rin_iff.1 hj
    rw [if_neg (by decide), Option.bind_some, Option.bind_some, if_neg (by decide), Option.bind_some, if_neg (by decide), spec_l7copy p hp, Option.bind_some, if_pos ⟨by omega, by omega⟩, if_pos ⟨rfl, rfl, rfl⟩]
    exact trim_loop (fun l => rfl) _ _ rfl (by rw [List.length_set]; exact hl)
theorem lsum_set_le (l : List (List Int)) (j : Nat) : lsum (l.set j []) ≤ lsum l := by
 by_cases hj : j < l.length
 · rw [List.set_eq_take_append_cons_drop, if_pos hj, lsum_app, lsum_cons]
   conv => rhs; rw [← List.take_append_drop j l, lsum_app, List.drop_eq_getElem_cons hj, lsum_cons]
   simp
 · rw [List.set_eq_of_length_le (by omega)]; omega
theorem trim_le (l : List (List Int)) : (trim l).length ≤ l.length ∧ lsum (trim l) ≤ lsum l ∧ ∀ b ∈ trim l, b ∈ l := by
 obtain ⟨m, hm⟩ := trim_rep _ l rfl
 refine ⟨?_, ?_, fun b hb => ?_⟩
 · conv => rhs; rw [hm]
   simp
 · conv => rhs; rw [hm]
   rw [lsum_app]; omega
 · rw [hm]; exact List.mem_append_left _ hb
theorem pg_trim (p : Page) (j : Nat) (n : Int) (hp : PG p = true) (hn : rin n 1 1000000 = true) : PG (Page.mk n (trim (p.Slots.set j []))) = true := by
 have hnr := rin_iff.1 hn
 obtain ⟨t1, t2, t3⟩ := trim_le (p.Slots.set j [])
 have t4 := lsum_set_le p.Slots j
 have t5 := trim_last _ (p.Slots.set j []) rfl
 rw [List.length_set] at t1
 unfold PG at hp ⊢
 simp only [Bool.and_eq_true, decide_eq_true_eq, List.all_eq_true, Bool.not_eq_true', decide_eq_false_iff_not] at hp ⊢
 obtain ⟨⟨⟨⟨p1, p2⟩, p3⟩, p4⟩, p5⟩ := hp
 refine ⟨⟨⟨⟨rin_iff.2 ⟨by omega, by omega⟩, by omega⟩, fun b hb => ?_⟩, t5⟩, by omega⟩
 rcases List.mem_or_eq_of_mem_set (t3 b hb) with h | h
 · exact p3 b h
 · rw [h]; simp
theorem okP_trim (p : Page) (j : Nat) (n : Int) (hp : okP p) (hn : rin n 1 1000000 = true) : okP (Page.mk n (trim (p.Slots.set j []))) := by
 have hnr := rin_iff.1 hn
 obtain ⟨t1, t2, t3⟩ := trim_le (p.Slots.set j [])
 rw [List.length_set] at t1
 refine ⟨i64_ok (by show _ ≤ n; omega) (by show n ≤ _; omega), Nat.le_trans t1 hp.2.1, fun b hb => ?_⟩
 rcases List.mem_or_eq_of_mem_set (t3 b hb) with h | h
 · exact hp.2.2 b h
 · rw [h]; exact ⟨by simp, fun x hx => by cases hx⟩
theorem pok_trim (p : Page) (j : Nat) (n : Int) (hp : POK p = true) (hn : rin n 1 1000000 = true) : POK (Page.mk n (trim (p.Slots.set j []))) = true := by
 obtain ⟨_, p2, p3⟩ := pok_slots hp
 obtain ⟨t1, t2, t3⟩ := trim_le (p.Slots.set j [])
 unfold POK
 rw [pg_trim p j n p2 hn, Bool.true_and, List.all_eq_true]
 intro b hb
 rcases List.mem_or_eq_of_mem_set (t3 b hb) with h | h
 · exact p3 b h
 · rw [h]; exact sok_nil
noncomputable def HCl (h : Heap) (i j n : Int) : Heap × Bool := if (HA h i j).2 = true ∧ rin n 1 1000000 = true then (Heap.mk (h.Pages.set i.toNat (Page.mk n (trim ((at_ h.Pages i).Slots.set j.toNat [])))), true) else (H0, false)
theorem pc_ha {h : Heap} {i j n : Int} (hy : (HA h i j).2 = true) : PC (at_ h.Pages i) j n = if rin n 1 1000000 = true then (Page.mk n (trim ((at_ h.Pages i).Slots.set j.toNat [])), true) else (P0, false) := by
 obtain ⟨hk, hi, hj, _, _⟩ := ha_yes hy
 have hpg := pok_pg hk _ (at_in _ _ hi).2.2
 unfold PC
 rw [hpg, hj]; simp
theorem spec_HeapClear (h : Heap) (i j n : Int) (hh : okH h) : spec_HeapClear.f h i j n = some (HCl h i j n) := by
 unfold spec_HeapClear.f HCl
 rw [spec_HeapAt h i j hh, Option.bind_some, in_rin]
 cases hy : (HA h i j).2 with
 | false => rw [if_neg (c := false = true ∧ _) (by simp)]; rfl
 | true =>
  obtain ⟨hk, hi, hj, _, _⟩ := ha_yes hy
  have him := at_in _ _ hi
  cases hn : rin n 1 1000000 with
  | false => rw [if_neg (c := true = true ∧ false = true) (by simp)]; rfl
  | true =>
   rw [if_neg (by decide), Option.bind_some, Option.bind_some, if_neg (by decide), spec_l10copy h hh, Option.bind_some, if_pos ⟨him.1, him.2.1⟩, spec_PageClear _ _ _ (hh.2 _ him.2.2), Option.bind_some, if_pos ⟨him.1, him.2.1⟩, pc_ha hy, hn, if_pos rfl, if_pos ⟨rfl, rfl⟩]
theorem pad_free {h : Heap} {a b : Nat} (ha : a ≤ h.Pages.length) (hf : (HT h (a : Int) (b : Int)).2 = false) : ∃ x, (pad (pgAt h (a : Int)).Slots b)[b]? = some x ∧ (TR x).2 = false := by
  have hl := pad_len (pgAt h (a : Int)).Slots b
  refine ⟨_, List.getElem?_eq_getElem hl, ?_⟩
  by_cases hb : b < (pgAt h (a : Int)).Slots.length
  · have e : pgAt h (a : Int) = at_ h.Pages (a : Int) := by
      unfold pgAt at hb ⊢
      by_cases he : (a : Int) = (h.Pages.length : Int)
      · rw [if_pos he] at hb; exact absurd hb (by simp [P0])
      · rw [if_neg he]
    have hne : ¬ (a : Int) = (h.Pages.length : Int) := fun he => by
      unfold pgAt at hb
      rw [if_pos he] at hb; exact absurd hb (by simp [P0])
    unfold HT at hf
    rw [if_pos ⟨rin_iff.2 ⟨by omega, by omega⟩, rin_iff.2 ⟨by omega, by rw [← e]; omega⟩⟩, ← e, at_nat _ b hb] at hf
    have : (pad (pgAt h (a : Int)).Slots b)[b] = (pgAt h (a : Int)).Slots[b] := by simp only [pad_id _ _ hb]
    rw [this]; exact hf
  · have : (pad (pgAt h (a : Int)).Slots b)[b] ∈ List.replicate (b + 1 - (pgAt h (a : Int)).Slots.length) ([] : List Int) := by
      have e : (pad (pgAt h (a : Int)).Slots b)[b]? = (List.replicate (b + 1 - (pgAt h (a : Int)).Slots.length) ([] : List Int))[b - (pgAt h (a : Int)).Slots.length]? := by
        unfold pad
        rw [List.getElem?_append_right (by omega)]
      rw [List.getElem?_eq_getElem hl] at e
      exact List.mem_of_getElem? e.symm
    rw [List.eq_of_mem_replicate this, tr_nil]
theorem put_split {h : Heap} {a b : Nat} (ha : a ≤ h.Pages.length) (hf : (HT h (a : Int) (b : Int)).2 = false) : ∃ L R, (∀ x, RS a 0 ((pad (pgAt h (a : Int)).Slots b).set b x) = L ++ one a b x ++ R) ∧ RS a 0 (pgAt h (a : Int)).Slots = L ++ R := by
 have hl := pad_len (pgAt h (a : Int)).Slots b
 obtain ⟨x, hx, hx2⟩ := pad_free ha hf
 refine ⟨_, _, fun y => by rw [RS_set _ _ _ _ _ hl, Nat.zero_add], ?_⟩
 rw [List.getElem?_eq_getElem hl] at hx
 rw [← RS_pad a 0 b, RS_at a _ 0 b hl, Option.some.inj hx, Nat.zero_add]
 unfold one
 rw [hx2, if_neg (by decide), List.append_nil]
theorem set_two {α : Type} (l : List α) (i : Nat) (x y : α) : (l.set i x).set i y = l.set i y := List.set_set ..
theorem ps_pok {p : Page} {b : Nat} {t : Tuple} {n : Int} (hs : ∀ x ∈ p.Slots, SOK x = true) (ht : ok_Tuple t) (hk : TOK t = true) (hg : PG (PS p b (TB t) n) = true) : POK (PS p b (TB t) n) = true := by
 unfold POK
 rw [hg, Bool.true_and, List.all_eq_true]
 intro x hx
 rcases List.mem_or_eq_of_mem_set hx with hx | rfl
 · rcases mem_pad hx with hx | rfl
   · exact hs x hx
   · exact sok_nil
 · exact sok_tb t ht hk
theorem pgAt_sok {h : Heap} (hk : HOK h = true) (a : Nat) (ha : a ≤ h.Pages.length) : ∀ x ∈ (pgAt h (a : Int)).Slots, SOK x = true := by
 unfold pgAt
 by_cases he : (a : Int) = (h.Pages.length : Int)
 · rw [if_pos he]; intro x hx; cases hx
 · rw [if_neg he]
   have hl : a < h.Pages.length := by omega
   rw [at_nat _ a hl]
   exact (pok_slots (hok_pages hk _ (List.getElem_mem hl))).2.2
theorem put_ha {h g : Heap} {a b : Nat} {p : Page} {t : Tuple} {n : Int} (hp : Put h a p (PS p b (TB t) n) g) (hk : HOK g = true) (ht : ok_Tuple t) (hT : TOK t = true) : HA g (a : Int) (b : Int) = (t, true) := by
 obtain ⟨p1, p2⟩ := put_at hp
 have hl : b < (PS p b (TB t) n).Slots.length := by show b < ((pad p.Slots b).set b (TB t)).length; rw [List.length_set]; exact pad_len _ _
 unfold HA HT
 rw [if_pos hk, p2, if_pos ⟨rin_iff.2 ⟨by omega, by omega⟩, rin_iff.2 ⟨by omega, by omega⟩⟩]
 have : at_ (PS p b (TB t) n).Slots (b : Int) = TB t := at_set _ _ _ (pad_len _ _)
 rw [this, tr_tb t ht hT]
theorem heap_story {h : Heap} {i j : Int} {t : Tuple} {n x : Int} (hh : okH h) (ht : ok_Tuple t) (hn : InK .i64 n) (hx : rin x 0 400 = true) (hy : (HPut h i j t n).2 = true) :
    HOK (HPut h i j t n).1 = true ∧ (HA (HPut h i j t n).1 i j) = (t, true) ∧ (ROWS (HPut h i j t n).1).length = (ROWS h).length + 1 ∧ (ROWS h).length ≤ 256 ∧
    (HMk (HPut h i j t n).1 i j x n).2 = true ∧ HA (HMk (HPut h i j t n).1 i j x n).1 i j = (Tuple.mk t.Xmin x t.Key t.Value, true) ∧
    (HCl (HMk (HPut h i j t n).1 i j x n).1 i j n).2 = true ∧ ROWS (HCl (HMk (HPut h i j t n).1 i j x n).1 i j n).1 = ROWS h := by
  obtain ⟨a, b, rfl, rfl, a16, b16, hk, hT, hf, hnr, hpg, hpo, hput⟩ := put_hput hy
  obtain ⟨hR, hRw⟩ : okH (HPut h (a : Int) (b : Int) t n).1 ∧ True := by
    refine ⟨?_, trivial⟩
    unfold HPut
    rw [if_pos ⟨hk, hT, hf⟩]
    unfold HP
    split
    · rename_i hc
      have hp1 := pgAt_ok h (a : Int) hh hc.1 hc.2.1
      have hps : okP (PP (pgAt h (a : Int)) (b : Int) (TB t) n).1 := by
        unfold PP
        split
        · exact ps_ok _ _ _ _ hp1 (tb_ok t ht) hn (by omega)
        · exact okP0
      refine ⟨?_, fun q hq => ?_⟩
      · show ((hxs h _).set _ _).length ≤ _
        rw [List.length_set]
        have := hok16 hk
        unfold hxs
        split
        · simp; omega
        · omega
      · rcases List.mem_or_eq_of_mem_set hq with hq | rfl
        · unfold hxs at hq
          split at hq
          · rcases List.mem_append.1 hq with hq | hq
            · exact hh.2 q hq
            · rw [List.mem_singleton.1 hq]; exact okP0
          · exact hh.2 q hq
        · exact hps
    · exact ⟨by simp [H0], fun q hq => by cases hq⟩
  generalize (HPut h (a : Int) (b : Int) t n).1 = g at hput hR ⊢
  have hlt := hput.lt
  have hsk := pgAt_sok hk a hlt
  have hgk : HOK g = true := put_hok hput hk a16 (ps_pok hsk ht hT hpg)
  have hga := put_ha hput hgk ht hT
  obtain ⟨A, B, hA, hB⟩ := put_rows hput
  obtain ⟨L, R, hL, hR2⟩ := put_split hlt hf
  have hrow : ROWS h = A ++ (L ++ R) ++ B := by unfold ROWS; rw [if_pos hk, hA, hR2]
  have hone : one a b (TB t) = [Row.mk a b t] := by unfold one; rw [tr_tb t ht hT]; rfl
  have hgr : ROWS g = A ++ (L ++ [Row.mk a b t] ++ R) ++ B := by
    unfold ROWS
    rw [if_pos hgk, hB]
    show A ++ RS a 0 ((pad _ b).set b (TB t)) ++ B = _
    rw [hL, hone]
  have hrl : (ROWS h).length ≤ 256 := by
    have := rows_len hk h.Pages.length
    rw [List.take_length] at this
    unfold ROWS; rw [if_pos hk]; exact this
  -- marking
  have hy1 : (HA g (a : Int) (b : Int)).2 = true := by rw [hga]
  obtain ⟨hT2, hl2⟩ := tb_mark t x hT hx
  have hTM : TM g (a : Int) (b : Int) x = Tuple.mk t.Xmin x t.Key t.Value := by unfold TM; rw [hga]
  have ht2 : ok_Tuple (Tuple.mk t.Xmin x t.Key t.Value) := ⟨ht.1, by have := rin_iff.1 hx; exact i64_ok (by show _ ≤ x; omega) (by show x ≤ _; omega), ht.2.2.1, ht.2.2.2⟩
  obtain ⟨pg1, pg2⟩ := put_at hput
  have hm : HMk g (a : Int) (b : Int) x n = (Heap.mk (g.Pages.set a (PS (pgAt h (a : Int)) b (TB (Tuple.mk t.Xmin x t.Key t.Value)) n)), true) := by
    unfold HMk
    rw [if_pos ⟨hy1, hx, hnr⟩, hTM, pg2, Int.toNat_natCast, Int.toNat_natCast]
    show (Heap.mk (g.Pages.set a (Page.mk n (((pad _ b).set b (TB t)).set b _))), true) = _
    rw [set_two]; rfl
  have hm1 : (HMk g (a : Int) (b : Int) x n).1 = Heap.mk (g.Pages.set a (PS (pgAt h (a : Int)) b (TB (Tuple.mk t.Xmin x t.Key t.Value)) n)) := by rw [hm]
  have hmput : Put h a (pgAt h (a : Int)) (PS (pgAt h (a : Int)) b (TB (Tuple.mk t.Xmin x t.Key t.Value)) n) (HMk g (a : Int) (b : Int) x n).1 := by
    refine ⟨hlt, hput.old, ?_⟩
    rw [hm1]
    show g.Pages.set a _ = _
    rw [hput.new, set_two]
  have hpg2 : PG (PS (pgAt h (a : Int)) b (TB (Tuple.mk t.Xmin x t.Key t.Value)) n) = true := by
    have hl := pad_len (pgAt h (a : Int)).Slots b
    have e : PS (pgAt h (a : Int)) b (TB (Tuple.mk t.Xmin x t.Key t.Value)) n = PS (PS (pgAt h (a : Int)) b (TB t) n) b (TB (Tuple.mk t.Xmin x t.Key t.Value)) n := by
      show _ = Page.mk n ((pad ((pad _ b).set b (TB t)) b).set b _)
      rw [pad_id _ _ (by rw [List.length_set]; exact hl), set_two]; rfl
    rw [e]
    refine pg_set _ _ _ _ (by show b < ((pad _ b).set b _).length; rw [List.length_set]; exact hl) ?_ (rin_iff.2 (by have := rin_iff.1 hnr; omega)) hpg
    rw [hl2]
    show (TB t).length = (((pad _ b).set b (TB t))[b]'(by rw [List.length_set]; exact hl)).length
    rw [List.getElem_set_self]
  generalize hM : (HMk g (a : Int) (b : Int) x n).1 = m at hmput ⊢
  have hmk : HOK m = true := put_hok hmput hk a16 (ps_pok hsk ht2 hT2 hpg2)
  have hma := put_ha hmput hmk ht2 hT2
  obtain ⟨pm1, pm2⟩ := put_at hmput
  -- clearing
  have hy2 : (HA m (a : Int) (b : Int)).2 = true := by rw [hma]
  have hc : HCl m (a : Int) (b : Int) n = (Heap.mk (m.Pages.set a (Page.mk n (trim ((pad (pgAt h (a : Int)).Slots b).set b [])))), true) := by
    unfold HCl
    rw [if_pos ⟨hy2, hnr⟩, pm2, Int.toNat_natCast, Int.toNat_natCast]
    show (Heap.mk (m.Pages.set a (Page.mk n (trim (((pad _ b).set b _).set b [])))), true) = _
    rw [set_two]
  have hc1 : (HCl m (a : Int) (b : Int) n).1 = Heap.mk (m.Pages.set a (Page.mk n (trim ((pad (pgAt h (a : Int)).Slots b).set b [])))) := by rw [hc]
  have hcput : Put h a (pgAt h (a : Int)) (Page.mk n (trim ((pad (pgAt h (a : Int)).Slots b).set b []))) (HCl m (a : Int) (b : Int) n).1 := by
    refine ⟨hlt, hput.old, ?_⟩
    rw [hc1]
    show m.Pages.set a _ = _
    rw [hmput.new, set_two]
  have hq : POK (Page.mk n (trim ((pad (pgAt h (a : Int)).Slots b).set b []))) = true := by
    have := pok_trim (PS (pgAt h (a : Int)) b (TB t) n) b n (ps_pok hsk ht hT hpg) hnr
    have e : (PS (pgAt h (a : Int)) b (TB t) n).Slots.set b [] = (pad (pgAt h (a : Int)).Slots b).set b [] := set_two _ _ _ _
    rw [e] at this; exact this
  refine ⟨hgk, hga, ?_, hrl, by rw [hm], hma, by rw [hc], ?_⟩
  · rw [hgr, hrow]; simp; omega
  · obtain ⟨A', B', hA', hB'⟩ := put_rows hcput
    have hkk := put_hok hcput hk a16 hq
    unfold ROWS
    rw [if_pos hkk, if_pos hk, hB', hA']
    show A' ++ RS a 0 (trim _) ++ B' = _
    rw [RS_trim, hL, one_nil, List.append_nil, hR2]
end Go.Proofs.YtegicanjlefmdaaGreat
set_option linter.unusedVariables false
set_option linter.unusedSimpArgs false
namespace Go.Proofs.YtegicanjlefmdaaGreat
open Go V Ieee
theorem pg16 {p : Page} (h : PG p = true) : p.Slots.length ≤ 16 := by
 unfold PG at h
 simp only [Bool.and_eq_true, decide_eq_true_eq] at h
 exact h.1.1.1.2
theorem spec_PagePlace_ok (p : Page) (n : Int) (hp : okP p) (hn : InK .i64 n) : Ok (spec_PagePlace.f p n) fun r => -1 ≤ r ∧ r ≤ (p.Slots.length : Int) := by
 unfold spec_PagePlace.f
 rw [spec_PageUsed p hp, Option.bind_some, in_rin]
 have hl := hp.2.1
 refine Ok.bind (P := fun _ => True) (Ok.ite (fun _ => Ok.ret trivial) fun _ => Ok.ret trivial) fun y _ => Ok.ite (fun _ => Ok.ret ⟨by omega, by omega⟩) fun _ => ?_
 refine Ok.iter (fun s => 0 ≤ s ∧ s ≤ (p.Slots.length : Int)) (fun s => ((p.Slots.length : Int) - s).toNat) (fun s hs => ?_) _ ⟨by omega, by omega⟩
 unfold spec_PagePlace.b0
 refine Ok.ite (fun hc => ?_) fun _ => Ok.out (Ok.ite (fun _ => Ok.ret ⟨by omega, by omega⟩) fun _ => Ok.ret ⟨by omega, by omega⟩)
 have hc' : s < (p.Slots.length : Int) := by simpa using hc
 refine Ok.grd ⟨hs.1, hc'⟩ (Ok.ite (fun _ => Ok.ret ⟨by omega, by omega⟩) fun _ => Ok.ret ?_)
 show (_ ∧ _) ∧ _
 rw [w64 (by omega) (by omega)]
 omega
theorem spec_HeapPlace_ok (h : Heap) (n : Int) (hh : okH h) (hn : InK .i64 n) : Ok (spec_HeapPlace.f h n) fun r => True := by
 unfold spec_HeapPlace.f
 rw [spec_HeapOk h hh, Option.bind_some, in_rin]
 have hl := hh.1
 refine Ok.bind (P := fun _ => True) (Ok.ite (fun _ => Ok.ret trivial) fun _ => Ok.ret trivial) fun y _ => Ok.ite (fun _ => Ok.ret trivial) fun _ => ?_
 refine Ok.iter (fun s => 0 ≤ s ∧ s ≤ (h.Pages.length : Int)) (fun s => ((h.Pages.length : Int) - s).toNat) (fun s hs => ?_) _ ⟨by omega, by omega⟩
 unfold spec_HeapPlace.b0
 refine Ok.ite (fun hc => ?_) fun _ => Ok.out (Ok.ite (fun _ => Ok.ret trivial) fun _ => Ok.ret trivial)
 have hc' : s < (h.Pages.length : Int) := by simpa using hc
 obtain ⟨k, hk⟩ := Int.eq_ofNat_of_zero_le hs.1
 refine Ok.grd ⟨hs.1, hc'⟩ (Ok.bind (spec_PagePlace_ok _ n (by rw [hk, at_nat _ k (by omega)]; exact hh.2 _ (List.getElem_mem _)) hn) fun r _ => Ok.ite (fun _ => Ok.ret trivial) fun _ => Ok.ret ?_)
 show (_ ∧ _) ∧ _
 rw [w64 (by omega) (by omega)]
 omega
def okQ (p : Page) : Prop := okP p ∧ p.Slots.length ≤ 16
theorem okQ0 : okQ P0 := ⟨okP0, by simp [P0]⟩
theorem okQ_pp (p : Page) (j : Int) (b : List Int) (n : Int) (hp : okP p) (hb : okB b) (hn : InK .i64 n) : okQ (PP p j b n).1 := by
 unfold PP
 split
 · rename_i h
   have := rin_iff.1 h.2.1
   exact ⟨ps_ok p _ b n hp hb hn (by omega), pg16 h.2.2.2.2⟩
 · exact okQ0
theorem okQ_pc (p : Page) (j n : Int) (hp : okP p) : okQ (PC p j n).1 := by
 unfold PC
 split
 · rename_i h; exact ⟨okP_trim p _ n hp h.2.2, pg16 (pg_trim p _ n h.1 h.2.2)⟩
 · exact okQ0
theorem l7page_ok (c : l1Cur) (h : Ci c.b c.i) : Ok (spec_l7page.f c) fun r => okQ r.1 ∧ Ci c.b r.2.i := by
 unfold spec_l7page.f
 refine Ok.bind (l1Below_ok c 50 h (by omega)) fun r1 h1 => Ok.bind (l1Below_ok (l1Cur.mk c.b r1.2.i r1.2.h) 9 h1.2.2 (by omega)) fun r2 h2 => ?_
 obtain ⟨a1, a2, _⟩ := h1
 obtain ⟨b1, b2, b3⟩ := h2
 refine Ok.iter (fun s => 0 ≤ s.1 ∧ s.1 ≤ 9 ∧ Ci c.b s.2.1 ∧ okQ (Page.mk s.2.2.2.1 s.2.2.2.2)) (fun s => s.1.toNat) (fun s hs => ?_) _ ⟨b1, by show r2.1 ≤ 9; omega, b3, ⟨i64_ok (by show _ ≤ r1.1; omega) (by show r1.1 ≤ _; omega), by simp, fun x hx => by cases hx⟩, by simp⟩
 obtain ⟨s1, s2, s3, s4⟩ := hs
 unfold spec_l7page.b0
 refine Ok.ite (fun hc => ?_) fun _ => Ok.out (Ok.ret ⟨s4, s3⟩)
 have hc' : s.1 > 0 := by simpa using hc
 refine Ok.bind (l6tuple_ok (l1Cur.mk c.b s.2.1 s.2.2.1) s3) fun t ht => ?_
 have htb := tb_ok t.1 ht.1
 have htl := tb_len t.1
 refine Ok.bind (Ok.eq (spec_TupleBytes t.1 ht.1) (P := fun b => b = TB t.1) rfl) fun b hb => Ok.bind (l1Once_ok (l1Cur.mk c.b t.2.i t.2.h) 4 ht.2 (by omega)) fun o ho => ?_
 subst hb
 refine Ok.bind (P := fun y => (okB y.1 ∧ y.1.length ≤ 100) ∧ Ci c.b y.2.1) (Ok.ite (fun _ => ?_) fun _ => Ok.ret ⟨⟨htb, by show (TB t.1).length ≤ 100; omega⟩, ho⟩) fun y hy => ?_
 · refine Ok.bind (l1some_ok (l1Cur.mk c.b o.2.i o.2.h) 30 ho (by omega) (by omega)) fun q hq => ?_
   obtain ⟨⟨q1, q2⟩, q3⟩ := hq
   refine Ok.grd (by simp only [Lim, List.length_singleton]; omega) (Ok.ret ⟨⟨⟨by simp; omega, fun x hx => ?_⟩, by simp; omega⟩, q3⟩)
   rcases List.mem_append.1 hx with hx | hx
   · rw [List.mem_singleton.1 hx]; exact u8_ok (by decide) (by decide)
   · exact q2 x hx
 · obtain ⟨⟨y1, y2⟩, y3⟩ := hy
   refine Ok.bind (P := fun z => okQ (Page.mk z.1 z.2.1) ∧ Ci c.b z.2.2.2.1) ?_ fun z hz => ?_
   · refine Ok.bind (spec_PagePlace_ok _ _ s4.1 (i64_ok (by omega) (by omega))) fun pl hpl => Ok.bind (l1Below_ok (l1Cur.mk c.b y.2.1 y.2.2) 50 y3 (by omega)) fun v hv => ?_
     refine Ok.bind (Ok.eq (spec_PagePut _ pl _ _ s4.1 y1 (i64w _)) (P := fun w => okQ w.1) (okQ_pp _ _ _ _ s4.1 y1 (i64w _))) fun w hw => Ok.ret ⟨hw, hv.2.2⟩
   · refine Ok.bind (P := fun u => okQ (Page.mk u.1 u.2)) (Ok.ite (fun _ => Ok.ret hz.1) fun _ => Ok.ret s4) fun u hu => Ok.bind (l1Once_ok (l1Cur.mk c.b z.2.2.2.1 z.2.2.2.2) 5 hz.2 (by omega)) fun o2 ho2 => ?_
     refine Ok.bind (P := fun y => Ci c.b y.1 ∧ okQ (Page.mk y.2.2.1 y.2.2.2)) (Ok.ite (fun hc => ?_) fun _ => Ok.ret ⟨ho2, hu⟩) fun y hy => Ok.ret ?_
     · simp only [Bool.and_eq_true, decide_eq_true_eq] at hc
       refine Ok.bind (l1Below_ok (l1Cur.mk c.b o2.2.i o2.2.h) _ ho2 hc.2) fun v hv => Ok.bind (l1Below_ok (l1Cur.mk c.b v.2.i v.2.h) 50 hv.2.2 (by omega)) fun w hw => ?_
       exact Ok.bind (Ok.eq (spec_PageClear _ v.1 _ hu.1) (P := fun w => okQ w.1) (okQ_pc _ _ _ hu.1)) fun x hx => Ok.ret ⟨hw.2.2, hx⟩
     · show (_ ∧ _ ∧ _ ∧ _) ∧ _
       simp only []
       rw [w64 (n := s.1 - 1) (by omega) (by omega)]
       exact ⟨⟨by omega, by omega, hy.1, hy.2⟩, by omega⟩
theorem okB_nil : okB [] := ⟨by simp, fun x hx => by cases hx⟩
theorem okB_rep (k : Nat) (h : k ≤ 1048576) : okB (List.replicate k 0) := ⟨by simpa using h, fun x hx => by rw [List.eq_of_mem_replicate hx]; exact u8_ok (by decide) (by decide)⟩
theorem okB_app {l m : List (List Int)} (hl : ∀ b ∈ l, okB b) (hm : ∀ b ∈ m, okB b) : ∀ b ∈ l ++ m, okB b := fun b hb => by
 rcases List.mem_append.1 hb with h | h
 · exact hl b h
 · exact hm b h
theorem l7bent_ok (c : l1Cur) (p : Page) (h : Ci c.b c.i) (hp : okQ p) : Ok (spec_l7bent.f c p) fun r => okP r.1 ∧ Ci c.b r.2.i := by
 unfold spec_l7bent.f
 obtain ⟨⟨p1, p2, p3⟩, p4⟩ := hp
 refine Ok.bind (l1Below_ok c 14 h (by omega)) fun r hr => ?_
 have k := hr.2.2
 refine Ok.bind (P := fun y => Ci c.b y.1 ∧ InK .i64 y.2.2.1 ∧ y.2.2.2.length ≤ 100 ∧ ∀ b ∈ y.2.2.2, okB b) ?_ fun y hy => Ok.ret ⟨⟨hy.2.1, by have := hy.2.2.1; show y.2.2.2.length ≤ _; omega, hy.2.2.2⟩, hy.1⟩
 refine Ok.ite (fun _ => ?_) fun _ => ?_
 · refine Ok.bind (l1PickInt_ok (l1Cur.mk c.b r.2.i r.2.h) _ k (by simp)) fun q hq => Ok.ret ⟨hq.2, ?_, by show p.Slots.length ≤ 100; omega, p3⟩
   have := hq.1
   simp only [List.mem_cons, List.not_mem_nil, or_false] at this
   exact i64_ok (by show _ ≤ q.1; omega) (by show q.1 ≤ _; omega)
 · refine Ok.bind (P := fun y => Ci c.b y.1 ∧ y.2.2.length ≤ 100 ∧ ∀ b ∈ y.2.2, okB b) ?_ fun y hy => Ok.ret ⟨hy.1, p1, hy.2⟩
   refine Ok.ite (fun _ => Ok.grd (by simp only [Lim, List.length_singleton]; omega) (Ok.ret ⟨k, by simp; omega, okB_app p3 fun b hb => by rw [List.mem_singleton.1 hb]; exact okB_nil⟩)) fun _ => ?_
   refine Ok.bind (P := fun y => Ci c.b y.1 ∧ y.2.2.length ≤ 100 ∧ ∀ b ∈ y.2.2, okB b) ?_ fun y hy => Ok.ret hy
   refine Ok.ite (fun _ => ?_) fun _ => ?_
   · refine Ok.iter (fun s => Ci c.b s.1 ∧ s.2.2.length ≤ 17 ∧ ∀ b ∈ s.2.2, okB b) (fun s => 17 - s.2.2.length) (fun s hs => ?_) _ ⟨k, by show p.Slots.length ≤ 17; omega, p3⟩
     obtain ⟨s1, s2, s3⟩ := hs
     unfold spec_l7bent.b0
     refine Ok.bind (l1Below_ok (l1Cur.mk c.b s.1 s.2.1) 2 s1 (by omega)) fun q hq => ?_
     obtain ⟨q1, q2, q3⟩ := hq
     rw [w64 (by omega) (by omega)]
     refine Ok.ite (fun hc => ?_) fun _ => Ok.out (Ok.ret ⟨q3, by show s.2.2.length ≤ 100; omega, s3⟩)
     have hc' : (s.2.2.length : Int) < 16 + q.1 := by simpa using hc
     exact Ok.grd (by simp only [Lim, List.length_singleton]; omega) (Ok.ret ⟨⟨q3, by simp; omega, okB_app s3 fun b hb => by rw [List.mem_singleton.1 hb]; exact ⟨by simp, fun x hx => by rw [List.mem_singleton.1 hx]; exact u8_ok (by decide) (by decide)⟩⟩, by simp; omega⟩)
   · refine Ok.bind (P := fun y => Ci c.b y.1 ∧ y.2.2.length ≤ 100 ∧ ∀ b ∈ y.2.2, okB b) ?_ fun y hy => Ok.ret hy
     refine Ok.ite (fun _ => ?_) fun _ => ?_
     · refine Ok.bind (l1Below_ok (l1Cur.mk c.b r.2.i r.2.h) 2 k (by omega)) fun q hq => ?_
       obtain ⟨q1, q2, q3⟩ := hq
       rw [w64 (by omega) (by omega)]
       exact Ok.grd ⟨by omega, by simp only [Lim]; omega⟩ (Ok.grd (by simp only [Lim, List.length_singleton]; omega) (Ok.ret ⟨q3, by simp; omega, okB_app p3 fun b hb => by rw [List.mem_singleton.1 hb]; exact okB_rep _ (by omega)⟩))
     · refine Ok.bind (P := fun y => y.length ≤ 100 ∧ ∀ b ∈ y, okB b) (Ok.ite (fun _ => ?_) fun _ => Ok.ret ⟨by omega, p3⟩) fun y hy => Ok.ret ⟨k, hy⟩
       have h92 : (0 : Int) ≤ 92 ∧ (92 : Int) ≤ (Lim : Int) := ⟨by decide, by simp only [Lim]; omega⟩
       refine Ok.bind (P := fun y => y.length = 2 ∧ ∀ b ∈ y, okB b) (Ok.grd h92 (Ok.grd h92 (Ok.ret ⟨rfl, fun b hb => ?_⟩))) fun y hy => Ok.grd (by simp only [Lim, hy.1]; omega) (Ok.ret ⟨by rw [List.length_append, hy.1]; omega, okB_app p3 hy.2⟩)
       simp only [List.mem_cons, List.not_mem_nil, or_false] at hb
       rcases hb with rfl | rfl <;> exact okB_rep _ (by omega)
theorem okH0' : okH H0 := ⟨by simp [H0], fun p hp => by cases hp⟩
theorem hok0 : HOK H0 = true := by unfold HOK H0; simp
theorem okH_hput (h : Heap) (i j : Int) (t : Tuple) (n : Int) (hh : okH h) (ht : ok_Tuple t) (hn : InK .i64 n) : okH (HPut h i j t n).1 := by
 unfold HPut
 split
 · rename_i hk
   unfold HP
   split
   · rename_i hc
     have hp1 := pgAt_ok h i hh hc.1 hc.2.1
     refine ⟨?_, fun q hq => ?_⟩
     · show ((hxs h _).set _ _).length ≤ _
       rw [List.length_set]
       have := hok16 hk.1
       unfold hxs
       split
       · simp; omega
       · omega
     · rcases List.mem_or_eq_of_mem_set hq with hq | rfl
       · unfold hxs at hq
         split at hq
         · rcases List.mem_append.1 hq with hq | hq
           · exact hh.2 q hq
           · rw [List.mem_singleton.1 hq]; exact okP0
         · exact hh.2 q hq
       · exact (okQ_pp _ _ _ _ hp1 (tb_ok t ht) hn).1
   · exact okH0'
 · exact okH0'
theorem hok_hput (h : Heap) (i j : Int) (t : Tuple) (n : Int) (hh : okH h) (ht : ok_Tuple t) (hn : InK .i64 n) : HOK (HPut h i j t n).1 = true := by
 by_cases hy : (HPut h i j t n).2 = true
 · exact (heap_story (x := 0) hh ht hn (by decide) hy).1
 · unfold HPut at hy ⊢
   split
   · rename_i hc
     rw [if_pos hc] at hy
     unfold HP at hy ⊢
     split
     · rename_i hd
       rw [if_pos hd] at hy; exact absurd rfl hy
     · exact hok0
   · exact hok0
theorem hcl_ok (h : Heap) (i j n : Int) (hh : okH h) (hk : HOK h = true) : okH (HCl h i j n).1 ∧ HOK (HCl h i j n).1 = true := by
 unfold HCl
 split
 · rename_i hc
   obtain ⟨_, hi, hj, _, _⟩ := ha_yes hc.1
   have hir := rin_iff.1 hi
   have him := at_in _ _ hi
   obtain ⟨a, rfl⟩ := Int.eq_ofNat_of_zero_le hir.1
   refine ⟨⟨?_, fun q hq => ?_⟩, ?_⟩
   · show (h.Pages.set _ _).length ≤ _
     rw [List.length_set]; exact hh.1
   · rcases List.mem_or_eq_of_mem_set hq with hq | rfl
     · exact hh.2 q hq
     · exact okP_trim _ _ n (hh.2 _ him.2.2) hc.2
   · have h16 := hok16 hk
     have hne : ¬ a = h.Pages.length := by omega
     refine put_hok (h := h) (i := a) (p := at_ h.Pages (a : Int)) ⟨by omega, by rw [if_neg hne], ?_⟩ hk (by omega) (pok_trim _ j.toNat n (hok_pages hk _ him.2.2) hc.2)
     rw [if_neg hne, Int.toNat_natCast]
 · exact ⟨okH0', hok0⟩
theorem okH_app {l : List Page} {p : Page} (h : okH (Heap.mk l)) (hl : l.length ≤ 100) (hp : okP p) : okH (Heap.mk (l ++ [p])) := by
 refine ⟨by show (l ++ [p]).length ≤ _; simp; omega, fun q hq => ?_⟩
 rcases List.mem_append.1 hq with hq | hq
 · exact h.2 q hq
 · rw [List.mem_singleton.1 hq]; exact hp
theorem l10heap_ok (c : l1Cur) (m : Int) (h : Ci c.b c.i) (h0 : 0 ≤ m) (hm : m ≤ 1000) : Ok (spec_l10heap.f c m) fun r => okH r.1 ∧ Ci c.b r.2.i := by
 unfold spec_l10heap.f
 rw [w64 (by omega) (by omega)]
 refine Ok.bind (l1Below_ok c _ h (by omega)) fun r hr => ?_
 obtain ⟨r1, r2, r3⟩ := hr
 refine Ok.iter (fun s => 0 ≤ s.1 ∧ s.1 ≤ 1000 ∧ Ci c.b s.2.1 ∧ okH (Heap.mk s.2.2.2) ∧ HOK (Heap.mk s.2.2.2) = true) (fun s => s.1.toNat) (fun s hs => ?_) _ ⟨r1, by show r.1 ≤ 1000; omega, r3, okH0', hok0⟩
 obtain ⟨s1, s2, s3, s4, s5⟩ := hs
 unfold spec_l10heap.b0
 refine Ok.ite (fun hc => ?_) fun _ => Ok.out ?_
 · have hc' : s.1 > 0 := by simpa using hc
   refine Ok.bind (l6tuple_ok (l1Cur.mk c.b s.2.1 s.2.2.1) s3) fun t ht => ?_
   have htl := tb_len t.1
   refine Ok.bind (Ok.eq (spec_TupleBytes t.1 ht.1) (P := fun b => b = TB t.1) rfl) fun b hb => ?_
   subst hb
   refine Ok.bind (spec_HeapPlace_ok _ _ s4 (i64_ok (by omega) (by omega))) fun pl _ => ?_
   refine Ok.bind (P := fun y => Ci c.b y.1 ∧ okH (Heap.mk y.2.2) ∧ HOK (Heap.mk y.2.2) = true) (Ok.ite (fun _ => ?_) fun _ => Ok.ret ⟨ht.2, s4, s5⟩) fun y hy => ?_
   · refine Ok.bind (l1Below_ok (l1Cur.mk c.b t.2.i t.2.h) 50 ht.2 (by omega)) fun v hv => ?_
     exact Ok.bind (Ok.eq (spec_HeapPut _ pl.1 pl.2 t.1 _ s4 ht.1 (i64w _)) (P := fun w => okH w.1 ∧ HOK w.1 = true) ⟨okH_hput _ _ _ _ _ s4 ht.1 (i64w _), hok_hput _ _ _ _ _ s4 ht.1 (i64w _)⟩) fun w hw => Ok.ret ⟨hv.2.2, hw⟩
   · refine Ok.bind (l1Once_ok (l1Cur.mk c.b y.1 y.2.1) 6 hy.1 (by omega)) fun o ho => ?_
     refine Ok.bind (P := fun y => Ci c.b y.1 ∧ okH (Heap.mk y.2.2) ∧ HOK (Heap.mk y.2.2) = true) (Ok.ite (fun _ => ?_) fun _ => Ok.ret ⟨ho, hy.2⟩) fun z hz => Ok.ret ?_
     · refine Ok.bind (Ok.eq (spec_HeapRows _ hy.2.1) (P := fun l => l = ROWS (Heap.mk y.2.2)) rfl) fun rows hrows => ?_
       refine Ok.bind (P := fun y => Ci c.b y.1 ∧ okH (Heap.mk y.2.2) ∧ HOK (Heap.mk y.2.2) = true) (Ok.ite (fun hc2 => ?_) fun _ => Ok.ret ⟨ho, hy.2⟩) fun q hq => Ok.ret hq
       have hc2' : (rows.length : Int) > 0 := by simpa using hc2
       refine Ok.bind (l1Below_ok (l1Cur.mk c.b o.2.i o.2.h) _ ho hc2') fun v hv => Ok.grd ⟨hv.1, hv.2.1⟩ (Ok.bind (l1Below_ok (l1Cur.mk c.b v.2.i v.2.h) 50 hv.2.2 (by omega)) fun w hw => ?_)
       exact Ok.bind (Ok.eq (spec_HeapClear _ _ _ _ hy.2.1) (P := fun w => okH w.1 ∧ HOK w.1 = true) (hcl_ok _ _ _ _ hy.2.1 hy.2.2)) fun x hx => Ok.ret ⟨hw.2.2, hx⟩
     · show (_ ∧ _ ∧ _ ∧ _) ∧ _
       simp only []
       rw [w64 (n := s.1 - 1) (by omega) (by omega)]
       exact ⟨⟨by omega, by omega, hz.1, hz.2⟩, by omega⟩
 · have h16 := hok16 s5
   simp only [] at h16
   refine Ok.bind (l1Below_ok (l1Cur.mk c.b s.2.1 s.2.2.1) 30 s3 (by omega)) fun q hq => ?_
   have k := hq.2.2
   refine Ok.bind (P := fun y => Ci c.b y.1 ∧ okH (Heap.mk y.2.2)) ?_ fun y hy => Ok.ret ⟨hy.2, hy.1⟩
   refine Ok.ite (fun _ => ?_) fun _ => ?_
   · refine Ok.bind (l7page_ok (l1Cur.mk c.b q.2.i q.2.h) k) fun p hp => Ok.bind (l7bent_ok (l1Cur.mk c.b p.2.i p.2.h) p.1 hp.2 hp.1) fun u hu => ?_
     exact Ok.grd (by simp only [Lim, List.length_singleton]; omega) (Ok.ret ⟨hu.2, okH_app s4 (by omega) hu.1⟩)
   · refine Ok.bind (P := fun y => Ci c.b y.1 ∧ okH (Heap.mk y.2.2)) ?_ fun y hy => Ok.ret hy
     refine Ok.ite (fun _ => ?_) fun _ => ?_
     · refine Ok.iter (fun s => Ci c.b s.1 ∧ s.2.2.length ≤ 17 ∧ okH (Heap.mk s.2.2)) (fun s => 17 - s.2.2.length) (fun z hz => ?_) _ ⟨k, by show s.2.2.2.length ≤ 17; omega, s4⟩
       obtain ⟨z1, z2, z3⟩ := hz
       unfold spec_l10heap.b1
       refine Ok.bind (l1Below_ok (l1Cur.mk c.b z.1 z.2.1) 2 z1 (by omega)) fun v hv => ?_
       obtain ⟨v1, v2, v3⟩ := hv
       rw [w64 (by omega) (by omega)]
       refine Ok.ite (fun hc => ?_) fun _ => Ok.out (Ok.ret ⟨v3, z3⟩)
       have hc' : (z.2.2.length : Int) < 16 + v.1 := by simpa using hc
       exact Ok.grd (by simp only [Lim, List.length_singleton]; omega) (Ok.ret ⟨⟨v3, by simp; omega, okH_app z3 (by omega) okP0⟩, by simp; omega⟩)
     · refine Ok.bind (P := fun y => okH (Heap.mk y)) (Ok.ite (fun _ => ?_) fun _ => Ok.ret s4) fun y hy => Ok.ret ⟨k, hy⟩
       refine Ok.bind (P := fun y => okH (Heap.mk y)) (Ok.ite (fun hc => ?_) fun _ => Ok.ret s4) fun y hy => Ok.ret hy
       have hc' : (s.2.2.2.length : Int) > 0 := by simpa using hc
       have h0 : 0 < s.2.2.2.length := by omega
       have hp := s4.2 _ (List.getElem_mem h0)
       have hpq := pok_slots (hok_pages s5 _ (List.getElem_mem h0))
       have e0 : at_ s.2.2.2 (0 : Int) = s.2.2.2[0] := at_nat _ 0 h0
       have h162 : (s.2.2.2[0]).Slots.length ≤ 16 := hpq.1
       refine Ok.grd ⟨by omega, by omega⟩ (Ok.grd (by rw [e0]; simp only [Lim, List.length_singleton]; omega) (Ok.grd ⟨by omega, by omega⟩ (Ok.bind (Ok.ret (P := fun y => okH (Heap.mk y)) ⟨?_, fun p hp2 => ?_⟩) fun y hy => Ok.ret hy)))
       · show (List.set _ _ _).length ≤ _
         rw [List.length_set]; exact s4.1
       · rcases List.mem_or_eq_of_mem_set hp2 with hp2 | rfl
         · exact s4.2 p hp2
         · rw [e0]
           refine ⟨hp.1, by simp; omega, okB_app hp.2.2 fun b hb => ?_⟩
           rw [List.mem_singleton.1 hb]
           refine ⟨by simp, fun x hx => ?_⟩
           simp only [List.mem_cons, List.not_mem_nil, or_false] at hx
           rcases hx with rfl | rfl | rfl <;> exact u8_ok (by decide) (by decide)
end Go.Proofs.YtegicanjlefmdaaGreat
set_option linter.unusedVariables false
set_option linter.unusedSimpArgs false
set_option linter.unusedSectionVars false
namespace Go.Proofs.YtegicanjlefmdaaGreat
open Go V Ieee
def runL {α σ O : Type} (step : σ → α → σ ⊕ O) (fin : σ → O) : List α → σ → O
 | [], s => fin s
 | x :: xs, s => match step s x with
  | .inl s' => runL step fin xs s'
  | .inr o => o
theorem iter_runL {α σ O S : Type} {body : S → Option (S ⊕ O)} (xs : List α) (emb : σ → Nat → S) (step : σ → α → σ ⊕ O) (fin : σ → O) (Inv : σ → Nat → Prop)
    (h : ∀ s k (hk : k < xs.length), Inv s k → body (emb s k) = some (match step s xs[k] with
      | .inl s' => .inl (emb s' (k + 1))
      | .inr o => .inr o) ∧ ∀ s', step s xs[k] = .inl s' → Inv s' (k + 1))
    (hn : ∀ s, Inv s xs.length → body (emb s xs.length) = some (.inr (fin s))) (s0 : σ) (h0 : Inv s0 0) : iter body (emb s0 0) = some (runL step fin xs s0) := by
  have key : ∀ (m k : Nat) (s : σ), k + m = xs.length → Inv s k → iter body (emb s k) = some (runL step fin (xs.drop k) s) := by
    intro m
    induction m with
    | zero =>
      intro k s hk hI
      have : k = xs.length := by omega
      subst this
      rw [List.drop_length, iter_r (hn s hI)]; rfl
    | succ m ih =>
      intro k s hk hI
      have hlt : k < xs.length := by omega
      obtain ⟨hb, hs⟩ := h s k hlt hI
      rw [List.drop_eq_getElem_cons hlt]
      unfold runL
      cases hst : step s xs[k] with
      | inl s' => rw [hst] at hb; rw [iter_l hb]; exact ih (k + 1) s' (by omega) (hs s' hst)
      | inr o => rw [hst] at hb; rw [iter_r hb]
  have := key xs.length 0 s0 (by omega) h0
  rwa [List.drop_zero] at this
def SGN (a b : Int) : Int := if a < b then -1 else if a > b then 1 else 0
theorem sgn_0 {a b : Int} : SGN a b = 0 ↔ a = b := by
 unfold SGN
 split
 · constructor <;> omega
 · split
   · constructor <;> omega
   · constructor <;> omega
def ICM (a b : Item) : Int := if a.Kind ≠ b.Kind then SGN a.Kind b.Kind else if a.N ≠ b.N then SGN a.N b.N else if FRK a.F ≠ FRK b.F then SGN (FRK a.F) (FRK b.F) else bcmp a.T b.T
theorem bcmp_at : ∀ (p : Nat) (xs ys : List Int) (h1 : p < xs.length) (h2 : p < ys.length), (∀ i, i < p → xs[i]? = ys[i]?) → xs[p] ≠ ys[p] → bcmp xs ys = if xs[p] < ys[p] then -1 else 1
 | 0, x :: xs, y :: ys, h1, h2, h, hne => by
  unfold bcmp
  have : (x == y) = false := by simpa using hne
  rw [this]
  simp only [cond_false, List.getElem_cons_zero]
  by_cases hlt : x < y
  · rw [if_pos hlt, decide_eq_true hlt]; rfl
  · rw [if_neg hlt, decide_eq_false hlt]; rfl
 | p + 1, x :: xs, y :: ys, h1, h2, h, hne => by
  unfold bcmp
  have h0 := h 0 (by omega)
  simp only [List.getElem?_cons_zero, Option.some.injEq] at h0
  have : (x == y) = true := by simpa using h0
  rw [this]
  simp only [cond_true, List.getElem_cons_succ]
  exact bcmp_at p xs ys (by simpa using h1) (by simpa using h2) (fun i hi => by simpa using h (i + 1) (by omega)) (by simpa using hne)
theorem bcmp_end : ∀ (xs ys : List Int), (∀ i, i < xs.length → i < ys.length → xs[i]? = ys[i]?) → bcmp xs ys = if xs.length < ys.length then -1 else if xs.length > ys.length then 1 else 0
 | [], [], _ => rfl
 | [], y :: ys, _ => by simp [bcmp]
 | x :: xs, [], _ => by simp [bcmp]
 | x :: xs, y :: ys, h => by
  unfold bcmp
  have h0 := h 0 (by simp) (by simp)
  simp only [List.getElem?_cons_zero, Option.some.injEq] at h0
  have : (x == y) = true := by simpa using h0
  rw [this]
  simp only [cond_true, List.length_cons]
  rw [bcmp_end xs ys fun i h1 h2 => by simpa using h (i + 1) (by simpa using h1) (by simpa using h2)]
  simp
theorem str_data (xs : List Int) : (str xs).data.toList = xs.map fun n => UInt8.ofNat n.toNat := by
 have key : ∀ (xs : List Int) (acc : ByteArray), (xs.foldl (fun r n => r.push (UInt8.ofNat n.toNat)) acc).data.toList = acc.data.toList ++ xs.map fun n => UInt8.ofNat n.toNat := by
  intro xs
  induction xs with
  | nil => intro acc; simp
  | cons x xs ih => intro acc; rw [List.foldl_cons, ih]; simp
 exact (key xs ByteArray.empty).trans (List.nil_append _)
theorem str_size (xs : List Int) : (str xs).size = xs.length := by
 have := congrArg List.length (str_data xs)
 rw [List.length_map, Array.length_toList] at this
 exact this
theorem str_get (xs : List Int) (i : Nat) (h : i < xs.length) : (str xs)[i]! = UInt8.ofNat (xs[i]).toNat := by
 have hs : i < (str xs).size := by rw [str_size]; exact h
 rw [getElem!_pos (str xs) i hs]
 have h1 : (str xs)[i] = (str xs).data[i] := rfl
 have h2 : (str xs).data.toList[i]? = (xs.map fun n => UInt8.ofNat n.toNat)[i]? := by rw [str_data]
 rw [List.getElem?_map, List.getElem?_eq_getElem h, Array.getElem?_toList, Array.getElem?_eq_getElem (show i < (str xs).data.size from hs)] at h2
 rw [h1]; exact Option.some.inj h2
theorem u8_lt {a b : Int} (ha : InK .u8 a) (hb : InK .u8 b) : (UInt8.ofNat a.toNat < UInt8.ofNat b.toNat) ↔ a < b := by
 have h1 := u8_of ha
 have h2 := u8_of hb
 rw [UInt8.lt_iff_toNat_lt, UInt8.toNat_ofNat', UInt8.toNat_ofNat', Nat.mod_eq_of_lt (by omega), Nat.mod_eq_of_lt (by omega)]
 omega
theorem u8_eq {a b : Int} (ha : InK .u8 a) (hb : InK .u8 b) : (UInt8.ofNat a.toNat = UInt8.ofNat b.toNat) ↔ a = b := by
 have h1 := u8_of ha
 have h2 := u8_of hb
 rw [← UInt8.toNat_inj, UInt8.toNat_ofNat', UInt8.toNat_ofNat', Nat.mod_eq_of_lt (by omega), Nat.mod_eq_of_lt (by omega)]
 omega
theorem bcmpS_eq (xs ys : List Int) (hx : ∀ x ∈ xs, InK .u8 x) (hy : ∀ x ∈ ys, InK .u8 x) : bcmpS xs ys = bcmp xs ys := by
 unfold bcmpS Extern.BytealgCompare.cmp
 rw [str_size, str_size]
 cases hf : (List.range (min xs.length ys.length)).find? (fun i => (str xs)[i]! != (str ys)[i]!) with
 | none =>
  rw [List.find?_eq_none] at hf
  rw [bcmp_end xs ys fun i h1 h2 => ?_]
  have := hf i (List.mem_range.2 (by omega))
  rw [str_get xs i h1, str_get ys i h2] at this
  have h3 : UInt8.ofNat (xs[i]).toNat = UInt8.ofNat (ys[i]).toNat := by simpa using this
  rw [List.getElem?_eq_getElem h1, List.getElem?_eq_getElem h2, (u8_eq (hx _ (List.getElem_mem h1)) (hy _ (List.getElem_mem h2))).1 h3]
 | some i =>
  have hm := List.mem_range.1 (List.mem_of_find?_eq_some hf)
  have h1 : i < xs.length := by omega
  have h2 : i < ys.length := by omega
  have hp := List.find?_some hf
  rw [List.find?_range_eq_some] at hf
  have hne : xs[i] ≠ ys[i] := fun e => by
   rw [str_get xs i h1, str_get ys i h2, e] at hp
   simp at hp
  rw [bcmp_at i xs ys h1 h2 (fun j hj => by
   have := hf.2.2 j hj
   rw [str_get xs j (by omega), str_get ys j (by omega)] at this
   have h3 : UInt8.ofNat (xs[j]).toNat = UInt8.ofNat (ys[j]).toNat := by simpa using this
   rw [List.getElem?_eq_getElem (by omega), List.getElem?_eq_getElem (by omega), (u8_eq (hx _ (List.getElem_mem (by omega))) (hy _ (List.getElem_mem (by omega)))).1 h3]) hne]
  simp only []
  rw [str_get xs i h1, str_get ys i h2]
  by_cases hlt : xs[i] < ys[i]
  · rw [if_pos hlt, if_pos ((u8_lt (hx _ (List.getElem_mem h1)) (hy _ (List.getElem_mem h2))).2 hlt)]
  · rw [if_neg hlt, if_neg fun h => hlt ((u8_lt (hx _ (List.getElem_mem h1)) (hy _ (List.getElem_mem h2))).1 h)]
theorem cmpI (a b : Int) : cmp_Compare_int.f a b = some (SGN a b) := by
 unfold cmp_Compare_int.f cmp_isNaN_int.f SGN
 simp only [bne_self_eq_false, Option.bind_some, Bool.false_eq_true, if_false, decide_eq_true_eq]
 split
 · rfl
 · split <;> rfl
theorem cmpU (a b : Int) : cmp_Compare_uint64.f a b = some (SGN a b) := by
 unfold cmp_Compare_uint64.f cmp_isNaN_uint64.f SGN
 simp only [bne_self_eq_false, Option.bind_some, Bool.false_eq_true, if_false, decide_eq_true_eq]
 split
 · rfl
 · split <;> rfl
theorem cmpOr (l : List Int) (hl : l.length ≤ 1000) : cmp_Or_int.f l = some (runL (fun (_ : Unit) x => if x ≠ 0 then .inr x else .inl ()) (fun _ => 0) l ()) := by
 unfold cmp_Or_int.f
 refine iter_runL l (fun _ k => (k : Int)) _ _ (fun _ _ => True) (fun s k hk _ => ⟨?_, fun _ _ => trivial⟩) (fun s _ => ?_) () trivial
 · unfold cmp_Or_int.b0
   rw [if_pos (by simp; omega), if_pos ⟨by omega, by omega⟩, at_nat _ k hk, w64 (by omega) (by omega)]
   by_cases h : l[k] = 0
   · rw [if_neg (by simpa using h), if_neg (by simpa using h)]; rfl
   · rw [if_pos (by simpa using h), if_pos (by simpa using h)]
 · unfold cmp_Or_int.b0
   rw [if_neg (by simp)]; rfl
theorem impl_compareItems (a b : Item) (ha : ok_Item a) (hb : ok_Item b) : impl_compareItems.f a b = some (ICM a b) := by
 unfold impl_compareItems.f impl_FloatCompare.f bytes_Compare.f
 rw [cmpI, Option.bind_some, cmpI, Option.bind_some, impl_FloatRank _ ha.2.2.1, Option.bind_some, impl_FloatRank _ hb.2.2.1, Option.bind_some, cmpU, Option.bind_some, Option.bind_some, Option.bind_some, bcmpS_eq _ _ ha.2.2.2.2 hb.2.2.2.2, cmpOr _ (by simp), Option.bind_some]
 congr 1
 unfold ICM runL
 by_cases h1 : a.Kind = b.Kind
 · rw [if_neg (by simpa using sgn_0.2 h1), if_neg (by simpa using h1)]
   simp only []
   unfold runL
   by_cases h2 : a.N = b.N
   · rw [if_neg (by simpa using sgn_0.2 h2), if_neg (by simpa using h2)]
     simp only []
     unfold runL
     by_cases h3 : FRK a.F = FRK b.F
     · rw [if_neg (by simp [sgn_0, h3]), if_neg (by simpa using h3)]
       simp only []
       unfold runL
       by_cases h4 : bcmp a.T b.T = 0
       · rw [if_neg (by simpa using h4)]; simp only []; unfold runL; exact h4.symm
       · rw [if_pos (by simpa using h4)]
     · rw [if_pos (fun h => h3 (by have := sgn_0.1 h; omega)), if_pos h3]
   · rw [if_pos (fun h => h2 (sgn_0.1 h)), if_pos h2]
 · rw [if_pos (fun h => h1 (sgn_0.1 h)), if_pos h1]
end Go.Proofs.YtegicanjlefmdaaGreat
