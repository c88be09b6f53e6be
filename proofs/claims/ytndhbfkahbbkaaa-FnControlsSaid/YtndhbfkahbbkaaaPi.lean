/- Plain laws: cursors that draw. -/
import Derived.Test.YtndhbfkahbbkaaaPc
set_option linter.unusedVariables false
set_option linter.unusedSimpArgs false
namespace Go.Proofs.Ytndhbfkahbbkaaa
open Go V
theorem iand_mask (x : Int) (m : Nat) (hm : m < 9223372036854775808) : 0 ≤ iand .i64 x (m : Int) ∧ iand .i64 x (m : Int) ≤ m := by
  unfold iand
  have e : (BitVec.ofInt IntKind.i64.bits x &&& BitVec.ofInt IntKind.i64.bits (m : Int)).toNat ≤ m := by
    rw [BitVec.toNat_and, BitVec.ofInt_natCast, BitVec.toNat_ofNat, Nat.mod_eq_of_lt (show m < 2 ^ IntKind.i64.bits by show m < 2 ^ 64; omega)]
    exact Nat.and_le_right
  generalize (BitVec.ofInt IntKind.i64.bits x &&& BitVec.ofInt IntKind.i64.bits (m : Int)).toNat = y at *
  rw [w64 (by omega) (by omega)]
  omega
def Cur (c : l1Cur) : Prop := 0 ≤ c.i ∧ c.i ≤ (c.b.length : Int) ∧ c.b.length ≤ 1048576
theorem cur_eta (b : List Int) (c : l1Cur) (h : c.b = b) : l1Cur.mk b c.i c.h = c := by subst h; rfl
theorem l1Byte_ok (c : l1Cur) (h : Cur c) : ∃ r c', spec_l1Byte.f c = some (r, c') ∧ 0 ≤ r ∧ r ≤ 255 ∧ c'.b = c.b ∧ Cur c' := by
  obtain ⟨h0, h1, h2⟩ := h
  unfold spec_l1Byte.f
  have m1 := fun x => iand_mask x 255 (by omega)
  by_cases hi : c.i < (c.b.length : Int)
  · rw [if_pos (by simpa using hi), if_pos ⟨h0, hi⟩]
    simp only [Option.bind_some]
    refine ⟨_, _, rfl, (m1 _).1, by have := (m1 (IntKind.wrap .i64 ((iand .i64 (ixor .i64 (ishr .i64 (IntKind.wrap .i64 ((IntKind.wrap .i64 (c.h * (6364136223846793005 : Int))) + (1442695040888963407 : Int))) (33 : Int)) (ishr .i64 (IntKind.wrap .i64 ((IntKind.wrap .i64 (c.h * (6364136223846793005 : Int))) + (1442695040888963407 : Int))) (45 : Int))) (255 : Int)) + (IntKind.wrap .i64 (at_ c.b c.i))))).2; exact this, rfl, ?_, ?_, h2⟩
    · show 0 ≤ IntKind.wrap .i64 (c.i + 1)
      rw [w64 (by omega) (by omega)]; omega
    · show IntKind.wrap .i64 (c.i + 1) ≤ (c.b.length : Int)
      rw [w64 (by omega) (by omega)]; omega
  · rw [if_neg (by simpa using hi)]
    simp only [Option.bind_some]
    exact ⟨_, _, rfl, (m1 _).1, (m1 _).2, rfl, h0, h1, h2⟩
theorem tmod_lt {a n : Int} (h0 : 0 ≤ a) (hn : 0 < n) : 0 ≤ a.tmod n ∧ a.tmod n < n := by
  rw [Int.tmod_eq_emod_of_nonneg h0]
  exact ⟨Int.emod_nonneg _ (by omega), Int.emod_lt_of_pos _ hn⟩
theorem l1Below_ok (c : l1Cur) (n : Int) (h : Cur c) (hn : 0 < n) : ∃ r c', spec_l1Below.f c n = some (r, c') ∧ 0 ≤ r ∧ r < n ∧ c'.b = c.b ∧ Cur c' := by
  unfold spec_l1Below.f
  rw [if_neg (by simp; omega)]
  obtain ⟨r1, c1, e1, p1, q1, b1, k1⟩ := l1Byte_ok c h
  by_cases h256 : n ≤ 256
  · rw [if_pos (by simpa using h256), e1]
    simp only [Option.bind_some]
    rw [if_pos (by omega)]
    have := tmod_lt p1 hn
    exact ⟨_, _, rfl, this.1, this.2, rfl, by rw [cur_eta _ _ b1]; exact k1⟩
  · rw [if_neg (by simpa using h256), e1]
    simp only [Option.bind_some]
    rw [cur_eta _ _ b1]
    obtain ⟨r2, c2, e2, p2, q2, b2, k2⟩ := l1Byte_ok c1 k1
    rw [b1] at b2
    rw [e2]; simp only [Option.bind_some]; rw [cur_eta _ _ b2]
    obtain ⟨r3, c3, e3, p3, q3, b3, k3⟩ := l1Byte_ok c2 k2
    rw [b2] at b3
    rw [e3]; simp only [Option.bind_some]; rw [cur_eta _ _ b3]
    obtain ⟨r4, c4, e4, p4, q4, b4, k4⟩ := l1Byte_ok c3 k3
    rw [b3] at b4
    rw [e4]; simp only [Option.bind_some]; rw [cur_eta _ _ b4]
    rw [if_pos (by omega)]
    rw [w64 (n := r1 * 16777216) (by omega) (by omega), w64 (n := r2 * 65536) (by omega) (by omega), w64 (n := r1 * 16777216 + r2 * 65536) (by omega) (by omega), w64 (n := r3 * 256) (by omega) (by omega), w64 (n := r1 * 16777216 + r2 * 65536 + r3 * 256) (by omega) (by omega), w64 (by omega) (by omega)]
    have := tmod_lt (a := r1 * 16777216 + r2 * 65536 + r3 * 256 + r4) (by omega) hn
    exact ⟨_, _, rfl, this.1, this.2, b4, k4⟩
theorem l1PickInt_ok (c : l1Cur) (l : List Int) (h : Cur c) (hl : l ≠ []) : ∃ r c', spec_l1PickInt.f c l = some (r, c') ∧ r ∈ l ∧ c'.b = c.b ∧ Cur c' := by
  unfold spec_l1PickInt.f
  have hp : 0 < l.length := List.length_pos_iff.2 hl
  obtain ⟨r, c', e, p, q, b, k⟩ := l1Below_ok c (l.length : Int) h (by omega)
  rw [e]
  simp only [Option.bind_some]
  rw [if_pos ⟨p, q⟩, cur_eta _ _ b]
  obtain ⟨r, rfl⟩ := Int.eq_ofNat_of_zero_le p
  refine ⟨_, _, rfl, ?_, b, k⟩
  show at_ l (r : Int) ∈ l
  rw [at_nat l r (by omega)]
  exact List.getElem_mem _
theorem l1New_ok (a : List Int) (h : a.length ≤ 1048576) (ha : ∀ x ∈ a, InK .u8 x) : ∃ c, spec_l1New.f a = some c ∧ c.b = a ∧ Cur c := by
  unfold spec_l1New.f
  suffices ∀ (n : Nat) (i x : Int), (n : Int) = (a.length : Int) - i → 0 ≤ i → ∃ c, iter (spec_l1New.b0 a) (x, i) = some c ∧ c.b = a ∧ Cur c from this a.length 0 _ (by omega) (by omega)
  intro n
  induction n with
  | zero =>
    intro i x hn hi
    rw [iter_eq]
    unfold spec_l1New.b0
    simp only []
    rw [if_neg (by simp; omega)]
    exact ⟨_, rfl, rfl, Int.le_refl 0, by simp, h⟩
  | succ n ih =>
    intro i x hn hi
    rw [iter_eq]
    unfold spec_l1New.b0
    simp only []
    by_cases hc : i < 4000
    · rw [if_pos (by simp; omega), if_pos ⟨hi, by omega⟩]
      simp only [Option.bind_some]
      rw [w64 (n := i + 1) (by omega) (by omega)]
      exact ih (i + 1) _ (by omega) (by omega)
    · rw [if_neg (by simp; omega)]
      exact ⟨_, rfl, rfl, Int.le_refl 0, by simp, h⟩
theorem lawAt (a : List Int) (i : Int) (h : a.length ≤ 1048576) (ha : ∀ x ∈ a, InK .u8 x) (h0 : 0 ≤ i) (h1 : i ≤ 1000000) : ∃ r, laws_at.f a i = some r ∧ 0 ≤ r ∧ r ≤ 255 := by
  unfold laws_at.f
  by_cases hi : i < (a.length : Int)
  · obtain ⟨i, rfl⟩ := Int.eq_ofNat_of_zero_le h0
    have hb := ha a[i] (List.getElem_mem (by omega))
    rw [if_pos (by simpa using hi), if_pos ⟨h0, hi⟩, at_nat a i (by omega), wrap_u8n _ hb]
    have := u8_of hb
    exact ⟨_, rfl, this.1, this.2⟩
  · rw [if_neg (by simpa using hi), w64 (n := i * 7) (by omega) (by omega), w64 (by omega) (by omega)]
    have := tmod_lt (a := i * 7 + (a.length : Int)) (n := 256) (by omega) (by omega)
    exact ⟨_, rfl, this.1, by omega⟩
end Go.Proofs.Ytndhbfkahbbkaaa
