/- Plain laws: the sum of bytes tells one changed byte; drawn controls. -/
import Derived.Test.YtndhbfkahbbkaaaPh
import Derived.Test.YtndhbfkahbbkaaaPi
set_option linter.unusedVariables false
set_option linter.unusedSimpArgs false
namespace Go.Proofs.Ytndhbfkahbbkaaa
open Go V
theorem step_inj0 (x : Nat) (h : x < 4294967296) (h0 : stepN x = 0) : x = 0 := by
  unfold stepN at h0
  split at h0
  · have : x / 2 = 3988292384 := by
      have := congrArg (· ^^^ 3988292384) h0
      simpa [Nat.xor_assoc] using this
    omega
  · omega
theorem stp_inj0 (k x : Nat) (h : x < 4294967296) (h0 : stp k x = 0) : x = 0 := by
  induction k with
  | zero => exact h0
  | succ k ih => exact ih (step_inj0 _ (stp_lt k x h) h0)
theorem xor_eq0 {a b : Nat} (h : a ^^^ b = 0) : a = b := by
  have := congrArg (· ^^^ b) h
  simpa [Nat.xor_assoc] using this
theorem stp_inj (k a b : Nat) (ha : a < 4294967296) (hb : b < 4294967296) (h : stp k a = stp k b) : a = b := by
  apply xor_eq0
  refine stp_inj0 k _ (Nat.xor_lt_two_pow (n := 32) ha hb) ?_
  rw [stp_xor, h, Nat.xor_self]
def crcS (r : Nat) (xs : List Int) : Nat := xs.foldl (fun r b => stp 8 (r ^^^ b.toNat)) r
theorem crcS_lt (xs : List Int) (hx : ∀ x ∈ xs, InK .u8 x) : ∀ r, r < 4294967296 → crcS r xs < 4294967296 := by
  induction xs with
  | nil => intro r h; exact h
  | cons x xs ih =>
    intro r hr
    have := u8_of (hx x (by simp))
    exact ih (fun y hy => hx y (by simp [hy])) _ (stp_lt _ _ (Nat.xor_lt_two_pow (n := 32) hr (by omega)))
theorem crcS_inj (xs : List Int) (hx : ∀ x ∈ xs, InK .u8 x) : ∀ r r', r < 4294967296 → r' < 4294967296 → crcS r xs = crcS r' xs → r = r' := by
  induction xs with
  | nil => intro r r' _ _ h; exact h
  | cons x xs ih =>
    intro r r' hr hr' h
    have hb := u8_of (hx x (by simp))
    have l1 : r ^^^ x.toNat < 4294967296 := Nat.xor_lt_two_pow (n := 32) hr (by omega)
    have l2 : r' ^^^ x.toNat < 4294967296 := Nat.xor_lt_two_pow (n := 32) hr' (by omega)
    have := ih (fun y hy => hx y (by simp [hy])) _ _ (stp_lt 8 _ l1) (stp_lt 8 _ l2) h
    have := stp_inj 8 _ _ l1 l2 this
    have := congrArg (· ^^^ x.toNat) this
    simpa [Nat.xor_assoc] using this
/-- one changed byte changes the sum -/
theorem crc_one (a c : List Int) (x y : Int) (ha : ∀ z ∈ a, InK .u8 z) (hc : ∀ z ∈ c, InK .u8 z) (hx : InK .u8 x) (hy : InK .u8 y) (h : crc (a ++ x :: c) = crc (a ++ y :: c)) : x = y := by
  have h1 : crcN (a ++ x :: c) = crcN (a ++ y :: c) := by
    have := congrArg (· ^^^ 4294967295) h
    simpa [crc, Nat.xor_assoc] using this
  have e : ∀ z, crcN (a ++ z :: c) = crcS (stp 8 (crcS 4294967295 a ^^^ z.toNat)) c := fun z => by
    unfold crcN crcS; rw [List.foldl_append, List.foldl_cons]
  rw [e, e] at h1
  have hA := crcS_lt a ha 4294967295 (by omega)
  have bx := u8n hx
  have by' := u8n hy
  have l1 : crcS 4294967295 a ^^^ x.toNat < 4294967296 := Nat.xor_lt_two_pow (n := 32) hA (by omega)
  have l2 : crcS 4294967295 a ^^^ y.toNat < 4294967296 := Nat.xor_lt_two_pow (n := 32) hA (by omega)
  have := crcS_inj c hc _ _ (stp_lt 8 _ l1) (stp_lt 8 _ l2) h1
  have := stp_inj 8 _ _ l1 l2 this
  have : x.toNat = y.toNat := by
    have := congrArg (crcS 4294967295 a ^^^ ·) this
    simpa [← Nat.xor_assoc] using this
  omega
theorem le_inj {a b k : Nat} (ha : a < 256 ^ k) (hb : b < 256 ^ k) (h : le a k = le b k) : a = b := by
  have := congrArg val h
  rw [val_le, val_le, Nat.mod_eq_of_lt ha, Nat.mod_eq_of_lt hb] at this
  exact this
/-- a control's bytes: 17, their sum, zeros -/
theorem cb_form (c : Control) (h : CBok c) : ∃ f, f.length = 17 ∧ (∀ y ∈ f, InK .u8 y) ∧ CB c = f ++ le (crc f) 4 ++ List.replicate 43 0 := by
  refine ⟨FRh 9 (CBb c), ?_, frh_u8 9 _ (by omega) (by omega) (cbb_u8 c h), ?_⟩
  · have := (cb_read c h).2.2.2.2
    have hp2 : PN ((14 : Nat) : Int) 2 = [14, 0] := by decide
    unfold FRh; rw [this, hp2]; simp [this]
  · have hbl := (cb_read c h).2.2.2.2
    have hcr := crc_lt (FRh 9 (CBb c)) (frh_u8 9 _ (by omega) (by omega) (cbb_u8 c h))
    have hp2 : PN ((14 : Nat) : Int) 2 = [14, 0] := by decide
    have hfl : (FRh 9 (CBb c)).length = 17 := by unfold FRh; rw [hbl, hp2]; simp [hbl]
    unfold CB FR
    rw [if_pos h, if_pos ⟨by omega, by omega, by omega⟩, pn4 _ (by omega) (by omega), Int.toNat_natCast]
    unfold fill
    have : (FRh 9 (CBb c) ++ le (crc (FRh 9 (CBb c))) 4).length = 21 := by simp [le_len, hfl]
    rw [this]
/-- of another byte it is none -/
theorem changed (c : Control) (h : CBok c) (p : Nat) (hp : p < 21) (b : Int) (hb : InK .u8 b) (hne : b ≠ (CB c)[p]?.getD 0) : ∀ c', CB c' ≠ (CB c).set p b := by
  intro c' hc'
  obtain ⟨f, hf, hfu, hx⟩ := cb_form c h
  have hlen : ((CB c).set p b).length = 64 := by rw [List.length_set]; exact (cb_read c h).1
  have hok := cb_nil c' (by rw [hc']; intro h0; rw [h0] at hlen; simp at hlen)
  obtain ⟨f', hf', hfu', hx'⟩ := cb_form c' hok
  rw [hx'] at hc'
  have c1 := crc_lt f hfu
  have c2 := crc_lt f' hfu'
  by_cases h17 : p < 17
  · -- in the frame's head: the sums are the same
    have hset : (CB c).set p b = f.set p b ++ le (crc f) 4 ++ List.replicate 43 0 := by
      rw [hx, List.append_assoc, List.append_assoc, List.set_append, if_pos (by omega)]
    rw [hset, List.append_assoc, List.append_assoc] at hc'
    have h1 := List.append_inj hc' (by simp [hf, hf'])
    have h2 := List.append_inj h1.2 (by simp [le_len])
    have hcrc := le_inj (k := 4) (by omega) (by omega) h2.1
    have hfp : f = f.take p ++ f[p]'(by omega) :: f.drop (p + 1) := by
      rw [← List.drop_eq_getElem_cons (by omega), List.take_append_drop]
    have hfp' : f.set p b = f.take p ++ b :: f.drop (p + 1) := by
      rw [List.set_eq_take_append_cons_drop, if_pos (by omega)]
    rw [h1.1, hfp', ← hfp'] at hcrc
    rw [hfp'] at hcrc
    rw [hfp] at hcrc
    have e := crc_one (f.take p) (f.drop (p + 1)) b (f[p]'(by omega)) (fun z hz => hfu z (List.mem_of_mem_take hz)) (fun z hz => hfu z (List.mem_of_mem_drop hz)) hb (hfu _ (List.getElem_mem _)) (by
      have h3 : (f.take p ++ f[p]'(by omega) :: f.drop (p + 1)) = f := hfp.symm
      simp only [h3] at hcrc ⊢
      exact hcrc)
    apply hne
    rw [e, hx, List.append_assoc, List.getElem?_append_left (by omega), List.getElem?_eq_getElem (by omega)]
    rfl
  · -- in the sum: the heads are the same
    have hset : (CB c).set p b = f ++ ((le (crc f) 4).set (p - 17) b ++ List.replicate 43 0) := by
      rw [hx, List.append_assoc, List.set_append, if_neg (by omega), List.set_append, hf, if_pos (by rw [le_len]; omega)]
    rw [hset, List.append_assoc] at hc'
    have h1 := List.append_inj hc' (by omega)
    have h2 := List.append_inj h1.2 (by simp [le_len])
    rw [h1.1] at h2
    apply hne
    have : (le (crc f) 4)[p - 17]? = some b := by
      rw [h2.1, List.getElem?_set_self (by rw [le_len]; omega)]
    rw [hx, List.append_assoc, List.getElem?_append_right (by omega), hf, List.getElem?_append_left (by rw [le_len]; omega), this]
    rfl
end Go.Proofs.Ytndhbfkahbbkaaa
