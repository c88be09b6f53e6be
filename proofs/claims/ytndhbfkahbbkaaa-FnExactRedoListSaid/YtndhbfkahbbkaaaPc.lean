/- Plain laws: rows joined, frames, rows filled up: the program's and the reference's answer the same. -/
import Derived.Test.YtndhbfkahbbkaaaPb
set_option linter.unusedVariables false
set_option linter.unusedSimpArgs false
namespace Go.Proofs.Ytndhbfkahbbkaaa
open Go V
theorem grow_nil (n : Int) (h0 : 0 ≤ n) (h1 : n ≤ 1000000000) : slices_Grow_byte_byte_nil.f n = some [] := by
  unfold slices_Grow_byte_byte_nil.f
  have e : IntKind.wrap .i64 (n - IntKind.wrap .i64 ((0 : Int) - (([] : List Int).length : Int))) = n := by
    rw [List.length_nil, w64 (n := (0 : Int) - ((0 : Nat) : Int)) (by omega) (by omega)]
    rw [w64 (by omega) (by omega)]; omega
  rw [e, if_neg (by simp; omega)]
  by_cases hp : n > 0
  · rw [if_pos (by simpa using hp), if_pos (by simp [Lim]; omega), if_pos (by simp; omega)]
    simp
  · rw [if_neg (by simpa using hp)]; rfl
theorem flat_le {α : Type} (xs : List (List α)) (k : Nat) : (xs.take k).flatten.length ≤ xs.flatten.length := by
  conv => rhs; rw [← List.take_append_drop k xs, List.flatten_append, List.length_append]
  omega
theorem flat_succ {α : Type} (xs : List (List α)) (k : Nat) (h : k < xs.length) : (xs.take (k + 1)).flatten = (xs.take k).flatten ++ xs[k] := by
  rw [List.take_succ_eq_append_getElem h, List.flatten_append]; simp
theorem concatB (xs : List (List Int)) (hl : xs.length ≤ 1000000) (ht : xs.flatten.length ≤ 1000000000) : slices_Concat_byte_byte.f xs = some xs.flatten := by
  unfold slices_Concat_byte_byte.f
  have hst : ((0 : Int), (0 : Int)) = ((((xs.take 0).flatten.length : Nat) : Int), ((0 : Nat) : Int)) := by simp
  rw [hst]
  refine iter_for xs.length (fun k => ((((xs.take k).flatten.length : Nat) : Int), (k : Int))) _ (fun k hk => ?_) ?_
  · unfold slices_Concat_byte_byte.b0
    have h1 := flat_le xs (k + 1)
    simp only []
    rw [if_pos (by simp; omega), if_pos ⟨by omega, by omega⟩, at_nat xs k hk]
    rw [flat_succ xs k hk, List.length_append] at h1 ⊢
    rw [w64 (by omega) (by omega), if_neg (by simp; omega), w64 (by omega) (by omega)]
    simp
  · unfold slices_Concat_byte_byte.b0
    simp only [List.take_length]
    rw [if_neg (by simp), grow_nil _ (by omega) (by omega)]
    simp only [Option.bind_some]
    have : iter (slices_Concat_byte_byte.b1 xs) (([] : List Int), (0 : Int)) = some xs.flatten := by
      have hst : (([] : List Int), (0 : Int)) = ((xs.take 0).flatten, ((0 : Nat) : Int)) := by simp
      rw [hst]
      refine iter_for xs.length (fun k => ((xs.take k).flatten, (k : Int))) _ (fun k hk => ?_) ?_
      · unfold slices_Concat_byte_byte.b1
        have h1 := flat_le xs (k + 1)
        simp only []
        rw [if_pos (by simp; omega), if_pos ⟨by omega, by omega⟩, at_nat xs k hk]
        rw [flat_succ xs k hk] at h1 ⊢
        rw [List.length_append] at h1
        rw [if_pos (by simp only [Lim]; omega), w64 (by omega) (by omega)]
        simp
      · unfold slices_Concat_byte_byte.b1
        simp only [List.take_length]
        rw [if_neg (by simp)]; rfl
    rw [this]; rfl
theorem pn_u8 (n k : Int) : ∀ x ∈ PN n k, InK .u8 x := by
  intro x hx
  unfold PN at hx
  split at hx
  · simp only [le, List.mem_map] at hx
    obtain ⟨j, _, rfl⟩ := hx
    have := Nat.mod_lt (n.toNat / 256 ^ j) (show 256 > 0 by omega)
    simp [InK, IntKind.min, IntKind.max, IntKind.signed, IntKind.bits]
    omega
  · cases hx
def FRh (kind : Int) (b : List Int) : List Int := ([kind] ++ PN (b.length : Int) 2) ++ b
def FR (kind : Int) (b : List Int) : List Int := if 1 ≤ kind ∧ kind ≤ 255 ∧ b.length ≤ 1000 then FRh kind b ++ PN ((crc (FRh kind b) : Nat) : Int) 4 else []
theorem frh_u8 (kind : Int) (b : List Int) (h1 : 1 ≤ kind) (h2 : kind ≤ 255) (hb : ∀ x ∈ b, InK .u8 x) : ∀ x ∈ FRh kind b, InK .u8 x := by
  intro x hx
  simp only [FRh, List.mem_append, List.mem_singleton] at hx
  rcases hx with (rfl | hx) | hx
  · simp [InK, IntKind.min, IntKind.max, IntKind.signed, IntKind.bits]; omega
  · exact pn_u8 _ _ x hx
  · exact hb x hx
theorem frh_len (kind : Int) (b : List Int) : (FRh kind b).length ≤ 9 + b.length := by
  have := pn_len (b.length : Int) 2
  simp [FRh]; omega
theorem fr_len (kind : Int) (b : List Int) : (FR kind b).length ≤ 17 + b.length := by
  unfold FR; split
  · have := frh_len kind b
    have := pn_len ((crc (FRh kind b) : Nat) : Int) 4
    simp; omega
  · simp
theorem i64_nat (n : Nat) (h : n ≤ 9223372036854775807) : InK .i64 (n : Int) := by
  simp [InK, IntKind.min, IntKind.max, IntKind.signed, IntKind.bits]; omega
theorem i64_ok {n : Int} (h0 : -9223372036854775808 ≤ n) (h1 : n ≤ 9223372036854775807) : InK .i64 n := by
  simp [InK, IntKind.min, IntKind.max, IntKind.signed, IntKind.bits]; omega
theorem spec_Frame (kind : Int) (b : List Int) (hb : ∀ x ∈ b, InK .u8 x) : spec_Frame.f kind b = some (FR kind b) := by
  unfold spec_Frame.f FR
  by_cases hg : 1 ≤ kind ∧ kind ≤ 255 ∧ b.length ≤ 1000
  · obtain ⟨h1, h2, h3⟩ := hg
    rw [if_neg (by simp; omega), if_pos (by simp [Lim]), if_pos ⟨h1, h2, h3⟩]
    have hw : IntKind.wrap .u8 kind = kind := by rw [IntKind.wrap_u8]; omega
    rw [hw, spec_PutNum _ _ (i64_nat _ (by omega))]
    have hp := pn_len (b.length : Int) 2
    have he : (([] ++ [kind]) ++ PN (b.length : Int) 2) ++ b = FRh kind b := by simp [FRh]
    have hl := frh_len kind b
    simp only [Option.bind_some, he]
    have hcr := crc_lt (FRh kind b) (frh_u8 kind b h1 h2 hb)
    rw [if_pos (by simp [Lim]; omega), if_pos (by simp [Lim]; omega), spec_Crc _ (frh_u8 kind b h1 h2 hb) (by omega)]
    simp only [Option.bind_some]
    rw [spec_PutNum _ _ (i64_nat _ (by omega))]
    have hp2 := pn_len ((crc (FRh kind b) : Nat) : Int) 4
    simp only [Option.bind_some]
    rw [if_pos (by simp only [Lim]; omega)]
  · rw [if_pos (by simp; omega), if_neg hg]
theorem impl_Frame (kind : Int) (b : List Int) (hb : ∀ x ∈ b, InK .u8 x) : impl_Frame.f kind b = some (FR kind b) := by
  unfold impl_Frame.f impl_within.f FR
  simp only [Option.bind_some]
  by_cases hg : 1 ≤ kind ∧ kind ≤ 255 ∧ b.length ≤ 1000
  · obtain ⟨h1, h2, h3⟩ := hg
    rw [if_neg (by simp; omega), if_pos ⟨h1, h2, h3⟩]
    have hw : IntKind.wrap .u8 kind = kind := by rw [IntKind.wrap_u8]; omega
    rw [hw, impl_PutNum _ _ (i64_nat _ (by omega)) (i64_ok (by omega) (by omega))]
    have hp := pn_len (b.length : Int) 2
    have he : ([kind] ++ PN (b.length : Int) 2) ++ b = FRh kind b := rfl
    have hl := frh_len kind b
    simp only [Option.bind_some, he]
    have hcr := crc_lt (FRh kind b) (frh_u8 kind b h1 h2 hb)
    rw [if_pos (by simp [Lim]; omega), if_pos (by simp [Lim]; omega), impl_Crc _ (frh_u8 kind b h1 h2 hb) (by omega)]
    simp only [Option.bind_some]
    rw [impl_PutNum _ _ (i64_nat _ (by omega)) (i64_ok (by omega) (by omega))]
    have hp2 := pn_len ((crc (FRh kind b) : Nat) : Int) 4
    simp only [Option.bind_some]
    rw [if_pos (by simp only [Lim]; omega)]
  · rw [if_pos (by simp; omega), if_neg hg]
/-- filled up with zeros to n -/
def fill (x : List Int) (n : Nat) : List Int := x ++ List.replicate (n - x.length) 0
theorem spec_fill (x : List Int) (h : x.length ≤ 64) : spec_l17fill.f x = some (fill x 64) := by
  unfold spec_l17fill.f
  rw [if_pos (by simp [Lim])]
  have hst : (List.replicate (64 : Int).toNat (0 : Int), (0 : Int)) = (x.take 0 ++ List.replicate (64 - 0) 0, ((0 : Nat) : Int)) := by simp
  rw [hst]
  refine iter_for x.length (fun k => (x.take k ++ List.replicate (64 - k) 0, (k : Int))) _ (fun k hk => ?_) ?_
  · unfold spec_l17fill.b0
    have hl : (x.take k ++ List.replicate (64 - k) (0 : Int)).length = 64 := by rw [List.length_append, List.length_take, List.length_replicate]; omega
    simp only [hl]
    rw [if_pos (by simp; omega), if_pos ⟨by omega, by omega⟩, if_pos ⟨by omega, by omega⟩, at_nat x k hk, w64 (by omega) (by omega)]
    have hset : (x.take k ++ List.replicate (64 - k) (0 : Int)).set ((k : Int)).toNat x[k] = x.take (k + 1) ++ List.replicate (64 - (k + 1)) 0 := by
      rw [Int.toNat_natCast, List.set_append, if_neg (by simp; omega)]
      have : (x.take k).length = k := by simp; omega
      rw [this, Nat.sub_self, show 64 - k = (64 - (k + 1)) + 1 by omega, List.replicate_succ, List.set_cons_zero, List.take_succ_eq_append_getElem hk, List.append_assoc]
      rfl
    rw [hset]
    simp
  · unfold spec_l17fill.b0
    simp only [List.take_length]
    rw [if_neg (by simp)]; rfl
theorem impl_fill (x : List Int) (h : x.length ≤ 64) : impl_filled.f x 64 = some (fill x 64) := by
  unfold impl_filled.f slices_Clone_byte_byte.f
  rw [if_pos (by simp [Lim]; omega)]
  simp only [Option.bind_some, List.nil_append]
  rw [w64 (by omega) (by omega), if_pos (by simp only [Lim]; omega)]
  have : ((64 : Int) - (x.length : Int)).toNat = 64 - x.length := by omega
  rw [this]; rfl
end Go.Proofs.Ytndhbfkahbbkaaa
