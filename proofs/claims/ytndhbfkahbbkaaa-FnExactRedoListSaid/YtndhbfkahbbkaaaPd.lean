/- Plain laws: control sectors: the program's and the reference's bytes are the same. -/
import Derived.Test.YtndhbfkahbbkaaaPc
set_option linter.unusedVariables false
set_option linter.unusedSimpArgs false
namespace Go.Proofs.Ytndhbfkahbbkaaa
open Go V
def CBok (c : Control) : Prop := 1 ≤ c.Seq ∧ c.Seq ≤ 1000000 ∧ 0 ≤ c.Area ∧ c.Area ≤ 1 ∧ 1 ≤ c.Lsn ∧ c.Lsn ≤ 1000000 ∧ 1 ≤ c.Next ∧ c.Next ≤ 401 ∧ 0 ≤ c.Pages ∧ c.Pages ≤ 16
instance (c : Control) : Decidable (CBok c) := by unfold CBok; infer_instance
def CBb (c : Control) : List Int := (((PN c.Seq 4 ++ [c.Area]) ++ PN c.Lsn 4) ++ PN c.Next 4) ++ [c.Pages]
def CB (c : Control) : List Int := if CBok c then fill (FR 9 (CBb c)) 64 else []
theorem cbb_u8 (c : Control) (h : CBok c) : ∀ x ∈ CBb c, InK .u8 x := by
  obtain ⟨h1, h2, h3, h4, h5, h6, h7, h8, h9, h10⟩ := h
  intro x hx
  simp only [CBb, List.mem_append, List.mem_singleton] at hx
  rcases hx with (((hx | rfl) | hx) | hx) | rfl
  · exact pn_u8 _ _ x hx
  · simp [InK, IntKind.min, IntKind.max, IntKind.signed, IntKind.bits]; omega
  · exact pn_u8 _ _ x hx
  · exact pn_u8 _ _ x hx
  · simp [InK, IntKind.min, IntKind.max, IntKind.signed, IntKind.bits]; omega
theorem cbb_len (c : Control) : (CBb c).length ≤ 26 := by
  have := pn_len c.Seq 4
  have := pn_len c.Lsn 4
  have := pn_len c.Next 4
  simp [CBb]; omega
theorem cb_len (c : Control) : (CB c).length ≤ 64 := by
  unfold CB; split
  · have := fr_len 9 (CBb c)
    have := cbb_len c
    simp [fill]; omega
  · simp
theorem in_some (a b c : Int) : spec_l5in.f a b c = some (decide (b ≤ a) && decide (a ≤ c)) := rfl
theorem within_some (a b c : Int) : impl_within.f a b c = some (decide (b ≤ a) && decide (a ≤ c)) := rfl
theorem five (p q r s t : Bool) (m1 m2 : Option (List Int)) :
    ((if (!p) = true then (some true : Option Bool) else (some q).bind fun x => some (!x)).bind fun y5 => (if y5 = true then (some true : Option Bool) else (some r).bind fun x => some (!x)).bind fun y15 =>
      (if y15 = true then (some true : Option Bool) else (some s).bind fun x => some (!x)).bind fun y22 => (if y22 = true then (some true : Option Bool) else (some t).bind fun x => some (!x)).bind fun y29 => if y29 = true then m1 else m2) =
    if (p && q && r && s && t) = true then m2 else m1 := by
  cases p <;> cases q <;> cases r <;> cases s <;> cases t <;> rfl
theorem cbok_iff (c : Control) : ((decide ((1 : Int) ≤ c.Seq) && decide (c.Seq ≤ 1000000)) && (decide ((0 : Int) ≤ c.Area) && decide (c.Area ≤ 1)) && (decide ((1 : Int) ≤ c.Lsn) && decide (c.Lsn ≤ 1000000)) && (decide ((1 : Int) ≤ c.Next) && decide (c.Next ≤ 401)) && (decide ((0 : Int) ≤ c.Pages) && decide (c.Pages ≤ 16))) = true ↔ CBok c := by
  simp [CBok]; omega
theorem spec_ControlBytes (c : Control) (h : ok_Control c) : spec_ControlBytes.f c = some (CB c) := by
  obtain ⟨hi1, hi2, hi3, hi4, hi5⟩ := h
  unfold spec_ControlBytes.f
  simp only [in_some]
  rw [Option.bind_some, five]
  unfold CB
  by_cases hg : CBok c
  · rw [if_pos ((cbok_iff c).2 hg), if_pos hg]
    have hg' := hg
    obtain ⟨h1, h2, h3, h4, h5, h6, h7, h8, h9, h10⟩ := hg'
    have w1 : IntKind.wrap .u8 c.Area = c.Area := by rw [IntKind.wrap_u8]; omega
    have w2 : IntKind.wrap .u8 c.Pages = c.Pages := by rw [IntKind.wrap_u8]; omega
    have l1 := pn_len c.Seq 4
    have l2 := pn_len c.Lsn 4
    have l3 := pn_len c.Next 4
    rw [spec_PutNum _ _ hi1, Option.bind_some, if_pos (by simp [Lim]; omega), spec_PutNum _ _ hi3, Option.bind_some, if_pos (by simp [Lim]; omega), spec_PutNum _ _ hi4, Option.bind_some, if_pos (by simp [Lim]; omega), if_pos (by simp [Lim]; omega), w1, w2]
    have he : (((PN c.Seq 4 ++ [c.Area]) ++ PN c.Lsn 4) ++ PN c.Next 4) ++ [c.Pages] = CBb c := rfl
    rw [he, spec_Frame _ _ (cbb_u8 c hg), Option.bind_some, spec_fill _ (by have := fr_len 9 (CBb c); have := cbb_len c; omega)]
    rfl
  · rw [if_neg (fun h => hg ((cbok_iff c).1 h)), if_neg hg]
theorem isLsn_some (a : Int) : impl_isLsn.f a = some (decide ((1 : Int) ≤ a) && decide (a ≤ 1000000)) := rfl
theorem impl_ControlBytes (c : Control) (h : ok_Control c) : impl_ControlBytes.f c = some (CB c) := by
  obtain ⟨hi1, hi2, hi3, hi4, hi5⟩ := h
  unfold impl_ControlBytes.f
  simp only [within_some, isLsn_some]
  rw [Option.bind_some, five]
  unfold CB
  by_cases hg : CBok c
  · rw [if_pos ((cbok_iff c).2 hg), if_pos hg]
    have hg' := hg
    obtain ⟨h1, h2, h3, h4, h5, h6, h7, h8, h9, h10⟩ := hg'
    have one : ∀ n : Int, 0 ≤ n → n ≤ 255 → PN n 1 = [n] := by
      intro n h0 h1
      have hd : n.toNat / 256 = 0 := Nat.div_eq_of_lt (by omega)
      have : PN n 1 = le n.toNat 1 := by unfold PN; rw [if_pos ⟨by omega, by omega, h0, by simpa using hd⟩]; rfl
      rw [this]; simp [le]; omega
    have l1 := pn_len c.Seq 4
    have l2 := pn_len c.Lsn 4
    have l3 := pn_len c.Next 4
    have k4 : InK .i64 4 := i64_ok (by omega) (by omega)
    have k1 : InK .i64 1 := i64_ok (by omega) (by omega)
    rw [impl_PutNum _ _ hi1 k4, Option.bind_some, impl_PutNum _ _ hi2 k1, Option.bind_some, impl_PutNum _ _ hi3 k4, Option.bind_some, impl_PutNum _ _ hi4 k4, Option.bind_some, impl_PutNum _ _ hi5 k1, Option.bind_some, one c.Area h3 (by omega), one c.Pages h9 (by omega)]
    have he : ([PN c.Seq 4, [c.Area], PN c.Lsn 4, PN c.Next 4, [c.Pages]] : List (List Int)).flatten = CBb c := by simp [CBb]
    rw [concatB _ (by simp) (by rw [he]; have := cbb_len c; omega), he, Option.bind_some, impl_Frame _ _ (cbb_u8 c hg), Option.bind_some, impl_fill _ (by have := fr_len 9 (CBb c); have := cbb_len c; omega)]
    rfl
  · rw [if_neg (fun h => hg ((cbok_iff c).1 h)), if_neg hg]
end Go.Proofs.Ytndhbfkahbbkaaa
