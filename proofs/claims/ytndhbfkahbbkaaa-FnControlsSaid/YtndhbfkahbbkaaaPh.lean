/- Plain laws: ControlRead: the program's and the reference's answer the same. -/
import Derived.Test.YtndhbfkahbbkaaaPg
set_option linter.unusedVariables false
set_option linter.unusedSimpArgs false
namespace Go.Proofs.Ytndhbfkahbbkaaa
open Go V
def RD (x : List Int) : Control × Bool := if x.length = 64 ∧ CB (cs x) = x then (cs x, true) else (⟨0, 0, 0, 0, 0⟩, false)
theorem gn_i64 (x : List Int) (a k : Int) : InK .i64 (GN x a k).1 := by
  unfold GN
  split
  · split
    · exact i64_nat _ (by omega)
    · exact i64_nat 0 (by omega)
  · exact i64_nat 0 (by omega)
theorem cb_nil (c : Control) (h : CB c ≠ []) : CBok c := by
  by_cases hg : CBok c
  · exact hg
  · exact absurd (by unfold CB; rw [if_neg hg]) h
theorem spec_ControlRead (x : List Int) (hx : ∀ y ∈ x, InK .u8 y) (hl : x.length ≤ 1000000000000) : spec_ControlRead.f x = some (RD x) := by
  unfold spec_ControlRead.f RD
  by_cases h64 : x.length = 64
  · have hne : ((x.length : Int) != 64) = false := by simp; omega
    have k4 : InK .i64 4 := i64_ok (by omega) (by omega)
    rw [hne, if_neg (by decide), spec_GetNum x 3 4 hx hl (i64_ok (by omega) (by omega)) k4, Option.bind_some, if_pos (by omega), spec_GetNum x 8 4 hx hl (i64_ok (by omega) (by omega)) k4, Option.bind_some, spec_GetNum x 12 4 hx hl (i64_ok (by omega) (by omega)) k4, Option.bind_some, if_pos (by omega)]
    have b7 : InK .u8 (at_ x 7) := by rw [show (7 : Int) = ((7 : Nat) : Int) from rfl, at_nat x 7 (by omega)]; exact hx _ (List.getElem_mem _)
    have b16 : InK .u8 (at_ x 16) := by rw [show (16 : Int) = ((16 : Nat) : Int) from rfl, at_nat x 16 (by omega)]; exact hx _ (List.getElem_mem _)
    rw [wrap_u8n _ b7, wrap_u8n _ b16]
    have he : (Control.mk (GN x 3 4).1 (at_ x 7) (GN x 8 4).1 (GN x 12 4).1 (at_ x 16)) = cs x := rfl
    have hok : ok_Control (cs x) := ⟨gn_i64 _ _ _, by have := u8_of b7; exact i64_ok (n := at_ x 7) (by omega) (by omega), gn_i64 _ _ _, gn_i64 _ _ _, by have := u8_of b16; exact i64_ok (n := at_ x 16) (by omega) (by omega)⟩
    rw [he, spec_ControlBytes _ hok, Option.bind_some, str_eq _ _ (cb_u8 _) hx]
    by_cases hc : CB (cs x) = x
    · rw [if_pos (show x.length = 64 ∧ CB (cs x) = x from ⟨h64, hc⟩), if_neg (by simp [hc])]
    · rw [if_neg (show ¬ (x.length = 64 ∧ CB (cs x) = x) from fun h => hc h.2), if_pos (by simp [hc])]
  · have hne : ((x.length : Int) != 64) = true := by simp; omega
    rw [hne, if_pos rfl, if_neg (fun h => h64 h.1)]
theorem impl_ControlRead (x : List Int) (hx : ∀ y ∈ x, InK .u8 y) (hl : x.length ≤ 1000000000000) : impl_ControlRead.f x = some (RD x) := by
  unfold impl_ControlRead.f RD
  rw [impl_FrameAt x 0 hx hl (i64_ok (by omega) (by omega)), Option.bind_some]
  have hbu := fa_u8 x 0 hx
  have hbl := fa_len x 0
  -- where the reference's answer is yes, the frame is that of these bytes
  have yes : x.length = 64 ∧ CB (cs x) = x → FA x 0 = (9, CBb (cs x), 21, 0) ∧ ci (CBb (cs x)) = cs x ∧ (CBb (cs x)).length = 14 := by
    rintro ⟨h1, h2⟩
    have hok := cb_nil (cs x) (by rw [h2]; intro h; rw [h] at h1; simp at h1)
    obtain ⟨_, _, q3, q4, q5⟩ := cb_read (cs x) hok
    rw [h2] at q3
    exact ⟨q3, q4, q5⟩
  by_cases hg : (FA x 0).2.2.2 = 0 ∧ (FA x 0).2.1.length = 14
  · rw [if_neg (by simp; omega)]
    generalize hb : (FA x 0).2.1 = b at *
    have k : ∀ n : Int, 0 ≤ n → n ≤ 100 → InK .i64 n := fun n h0 h1 => i64_ok (by omega) (by omega)
    rw [impl_GetNum b 0 4 hbu (by omega) (k _ (by omega) (by omega)) (k _ (by omega) (by omega)), Option.bind_some, impl_GetNum b 4 1 hbu (by omega) (k _ (by omega) (by omega)) (k _ (by omega) (by omega)), Option.bind_some, impl_GetNum b 5 4 hbu (by omega) (k _ (by omega) (by omega)) (k _ (by omega) (by omega)), Option.bind_some,
      impl_GetNum b 9 4 hbu (by omega) (k _ (by omega) (by omega)) (k _ (by omega) (by omega)), Option.bind_some, impl_GetNum b 13 1 hbu (by omega) (k _ (by omega) (by omega)) (k _ (by omega) (by omega)), Option.bind_some]
    have he : (Control.mk (GN b 0 4).1 (GN b 4 1).1 (GN b 5 4).1 (GN b 9 4).1 (GN b 13 1).1) = ci b := rfl
    have hok : ok_Control (ci b) := ⟨gn_i64 _ _ _, gn_i64 _ _ _, gn_i64 _ _ _, gn_i64 _ _ _, gn_i64 _ _ _⟩
    rw [he, impl_ControlBytes _ hok, Option.bind_some, bytesEqual _ _ (cb_u8 _) hx]
    simp only [Option.bind_some]
    by_cases hc : CB (ci b) = x ∧ x ≠ []
    · obtain ⟨hc, hne⟩ := hc
      have hok := cb_nil (ci b) (by rw [hc]; exact hne)
      obtain ⟨q1, q2, _, _, _⟩ := cb_read (ci b) hok
      rw [hc] at q1 q2
      rw [if_pos (show x.length = 64 ∧ CB (cs x) = x from ⟨q1, by rw [q2]; exact hc⟩), hc, q1, if_neg (by decide)]
      simp [q2]
    · have hno : ¬ (x.length = 64 ∧ CB (cs x) = x) := fun h => by
        obtain ⟨p1, p2, _⟩ := yes h
        have hb2 : b = CBb (cs x) := by rw [← hb, p1]
        apply hc
        rw [hb2, p2]
        exact ⟨h.2, fun h0 => by have := h.1; rw [h0] at this; simp at this⟩
      rw [if_neg hno]
      by_cases hz : CB (ci b) = []
      · rw [hz]; rfl
      · have hl0 : ((((CB (ci b)).length : Nat) : Int) == 0) = false := by
          simp; exact hz
        have hd : CB (ci b) ≠ x := fun h => hc ⟨h, by rw [← h]; exact hz⟩
        rw [hl0, if_neg (by decide)]
        simp [hd]
  · rw [if_pos (by simp; omega)]
    have hno : ¬ (x.length = 64 ∧ CB (cs x) = x) := fun h => by
      obtain ⟨p1, _, p3⟩ := yes h
      apply hg
      rw [p1]
      exact ⟨rfl, p3⟩
    rw [if_neg hno]
theorem eqControl (a b : Control) : laws_eqControl.f a b = some (decide (a = b)) := by
  unfold laws_eqControl.f
  obtain ⟨a1, a2, a3, a4, a5⟩ := a
  obtain ⟨b1, b2, b3, b4, b5⟩ := b
  simp only [Control.mk.injEq]
  by_cases h1 : a1 = b1
  · by_cases h2 : a2 = b2
    · by_cases h3 : a3 = b3
      · by_cases h4 : a4 = b4
        · by_cases h5 : a5 = b5 <;> simp [h1, h2, h3, h4, h5]
        · simp [h1, h2, h3, h4]
      · simp [h1, h2, h3]
    · simp [h1, h2]
  · simp [h1]
end Go.Proofs.Ytndhbfkahbbkaaa
