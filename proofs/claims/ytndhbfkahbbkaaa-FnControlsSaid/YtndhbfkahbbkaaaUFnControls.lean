/- FnControls' model is true at every input. -/
import Derived.Test.YtndhbfkahbbkaaaPj
set_option linter.unusedVariables false
set_option linter.unusedSimpArgs false
namespace Go.Proofs.Ytndhbfkahbbkaaa
open Go V
theorem draw_control (a : List Int) (h : a.length ≤ 1048576) (ha : ∀ x ∈ a, InK .u8 x) : ∃ c, spec_DrawControlBytes.f a = some c ∧ ok_Control c := by
  unfold spec_DrawControlBytes.f
  obtain ⟨c0, e0, b0, k0⟩ := l1New_ok a h ha
  rw [e0]; simp only [Option.bind_some]
  obtain ⟨r1, c1, e1, p1, q1, b1, k1⟩ := l1Below_ok c0 300 k0 (by omega)
  rw [e1]; simp only [Option.bind_some]; rw [cur_eta _ _ b1]
  obtain ⟨r2, c2, e2, p2, q2, b2, k2⟩ := l1Below_ok c1 2 k1 (by omega)
  rw [b1] at b2
  rw [e2]; simp only [Option.bind_some]; rw [cur_eta _ _ b2]
  obtain ⟨r3, c3, e3, p3, q3, b3, k3⟩ := l1Below_ok c2 3000 k2 (by omega)
  rw [b2] at b3
  rw [e3]; simp only [Option.bind_some]; rw [cur_eta _ _ b3]
  obtain ⟨r4, c4, e4, p4, q4, b4, k4⟩ := l1Below_ok c3 30 k3 (by omega)
  rw [b3] at b4
  rw [e4]; simp only [Option.bind_some]; rw [cur_eta _ _ b4]
  obtain ⟨r5, c5, e5, p5, q5, b5, k5⟩ := l1Below_ok c4 16 k4 (by omega)
  rw [b4] at b5
  rw [e5]; simp only [Option.bind_some]; rw [cur_eta _ _ b5]
  obtain ⟨r6, c6, e6, p6, q6, b6, k6⟩ := l1Below_ok c5 12 k5 (by omega)
  rw [b5] at b6
  rw [e6]; simp only [Option.bind_some]; rw [cur_eta _ _ b6]
  rw [w64 (n := 1 + r1) (by omega) (by omega), w64 (n := 1 + r3) (by omega) (by omega), w64 (n := 1 + r4) (by omega) (by omega)]
  have pick : ∀ l : List Int, l ≠ [] → (∀ x ∈ l, -10 ≤ x ∧ x ≤ 2000000) → ∃ r c', spec_l1PickInt.f c6 l = some (r, c') ∧ InK .i64 r := fun l hl hr => by
    obtain ⟨r, c', e, m, _⟩ := l1PickInt_ok c6 l k6 hl
    have := hr r m
    exact ⟨r, c', e, i64_ok (by omega) (by omega)⟩
  have i1 : InK .i64 (1 + r1) := i64_ok (by omega) (by omega)
  have i2 : InK .i64 r2 := i64_ok (by omega) (by omega)
  have i3 : InK .i64 (1 + r3) := i64_ok (by omega) (by omega)
  have i4 : InK .i64 (1 + r4) := i64_ok (by omega) (by omega)
  have i5 : InK .i64 r5 := i64_ok (by omega) (by omega)
  by_cases g0 : (r6 == 0) = true
  · rw [if_pos g0]
    obtain ⟨r, c', e, k⟩ := pick [0, 1000000, 1000001] (by simp) (by simp)
    rw [e]; exact ⟨_, rfl, k, i2, i3, i4, i5⟩
  · rw [if_neg g0]
    by_cases g1 : (r6 == 1) = true
    · rw [if_pos g1]
      obtain ⟨r, c', e, k⟩ := pick [-1, 2] (by simp) (by simp)
      rw [e]; exact ⟨_, rfl, i1, k, i3, i4, i5⟩
    · rw [if_neg g1]
      by_cases g2 : (r6 == 2) = true
      · rw [if_pos g2]
        obtain ⟨r, c', e, k⟩ := pick [0, 1000000, 1000001] (by simp) (by simp)
        rw [e]; exact ⟨_, rfl, i1, i2, k, i4, i5⟩
      · rw [if_neg g2]
        by_cases g3 : (r6 == 3) = true
        · rw [if_pos g3]
          obtain ⟨r, c', e, k⟩ := pick [0, 401, 402] (by simp) (by simp)
          rw [e]; exact ⟨_, rfl, i1, i2, i3, k, i5⟩
        · rw [if_neg g3]
          by_cases g4 : (r6 == 4) = true
          · rw [if_pos g4]
            obtain ⟨r, c', e, k⟩ := pick [-1, 16, 17] (by simp) (by simp)
            rw [e]; exact ⟨_, rfl, i1, i2, i3, i4, k⟩
          · rw [if_neg g4]; exact ⟨_, rfl, i1, i2, i3, i4, i5⟩
theorem laws_FnControls_true (a0 : (List Int)) (h0 : (a0.length ≤ maxLen ∧ ∀ y ∈ a0, InK .u8 y)) : laws_FnControls.f a0 = some true := by
  unfold laws_FnControls.f laws_big.f
  simp only [Option.bind_some]
  by_cases hb : (a0.length : Int) > 1048576
  · rw [if_pos (by simpa using hb)]
  · rw [if_neg (by simpa using hb)]
    obtain ⟨c, ec, hc⟩ := draw_control a0 (by omega) h0.2
    have hcl := cb_len c
    rw [ec]; simp only [Option.bind_some]
    rw [impl_ControlBytes c hc, spec_ControlBytes c hc]; simp only [Option.bind_some]
    by_cases hz : CB c = []
    · rw [hz]; rfl
    · have hok := cb_nil c hz
      obtain ⟨l64, hcs, hfa, hci, _⟩ := cb_read c hok
      rw [if_neg (by simp; exact hz), impl_ControlRead _ (cb_u8 c) (by omega)]
      simp only [Option.bind_some]
      obtain ⟨p, ep, p0, p1⟩ := lawAt a0 2 (by omega) h0.2 (by omega) (by omega)
      obtain ⟨q, eq, q0, q1⟩ := lawAt a0 3 (by omega) h0.2 (by omega) (by omega)
      rw [ep, eq]; simp only [Option.bind_some, List.nil_append, List.length_nil, Nat.zero_add]
      have hp := tmod_lt (a := p) (n := 21) p0 (by omega)
      have hq := tmod_lt (a := q) (n := 255) q0 (by omega)
      generalize p.tmod 21 = i at *
      generalize q.tmod 255 = d at *
      obtain ⟨i, rfl⟩ := Int.eq_ofNat_of_zero_le hp.1
      have hi : i < (CB c).length := by omega
      have hx := cb_u8 c _ (List.getElem_mem hi)
      have hx' := u8_of hx
      rw [if_pos (by simp only [Lim]; omega), if_pos ⟨hp.1, by omega⟩, at_nat _ i hi, wrap_u8n _ hx, w64 (n := (CB c)[i] + 1) (by omega) (by omega), w64 (by omega) (by omega), Int.toNat_natCast]
      rw [if_pos ⟨by omega, by omega⟩]
      have hnew : InK .u8 (IntKind.wrap .u8 ((CB c)[i] + 1 + d)) := by
        rw [IntKind.wrap_u8]
        simp [InK, IntKind.min, IntKind.max, IntKind.signed, IntKind.bits]; omega
      have hne : IntKind.wrap .u8 ((CB c)[i] + 1 + d) ≠ (CB c)[i]?.getD 0 := by
        rw [List.getElem?_eq_getElem hi, Option.getD_some, IntKind.wrap_u8]
        omega
      have hch := changed c hok i (by omega) _ hnew hne
      rw [impl_ControlRead _ (fun y hy => by
        rcases List.mem_or_eq_of_mem_set hy with hy | hy
        · exact cb_u8 c y hy
        · rw [hy]; exact hnew) (by rw [List.length_set]; omega)]
      simp only [Option.bind_some]
      have r1 : RD (CB c) = (c, true) := by
        unfold RD; rw [hcs, if_pos ⟨l64, rfl⟩]
      have r2 : (RD ((CB c).set i (IntKind.wrap .u8 ((CB c)[i] + 1 + d)))).2 = false := by
        unfold RD
        rw [if_neg (fun h => hch _ h.2)]
      rw [r1, r2, l64]
      simp [beq_Control]
end Go.Proofs.Ytndhbfkahbbkaaa
