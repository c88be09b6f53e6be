
import Derived.Test.YtcagjdngannneaaVA
set_option linter.unusedVariables false
set_option linter.unusedSimpArgs false
namespace Go.Proofs.Ytcagjdngannneaa.V
open Go
theorem rw_cells {α : Type} [Inhabited α] {K : Kd α} {te : TypeId} {s : St} {v : Value} {xs : List α} {c : Nat} {C : List Nat} {ii : Int} {ad : Addr} {es : List Value} (hO : RwF te K s v xs c C) (h0 : 0 ≤ ii) (h1 : ii < xs.length) (hA : IxA v K.n ii ad) (hel : es.length = K.n)
    (hC : ∀ j u, es[j]? = some u → s.w.cell? (ad.add j) = some u) : RdF K s es (at_ xs ii) C := by
  obtain ⟨cells, os, hR, hcol, hE⟩ := hO
  obtain ⟨Aa, l, cap2, hv, rfl⟩ := hA
  have hi : ii.toNat < xs.length := by omega
  obtain ⟨hl, hR2⟩ := hR
  rcases hR2 with ⟨h2, _⟩ | ⟨g, cap, cur, h2, hg, hlc, hcm, hsz, htk, rfl⟩
  · rw [h2] at hv; cases hv
  rw [h2] at hv
  simp only [Value.slice.injEq, Option.some.injEq] at hv
  obtain ⟨rfl, rfl, rfl⟩ := hv
  have hmul : (ii.toNat + 1) * K.n ≤ xs.length * K.n := Nat.mul_le_mul_right _ hi
  rw [Nat.add_mul, Nat.one_mul] at hmul
  have hK := hE.at_ ii.toNat hi
  have hchunk : (cells.drop (ii.toNat * K.n)).take K.n = es := by
    apply List.ext_getElem?
    intro j
    by_cases hj : j < K.n
    · have hcell := hC j es[j] (List.getElem?_eq_getElem (by omega))
      rw [Addr.add_add', Addr.add_mid, Nat.zero_add] at hcell
      have hw2 : s.w.cell? ⟨g, ii.toNat * K.n + j, none⟩ = cur[ii.toNat * K.n + j]? := by simp [World.cell?, hg]
      rw [hw2, ← Array.getElem?_toList] at hcell
      rw [List.getElem?_take, if_pos hj, List.getElem?_drop, ← htk, List.getElem?_take, if_pos (by omega), hcell, List.getElem?_eq_getElem (by omega)]
    · rw [List.getElem?_eq_none (by simp; omega), List.getElem?_eq_none (by omega)]
  rw [hchunk] at hK
  rw [at_eq xs ii hi]
  exact hK
theorem rw_sharp {α : Type} [Inhabited α] {K : Kd α} {te : TypeId} {s : St} {v : Value} {xs : List α} {c : Nat} {C D E : List Nat} {ii : Int} {ad : Addr} {es : List Value} (hO : RwF te K s v xs c C) (h0 : 0 ≤ ii) (h1 : ii < xs.length) (hA : IxA v K.n ii ad) (hC : CeF s ad es D) (hX : RdF K s es (at_ xs ii) E) : RdF K s es (at_ xs ii) C :=
  rw_cells hO h0 h1 hA (K.rd_len hX) hC.2
abbrev RT {ρ : Type} (Q : ρ → Value → World → Prop) (r : ρ) (en : Ending) (w' : World) : Prop := ∃ v, en = .returned v ∧ Q r v w'
end Go.Proofs.Ytcagjdngannneaa.V
