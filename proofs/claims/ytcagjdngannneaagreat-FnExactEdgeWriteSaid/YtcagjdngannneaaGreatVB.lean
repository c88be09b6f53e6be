
import Derived.Test.YtcagjdngannneaaGreatVA
set_option linter.unusedVariables false
set_option linter.unusedSimpArgs false
namespace Go.Proofs.YtcagjdngannneaaGreat.V
open Go
theorem rw_cells {α : Type} [Inhabited α] {K : Kd α} {te : TypeId} {s : St} {v : Value} {xs : List α} {c : Nat} {C : List Nat} {ii : Int} {ad : Addr} {es : List Value} (hO : RwF te K s v xs c C) (h0 : 0 ≤ ii) (h1 : ii < xs.length) (hA : IxA v K.n ii ad) (hel : es.length = K.n)
    (hC : ∀ j u, es[j]? = some u → s.w.cell? (ad.add j) = some u) : RdF K s es (at_ xs ii) C := by
  obtain ⟨cells, os, hR, hcol, hE⟩ := hO
  obtain ⟨Aa, l, cap2, hv, rfl⟩ := hA
  have hi : ii.toNat < xs.length := by omega
  obtain ⟨hl, hR2⟩ := hR
  rcases hR2 with ⟨h2, _⟩ | ⟨g, cap, cur, h2, hg, hlc, hcm, hsz, htk, rfl⟩
  · rw [h2] at hv; cases hv
  rw [h2] at hv
  simp only [Value.slice.injEq, Option.some.injEq] at hv
  obtain ⟨rfl, rfl, rfl⟩ := hv
  have hmul : (ii.toNat + 1) * K.n ≤ xs.length * K.n := Nat.mul_le_mul_right _ hi
  rw [Nat.add_mul, Nat.one_mul] at hmul
  have hK := hE.at_ ii.toNat hi
  have hchunk : (cells.drop (ii.toNat * K.n)).take K.n = es := by
    apply List.ext_getElem?
    intro j
    by_cases hj : j < K.n
    · have hcell := hC j es[j] (List.getElem?_eq_getElem (by omega))
      rw [Addr.add_add', Addr.add_mid, Nat.zero_add] at hcell
      have hw2 : s.w.cell? ⟨g, ii.toNat * K.n + j, none⟩ = cur[ii.toNat * K.n + j]? := by simp [World.cell?, hg]
      rw [hw2, ← Array.getElem?_toList] at hcell
      rw [List.getElem?_take, if_pos hj, List.getElem?_drop, ← htk, List.getElem?_take, if_pos (by omega), hcell, List.getElem?_eq_getElem (by omega)]
    · rw [List.getElem?_eq_none (by simp; omega), List.getElem?_eq_none (by omega)]
  rw [hchunk] at hK
  rw [at_eq xs ii hi]
  exact hK
theorem rw_sharp {α : Type} [Inhabited α] {K : Kd α} {te : TypeId} {s : St} {v : Value} {xs : List α} {c : Nat} {C D E : List Nat} {ii : Int} {ad : Addr} {es : List Value} (hO : RwF te K s v xs c C) (h0 : 0 ≤ ii) (h1 : ii < xs.length) (hA : IxA v K.n ii ad) (hC : CeF s ad es D) (hX : RdF K s es (at_ xs ii) E) : RdF K s es (at_ xs ii) C :=
  rw_cells hO h0 h1 hA (K.rd_len hX) hC.2
theorem lsn {α : Type} [Inhabited α] {K : Kd α} {te : TypeId} {s : St} {v : Value} {xs : List α} {c : Nat} (c2 : Nat) (hO : OwF (Kd.sl te K) s [v] xs c) (h40 : Nat.ble 40 c = true) :
    ∃ s' : St, s.w = s'.w ∧ Stp [c] s s' ∧ RwF te K s' v xs c [c2] ∧ ∀ (ii : Int) (ad : Addr) (es : List Value) (D E : List Nat), 0 ≤ ii → ii < xs.length → IxA v K.n ii ad → CeF s ad es D → RdF K s es (at_ xs ii) E → RdF K s' es (at_ xs ii) [c2] := by
  have h40' := Nat.le_of_ble_eq_true h40
  obtain ⟨os, ⟨v1, e1, cells, o1, o2, rfl, hR, hE⟩, hnd, hcol⟩ := hO
  obtain rfl : v = v1 := by simpa using e1
  have key : ∃ s' : St, s.w = s'.w ∧ Stp [c] s s' ∧ RwF te K s' v xs c [c2] := by
    refine ⟨⟨s.w, fun b => open Classical in if b ∈ o2 then c2 else s.g b⟩, rfl, ⟨rfl, rfl, rfl, Nat.le_refl _, fun b hb hl => ?_, fun b hb hm => ⟨?_, rfl⟩⟩, cells, o1, hR, fun b hb => ?_, hE.rd.mono fun b hb _ => ?_⟩
    · have : b ∉ o2 := fun h => by have := hcol b (List.mem_append_right _ h); omega
      simp [this]
    · have : b ∉ o2 := fun h => by rw [hcol b (List.mem_append_right _ h)] at hm; simp [memb] at hm
      simp [this]
    · have : b ∉ o2 := fun h => (List.nodup_append.1 hnd).2.2 b hb b h rfl
      simp only [if_neg this]
      exact hcol b (List.mem_append_left _ hb)
    · simp [memb, hb]
  obtain ⟨s', hw, p, hrw⟩ := key
  refine ⟨s', hw, p, hrw, fun ii ad es D E h0 h1 hA hC hX => rw_cells hrw h0 h1 hA (K.rd_len hX) ?_⟩
  rw [← hw]; exact hC.2
end Go.Proofs.YtcagjdngannneaaGreat.V
