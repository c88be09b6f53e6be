
import Derived.Test.YtcagjdngannneaaVe
import Derived.Maps.AppendAt
set_option linter.unusedVariables false
set_option linter.unusedSimpArgs false
namespace Go.Proofs.Ytcagjdngannneaa.V
open Go

def FlK {α : Type} (K : Kd α) : Prop := ∀ w cs x F, K.rd w cs x F → ∀ w', K.ow w' cs x []
theorem fl_flat {α : Type} {val : α → Value} {h : ∀ x, (val x).oneCell' = true} : FlK (Kd.flat val h) := fun _ _ _ _ h _ => ⟨h, rfl⟩
theorem fl_int {k : IntKind} : FlK (Kd.int k) := fl_flat
theorem FlK.els {α : Type} {K : Kd α} (hK : FlK K) {w : World} {F : Nat → Prop} (w' : World) : ∀ {xs : List α} {cs : List Value}, ElsR K w F xs cs → ElsO K w' xs cs []
  | [], cs, h => ⟨h, rfl⟩
  | x :: xs, cs, ⟨c1, c2, e, h1, h2⟩ => ⟨c1, c2, [], [], e, rfl, hK _ _ _ _ h1 w', hK.els w' h2⟩
theorem FlK.os {α : Type} {K : Kd α} (hK : FlK K) {w : World} : ∀ {xs : List α} {cs : List Value} {os : List Nat}, ElsO K w xs cs os → ElsO K w xs cs [] := fun h => hK.els w h.rd
def SlT (P : Program) (t te n : Nat) : Prop := P.underlying t = some (.slice te) ∧ ∃ z by_, (P.info? te).map (fun i => (i.zero, i.size, i.bytes)) = some (some z, n, by_) ∧ z.cells.size = n ∧ 0 < n ∧ by_ ≤ 32768
theorem SlT.mk {P : Program} {t te n by_ : Nat} {z : Value} (hu : P.underlying t = some (.slice te)) (hi : (P.info? te).map (fun i => (i.zero, i.size, i.bytes)) = some (some z, n, by_)) (hz : z.cells.size = n) (hn : Nat.ble 1 n = true) (hb : Nat.ble by_ 32768 = true) : SlT P t te n :=
  ⟨hu, z, by_, hi, hz, Nat.le_of_ble_eq_true hn, Nat.le_of_ble_eq_true hb⟩
theorem ow_nil {α : Type} (te : TypeId) (K : Kd α) (s : St) (c : Nat) : OwF (Kd.sl te K) s [.slice none 0 0] ([] : List α) c :=
  ⟨[], ⟨_, rfl, [], [], [], rfl, ⟨by simp, .inl ⟨rfl, rfl, rfl⟩⟩, ⟨rfl, rfl⟩⟩, List.nodup_nil, fun b hb => by cases hb⟩
theorem rw_nil {α : Type} (te : TypeId) (K : Kd α) (s : St) (c : Nat) (C : List Nat) : RwF te K s (.slice none 0 0) ([] : List α) c C :=
  ⟨[], [], ⟨by simp, .inl ⟨rfl, rfl, rfl⟩⟩, (fun b hb => nomatch hb), rfl⟩

section
variable {P : Program} {w : World}
theorem append_none_run (t ty te : TypeId) (v : Value) (n size cap : Nat) (xs : List Value) (ht : P.underlying t = some (.slice te)) (hs : (P.info? te).map (·.size) = some size) (hown : w.ownsRow 0 te size v n xs) :
    (Builtin.append_ #[t, t] ty #[v, .slice none 0 cap]).run P w = .ok v w := by
  obtain ⟨i, hi, hss⟩ := Option.map_eq_some_iff.1 hs
  rcases hown.2 with ⟨rfl, rfl⟩ | ⟨g, cap', cur, rfl, _, _, hnc, _⟩
  · simp [Builtin.append_, run_underlying ht, sizeOf, typeInfo, hi, Builtin.lenOf, Builtin.firstCells]
  · simp [Builtin.append_, run_underlying ht, sizeOf, typeInfo, hi, Builtin.lenOf, Builtin.firstCells, hnc, storeCells]
def SlV (w : World) (u : Value) (l n : Nat) (cells : List Value) : Prop :=
  ∃ A cap, u = .slice A l cap ∧ cells.length = l * n ∧ (∀ x ∈ cells, x.oneCell' = true) ∧ (cells ≠ [] → ∃ ad, A = some ad ∧ ∀ j u, cells[j]? = some u → w.cell? (ad.add j) = some u)
theorem slRd.slv {α : Type} {K : Kd α} {u : Value} {ys : List α} {F : Nat → Prop} (h : slRd K w u ys F) : ∃ cells, SlV w u ys.length K.n cells ∧ ElsR K w F ys cells := by
  obtain ⟨A, cap, cells, rfl, hcap, hels, hc⟩ := h
  exact ⟨cells, ⟨A, cap, rfl, hels.len, hels.one, fun hne => by obtain ⟨ad, e, _, h⟩ := hc hne; exact ⟨ad, e, h⟩⟩, hels⟩
theorem RowAt.slv {e : TypeId} {size : Nat} {v : Value} {n : Nat} {cells : List Value} {os : List Nat} (h : RowAt w e size v n cells os) (h1 : ∀ x ∈ cells, x.oneCell' = true) : SlV w v n size cells := by
  obtain ⟨A, cap, hu, hcap, hc⟩ := h.cells
  exact ⟨A, cap, hu, h.1, h1, fun hne => by obtain ⟨g, e, _, h⟩ := hc hne; exact ⟨_, e, h⟩⟩
theorem append_core {t te ty : TypeId} {n : Nat} {v u : Value} {lx ly : Nat} {cells cells' : List Value} {os : List Nat} (hT : SlT P t te n) (hR : RowAt w te n v lx cells os) (hS : SlV w u ly n cells') (hl : lx + ly ≤ Lim) :
    ∃ v' w', (Builtin.append_ #[t, t] ty #[v, u]).run P w = .ok v' w' ∧ RowAt w' te n v' (lx + ly) (cells ++ cells') (Value.blk v') ∧ w.grownBy w' v.ownBlock ∧ (∀ b ∈ Value.blk v', b ∈ os ∨ w.heap.size ≤ b) := by
  obtain ⟨hu, z, by_, hi, hz, hn, hb⟩ := hT
  obtain ⟨A, cap, rfl, hlen, hone, hc⟩ := hS
  obtain ⟨ti, hti, hzz⟩ := Option.map_eq_some_iff.1 hi
  simp only [Prod.mk.injEq] at hzz
  have hown := hR.owns
  cases A with
  | none =>
    have hnil : cells' = [] := by
      cases cells' with
      | nil => rfl
      | cons u us =>
        obtain ⟨ad, h, _⟩ := hc (by simp)
        cases h
    subst hnil
    have hy : ly = 0 := by
      rcases Nat.mul_eq_zero.1 (show ly * n = 0 from hlen.symm) with h | h
      · exact h
      · omega
    subst hy
    refine ⟨v, w, append_none_run t ty te v _ _ _ _ hu (by rw [hti]; simp [hzz.2.1]) hown, ?_, World.grownBy.refl _ _, ?_⟩
    · simpa using RowAt.of_owns hown
    · intro b hb
      rcases hR.2 with ⟨rfl, _⟩ | ⟨g, cap', cur, rfl, _, _, _, _, _, e7⟩
      · cases hb
      · left; rw [e7]; exact hb
  | some ad =>
    obtain ⟨v', w', hr, h2, h3, _, h4⟩ := run_append_own_at (P := P) w 0 t ty te ti z n by_ hu hti hzz.1 hzz.2.1 hzz.2.2 hz hn v lx cells hown ad ly cap cells' hlen
      (fun j u hj => by
        obtain ⟨ad', e, h⟩ := hc (fun h => by rw [h] at hj; simp at hj)
        obtain rfl := Option.some.inj e
        exact h j u hj)
      hone (by unfold Lim at hl; simp only [maxLen]; omega) (by unfold Lim at hl; have : (lx + ly) * by_ ≤ 4294967296 * 32768 := Nat.mul_le_mul hl hb; omega) (Nat.zero_le _)
    refine ⟨v', w', hr, RowAt.of_owns h2, h3, ?_⟩
    · intro b hb
      rcases h4 with h4 | h4
      · left
        have hvb : v.ownBlock = some b := by
          rw [← h4]
          unfold Value.blk at hb
          rcases h2.2 with ⟨rfl, _⟩ | ⟨g, cap', cur, rfl, _⟩
          · cases hb
          · simp at hb; subst hb; rfl
        rcases hR.2 with ⟨rfl, _⟩ | ⟨g, cap', cur, rfl, _, _, _, _, _, e7⟩
        · cases hvb
        · rw [e7]; simp [Value.ownBlock] at hvb; simp [hvb]
      · right
        rcases h2.2 with ⟨rfl, _⟩ | ⟨g, cap', cur, rfl, _⟩
        · cases hb
        · simp [Value.blk] at hb; simp [Value.ownBlock] at h4; omega
end

section
variable {P : Program} {f : FuncId} {N : Nat} {O ρ : Type} {m : Option O} {G : O → Option ρ} {R : ρ → Ending → World → Prop} {e : Env} {s : St} {k : List Item} {ops : Array Oper} {i d : Nat} {rest : List Nat} {o : Oper}
theorem blk_own {w : World} {e : TypeId} {size : Nat} {v : Value} {n : Nat} {cells : List Value} {os : List Nat} (h : RowAt w e size v n cells os) {b : Nat} (hb : v.ownBlock = some b) : b ∈ os := by
  rcases h.2 with ⟨rfl, _⟩ | ⟨g, cap', cur, rfl, _, _, _, _, _, e7⟩
  · cases hb
  · rw [e7]; simp [Value.ownBlock] at hb; simp [hb]
theorem grown_st {w' : World} {row : Option Nat} (c d : Nat) (hg : s.w.grownBy w' row) (hr : ∀ b, row = some b → s.g b = c) (hd : Nat.ble 40 d = true) :
    ∃ s' : St, s'.w = w' ∧ Stp [c, d] s s' ∧ (∀ b, b < s.w.heap.size → s'.g b = if s.g b = d then c else s.g b) ∧ (∀ b, s.w.heap.size ≤ b → s'.g b = c) := by
  have hd' := Nat.le_of_ble_eq_true hd
  refine ⟨⟨w', fun b => if b < s.w.heap.size then (if s.g b = d then c else s.g b) else c⟩, rfl, ⟨hg.os, hg.tape, hg.output, hg.size, fun b hb hl => ?_, fun b hb hm => ?_⟩, fun b hb => ?_, fun b hb => ?_⟩
  · have : ¬ s.g b = d := by omega
    simp [hb, this]
  · simp only [memb, Bool.or_eq_false_iff] at hm
    have h1 : s.g b ≠ c := fun h => by rw [h] at hm; simp at hm
    have h2 : ¬ s.g b = d := fun h => by rw [h] at hm; simp at hm
    refine ⟨by simp [hb, h2], hg.block b hb fun h => h1 (hr b h.symm)⟩
  · simp [hb]
  · have : ¬ b < s.w.heap.size := by omega
    simp [this]
theorem apF {α : Type} {K : Kd α} {t te : TypeId} {x y : Operand} {v u : Value} {xs ys : List α} {c : Nat} {C : List Nat} (hK : FlK K) (hT : SlT P t te K.n) (hD : OwF (Kd.sl te K) s [v] xs c) (hS : RdF (Kd.sl te K) s [u] ys C)
    (ho : ops[i]? = some o) (hd : o.dst = some d) (hN : Nat.blt d N = true) (hw : Region.wanted o (yv e ops) = true) (hop : o.op = .call { callee := .builtin .append, args := #[x, y], argTypes := #[t, t] }) (hx : ev e x = v) (hy : ev e y = u)
    (h : ∀ v' s', Stp [c] s s' → OwF (Kd.sl te K) s' [v'] (xs ++ ys) c → TM P f N m G R (.inRegion ops rest :: k) (upd e d v') s'.w) :
    TM P f N (if xs.length + ys.length ≤ Lim then m else none) G R (.inRegion ops (i :: rest) :: k) e s.w := by
  refine mg fun hl => ?_
  obtain ⟨os, ⟨v1, e1, cells, o1, o2, rfl, hR, hE⟩, hnd, hcol⟩ := hD
  obtain rfl : v = v1 := by simpa using e1
  obtain ⟨u1, e2, hS⟩ := hS
  obtain rfl : u = u1 := by simpa using e2
  obtain ⟨cells', hSv, hE'⟩ := hS.slv
  obtain ⟨v', w', hr, hR', hg, hb⟩ := append_core (P := P) (ty := o.type) hT hR hSv hl
  refine vl (v := v') (w' := w') ho hd hN hw (by simp [execOp, hop, resolve, invoke, builtin, hx, hy, hr, Result.andThen]) ?_
  have hp : ∃ s' : St, s'.w = w' ∧ Stp [c] s s' ∧ (∀ b, b < s.w.heap.size → s'.g b = s.g b) ∧ (∀ b, s.w.heap.size ≤ b → s'.g b = c) := by
    refine ⟨⟨w', fun b => if b < s.w.heap.size then s.g b else c⟩, rfl, ⟨hg.os, hg.tape, hg.output, hg.size, fun b hb _ => by simp [hb], fun b hb hm => ⟨by simp [hb], hg.block b hb fun h => ?_⟩⟩, fun b hb => by simp [hb], fun b hb => ?_⟩
    · have := hcol b (List.mem_append_left _ (blk_own hR h.symm))
      rw [this] at hm; simp [memb] at hm
    · have : ¬ b < s.w.heap.size := by omega
      simp [this]
  obtain ⟨s', rfl, p, hold, hnew⟩ := hp
  refine h v' s' p ⟨Value.blk v' ++ [], ⟨v', rfl, cells ++ cells', Value.blk v', [], rfl, by rw [List.length_append]; exact hR', hK.els _ (((hE.rd.mono (F' := fun _ => True) fun _ _ _ => trivial)).append (hE'.mono (F' := fun _ => True) fun _ _ _ => trivial))⟩, ?_, fun b hb' => ?_⟩
  · unfold Value.blk; split <;> simp
  · simp at hb'
    rcases hb b hb' with h1 | h1
    · rw [hold b (hR.lt b h1)]; exact hcol b (List.mem_append_left _ h1)
    · exact hnew b h1
theorem apO {α : Type} {K : Kd α} {t te : TypeId} {x y : Operand} {v u : Value} {xs ys : List α} {c d' : Nat} (hT : SlT P t te K.n) (hD : OwF (Kd.sl te K) s [v] xs c) (hS : OwF (Kd.sl te K) s [u] ys d') (hcd : Nat.beq c d' = false) (h10 : Nat.ble 40 d' = true)
    (ho : ops[i]? = some o) (hd : o.dst = some d) (hN : Nat.blt d N = true) (hw : Region.wanted o (yv e ops) = true) (hop : o.op = .call { callee := .builtin .append, args := #[x, y], argTypes := #[t, t] }) (hx : ev e x = v) (hy : ev e y = u)
    (h : ∀ v' s', Stp [c, d'] s s' → OwF (Kd.sl te K) s' [v'] (xs ++ ys) c → TM P f N m G R (.inRegion ops rest :: k) (upd e d v') s'.w) :
    TM P f N (if xs.length + ys.length ≤ Lim then m else none) G R (.inRegion ops (i :: rest) :: k) e s.w := by
  refine mg fun hl => ?_
  have hcd' : c ≠ d' := fun h => by subst h; simp at hcd
  obtain ⟨os, ⟨v1, e1, cells, o1, o2, rfl, hR, hE⟩, hnd, hcol⟩ := hD
  obtain rfl : v = v1 := by simpa using e1
  obtain ⟨ps, ⟨u1, e2, ucells, p1, p2, rfl, hUR, hUE⟩, hnd2, hcol2⟩ := hS
  obtain rfl : u = u1 := by simpa using e2
  obtain ⟨v', w', hr, hR', hg, hb⟩ := append_core (P := P) (ty := o.type) hT hR (hUR.slv hUE.rd.one) hl
  refine vl (v := v') (w' := w') ho hd hN hw (by simp [execOp, hop, resolve, invoke, builtin, hx, hy, hr, Result.andThen]) ?_
  obtain ⟨s', rfl, p, hold, hnew⟩ := grown_st c d' hg (fun b hb => hcol b (List.mem_append_left _ (blk_own hR hb))) h10
  have hdis : ∀ b, b ∈ o1 ++ o2 → b ∉ p1 ++ p2 := fun b h1 h2 => hcd' ((hcol b h1).symm.trans (hcol2 b h2))
  have hlt1 : ∀ b ∈ o2, b < s.w.heap.size := hE.lt
  have hlt2 : ∀ b ∈ p2, b < s.w.heap.size := hUE.lt
  have hnd' := List.nodup_append.1 hnd
  have hnd2' := List.nodup_append.1 hnd2
  have hne : ∀ b, (b ∈ o2 ∨ b ∈ p2) → b < s.w.heap.size → s'.w.heap[b]? = s.w.heap[b]? := by
    intro b hb' hl'
    refine hg.block b hl' fun h => ?_
    have h1 := blk_own hR h.symm
    rcases hb' with hb' | hb'
    · exact hnd'.2.2 b h1 b hb' rfl
    · exact hdis b (List.mem_append_left _ h1) (List.mem_append_right _ hb')
  refine h v' s' p ⟨Value.blk v' ++ (o2 ++ p2), ⟨v', rfl, cells ++ ucells, Value.blk v', o2 ++ p2, rfl, by rw [List.length_append]; exact hR', (hE.frame fun b hb hl => hne b (.inl hb) hl).append (hUE.frame fun b hb hl => hne b (.inr hb) hl)⟩, ?_, fun b hb' => ?_⟩
  · have hvn : (Value.blk v').Nodup := by unfold Value.blk; split <;> simp
    refine List.nodup_append.2 ⟨hvn, List.nodup_append.2 ⟨hnd'.2.1, hnd2'.2.1, fun a ha b hb' hab => ?_⟩, fun a ha b hb' hab => ?_⟩
    · subst hab; exact hdis a (List.mem_append_right _ ha) (List.mem_append_right _ hb')
    · subst hab
      rcases List.mem_append.1 hb' with hb' | hb'
      · rcases hb a ha with h1 | h1
        · exact hnd'.2.2 a h1 a hb' rfl
        · have := hlt1 a hb'; omega
      · rcases hb a ha with h1 | h1
        · exact hdis a (List.mem_append_left _ h1) (List.mem_append_right _ hb')
        · have := hlt2 a hb'; omega
  · rcases List.mem_append.1 hb' with hb' | hb'
    · rcases hb b hb' with h1 | h1
      · rw [hold b (hR.lt b h1), hcol b (List.mem_append_left _ h1), if_neg hcd']
      · exact hnew b h1
    · rcases List.mem_append.1 hb' with hb' | hb'
      · rw [hold b (hlt1 b hb'), hcol b (List.mem_append_right _ hb'), if_neg hcd']
      · rw [hold b (hlt2 b hb'), hcol2 b (List.mem_append_right _ hb'), if_pos rfl]
end


section
variable {P : Program} {f : FuncId} {N : Nat} {O ρ : Type} {m : Option O} {G : O → Option ρ} {R : ρ → Ending → World → Prop} {e : Env} {s : St} {k : List Item} {ops : Array Oper} {i d : Nat} {rest : List Nat} {o : Oper}
theorem new_row {w' : World} {te n l : Nat} {cells : Array Value} (c : Nat) (hw : w' = s.w.alloc (.cells cells te)) (hl : cells.size = l * n) (hm : l ≤ maxLen) :
    ∃ s' : St, s'.w = w' ∧ Stp [] s s' ∧ Nw s s' c ∧ RowAt s'.w te n (.slice (some ⟨s.w.heap.size, 0, none⟩) l l) l cells.toList [s.w.heap.size] := by
  obtain ⟨s', hs', p, nn⟩ := s.made (.cells cells te) c
  refine ⟨s', hs'.trans hw.symm, p, nn, by simpa using hl, .inr ⟨_, l, cells, rfl, by rw [hs']; exact heap_alloc_new s.w _, Nat.le_refl _, hm, hl, ?_, rfl⟩⟩
  exact List.take_of_length_le (by simp [hl])
theorem made_succ (z : Array Value) (l : Nat) (hz : 0 < z.size) : (madeCells z ((l + 1) * z.size)).toList = (madeCells z (l * z.size)).toList ++ z.toList := by
  apply List.ext_getElem?
  intro j
  rw [List.getElem?_append]
  have hL : ∀ q, j < q → (madeCells z q).toList[j]? = z[j % z.size]? := by
    intro q hq
    have hmod : j % z.size < z.size := Nat.mod_lt _ hz
    simp [madeCells, hq, getElem!_pos, hmod]
  have hn : ∀ q, ¬ j < q → (madeCells z q).toList[j]? = none := fun q hq => List.getElem?_eq_none (by simp [madeCells]; omega)
  by_cases h1 : j < l * z.size
  · rw [if_pos (by simpa [madeCells] using h1), hL _ h1, hL _ (by rw [Nat.add_mul]; omega)]
  · rw [if_neg (by simpa [madeCells] using h1)]
    have hs : (madeCells z (l * z.size)).toList.length = l * z.size := by simp [madeCells]
    rw [hs]
    by_cases h2 : j < (l + 1) * z.size
    · rw [hL _ h2]
      have : j % z.size = j - l * z.size := by
        have e : j = (j - l * z.size) + l * z.size := by omega
        have h3 : j - l * z.size < z.size := by rw [Nat.add_mul] at h2; omega
        conv => lhs; rw [e]
        rw [Nat.add_mul_mod_self_right, Nat.mod_eq_of_lt h3]
      rw [this]; simp
    · rw [hn _ h2, List.getElem?_eq_none (by rw [Nat.add_mul] at h2; simp; omega)]
theorem made_els {α : Type} {K : Kd α} {z : Array Value} {x0 : α} (hz : z.size = K.n) (hn : 0 < K.n) (h0 : ∀ w, K.ow w z.toList x0 []) (w : World) : ∀ l, ElsO K w (List.replicate l x0) (madeCells z (l * K.n)).toList []
  | 0 => by simp [madeCells, ElsO]
  | l + 1 => by
    rw [← hz, made_succ z l (by omega), List.replicate_succ', hz]
    exact ElsO.append (os := []) (ps := []) (made_els hz hn h0 w l) ⟨_, [], [], [], by simp, rfl, h0 w, rfl, rfl⟩
theorem mk {α : Type} {K : Kd α} {t te : TypeId} {k1 k2 : IntKind} {n : Int} {z : Value} {x0 : α} {x y : Operand} (c : Nat) (hT : SlT P t te K.n) (hz : (P.info? te).bind (·.zero) = some z) (h0 : ∀ w, K.ow w z.cells.toList x0 [])
    (ho : ops[i]? = some o) (hd : o.dst = some d) (hN : Nat.blt d N = true) (hw : Region.wanted o (yv e ops) = true) (hop : o.op = .makeSlice t x y) (hx : ev e x = .int k1 n) (hy : ev e y = .int k2 n)
    (h : ∀ v s', Stp [] s s' → OwF (Kd.sl te K) s' [v] (List.replicate n.toNat x0) c → TM P f N m G R (.inRegion ops rest :: k) (upd e d v) s'.w) :
    TM P f N (if 0 ≤ n ∧ n ≤ (Lim : Int) then m else none) G R (.inRegion ops (i :: rest) :: k) e s.w := by
  refine mg fun hg => ?_
  obtain ⟨hu, z', by_, hi, hz', hn, hb⟩ := hT
  obtain ⟨ti, hti, hzz⟩ := Option.map_eq_some_iff.1 hi
  simp only [Prod.mk.injEq] at hzz
  obtain rfl : z' = z := by rw [hti] at hz; simp [hzz.1] at hz; exact hz
  obtain ⟨l, rfl⟩ := Int.eq_ofNat_of_zero_le hg.1
  have hl : l ≤ 4294967296 := by have := hg.2; unfold Lim at this; omega
  have hlb : ti.bytes * l ≤ 32768 * 4294967296 := Nat.mul_le_mul (by rw [hzz.2.2]; exact hb) hl
  have hlb' : (ti.bytes : Int) * (l : Int) ≤ 281474976710656 := by
    have h : ((ti.bytes * l : Nat) : Int) ≤ 281474976710656 := by omega
    rwa [Int.natCast_mul] at h
  obtain ⟨s', hs', p, nn, hrow⟩ := new_row (s := s) (te := te) (n := K.n) (l := l) (cells := madeCells z'.cells (l * K.n)) c rfl (by simp [madeCells]) (by simp only [maxLen]; omega)
  refine vl (v := .slice (some ⟨s.w.heap.size, 0, none⟩) l l) (w' := s'.w) ho hd hN hw ?_ (h _ s' p ?_)
  · rw [hs']
    have hr := run_make (P := P) s.w t te ti z' hu hti hzz.1 k1 k2 l l (by omega) (Int.le_refl _) hlb' (by omega)
    simp only [Int.toNat_natCast, hzz.2.1] at hr
    simp [execOp, hop, hx, hy, hr, Result.andThen]
  · simp only [Int.toNat_natCast]
    refine ⟨[s.w.heap.size] ++ [], ⟨_, rfl, _, _, [], rfl, by simpa using hrow, made_els hz' hn h0 _ l⟩, by simp, fun b hb => ?_⟩
    simp at hb; subst hb; exact nn.new _ (Nat.le_refl _)
def sets : List Value → Nat → List Value → List Value
  | cs, _, [] => cs
  | cs, q, v :: vs => sets (cs.set q v) (q + 1) vs
theorem sets_fold (vs : List Value) : ∀ (q j : Nat) (cs : List Value), (vs.zipIdx j).foldl (fun (c : Array Value) (x : Value × Nat) => c.setIfInBounds (q + x.2) x.1) cs.toArray = (sets cs (q + j) vs).toArray := by
  induction vs with
  | nil => intro q j cs; rfl
  | cons v vs ih =>
    intro q j cs
    simp only [List.zipIdx_cons, List.foldl_cons, sets]
    rw [show cs.toArray.setIfInBounds (q + j) v = (cs.set (q + j) v).toArray by simp, ih, Nat.add_assoc]
def lfill (place : Nat → Option (Nat × Nat)) : List Value → List (Nat × Value) → Option (List Value)
  | cells, [] => some cells
  | cells, (i, v) :: rest =>
    match place i with
    | none => none
    | some (off, size) => if v.cells.toList.length ≠ size ∨ off + v.cells.toList.length > cells.length then none else lfill place (sets cells off v.cells.toList) rest
theorem lfill_eq (place : Nat → Option (Nat × Nat)) : ∀ (parts : List (Nat × Value)) (cells cells' : List Value), lfill place cells parts = some cells' → Instr.fill place cells.toArray parts = some cells'.toArray
  | [], cells, cells', h => by simp [lfill] at h; subst h; rfl
  | (i, v) :: rest, cells, cells', h => by
    simp only [lfill] at h
    unfold Instr.fill
    cases hp : place i with
    | none => rw [hp] at h; cases h
    | some p =>
      obtain ⟨off, size⟩ := p
      rw [hp] at h
      simp only [] at h ⊢
      split at h
      · cases h
      · rename_i hne
        have h1 : ¬ (v.cells.size ≠ size || decide (off + v.cells.size > cells.toArray.size)) = true := by simpa using hne
        simp only [Array.length_toList, List.size_toArray] at hne h1 ⊢
        have h2 : (decide (v.cells.size ≠ size) || decide (off + v.cells.size > cells.length)) = false := by
          simp only [Bool.or_eq_false_iff, decide_eq_false_iff_not]
          exact ⟨fun h => hne (.inl h), fun h => hne (.inr h)⟩
        have h3 : (v.cells.size ≠ size ∨ off + v.cells.size > cells.length) = False := by simp only [eq_iff_iff, iff_false]; exact hne
        simp only [Bool.or_eq_true, decide_eq_true_eq, h3, if_false]
        have hf := sets_fold v.cells.toList off 0 cells
        rw [Nat.add_zero] at hf
        have hz : v.cells.zipIdx.foldl (fun cs (c, j) => cs.setIfInBounds (off + j) c) cells.toArray = (sets cells off v.cells.toList).toArray := by
          rw [← hf]
          rw [← Array.foldl_toList]
          simp
        rw [hz]
        exact lfill_eq place rest _ _ h
theorem oc {v : Value} (h : v.oneCell' = true) : v.cells = [v].toArray := by cases v <;> first | rfl | cases h
theorem made_flat (z : Array Value) (hz : 0 < z.size) : ∀ l, madeCells z (l * z.size) = ((List.replicate l z.toList).flatten).toArray
  | 0 => by simp [madeCells]
  | l + 1 => by
    apply Array.ext'
    rw [made_succ z l hz, made_flat z hz l, List.replicate_succ']
    simp
theorem lit_run {t te l n : Nat} {z : Value} {parts : Array (Nat × Operand)} {cells : List Value} (hu : P.underlying t = some (.slice te)) (hs : (P.info? te).map (·.size) = some n) (hz : (P.info? te).bind (·.zero) = some z) (hln : Nat.ble (l * n) 16777216 = true) (hpos : Nat.ble 1 (l * n) = true)
    (hzn : z.cells.toList.length = n)
    (hfill : lfill (fun i => some (i * n, n)) (List.replicate l z.cells.toList).flatten (parts.toList.map fun (i, x) => (i, ev e x)) = some cells) (hop : o.op = .buildSlice t l parts) :
    (execOp (ev e) o).run P s.w = .ok (.value (.slice (some ⟨s.w.heap.size, 0, none⟩) l l)) (s.w.alloc (.cells cells.toArray te)) := by
  have h1 : ¬ l * n > 2 ^ 24 := by have := Nat.le_of_ble_eq_true hln; omega
  have h2 : ¬ l * n = 0 := by have := Nat.le_of_ble_eq_true hpos; omega
  have hrow : (newRow te cells.toArray).run P s.w = .ok ⟨s.w.heap.size, 0, none⟩ (s.w.alloc (.cells cells.toArray te)) := by simp [newRow, newObj]; rfl
  have hn0 : 0 < z.cells.size := by
    have h4 := Nat.le_of_ble_eq_true hpos
    have : z.cells.size = n := by simpa using hzn
    rw [this]
    exact Nat.pos_of_ne_zero fun h => by rw [h] at h4; simp at h4
  have hfl := lfill_eq _ _ _ _ hfill
  have hmf := made_flat z.cells hn0 l
  rw [← hmf, show z.cells.size = n by simpa using hzn] at hfl
  have : (Instr.buildSlice t l (parts.map fun (i, x) => (i, ev e x))).run P s.w = .ok (.slice (some ⟨s.w.heap.size, 0, none⟩) l l) (s.w.alloc (.cells cells.toArray te)) := by
    unfold Instr.buildSlice
    rw [Sem.run_bind', run_underlying hu]
    simp only [Result.andThen]
    rw [Sem.run_bind', size_run hs]
    simp only [Result.andThen, if_neg h1, if_neg h2]
    rw [Sem.run_bind', zero_run hz]
    simp only [Result.andThen]
    rw [Sem.run_bind']
    simp only [Result.andThen, Sem.run_pure]
    unfold madeCells at hfl
    simp only [] at hfl
    simp only [Array.toList_map, hfl]
    rw [Sem.run_bind', hrow]
    rfl
  simp [execOp, hop, this, Result.andThen]
theorem ltF {α : Type} {K : Kd α} {t te l : Nat} {z : Value} {parts : Array (Nat × Operand)} {cells : List Value} (xs : List α) (c : Nat) (hK : FlK K) (hu : P.underlying t = some (.slice te)) (hs : (P.info? te).map (·.size) = some K.n) (hz : (P.info? te).bind (·.zero) = some z) (hE : ∀ w, ElsR K w (fun _ => True) xs cells)
    (ho : ops[i]? = some o) (hd : o.dst = some d) (hN : Nat.blt d N = true) (hw : Region.wanted o (yv e ops) = true) (hop : o.op = .buildSlice t l parts) (hln : Nat.ble (l * K.n) 16777216 = true) (hpos : Nat.ble 1 (l * K.n) = true) (hl : xs.length = l)
    (hzn : z.cells.toList.length = K.n) (hfill : lfill (fun i => some (i * K.n, K.n)) (List.replicate l z.cells.toList).flatten (parts.toList.map fun (i, x) => (i, ev e x)) = some cells)
    (h : ∀ v s', Stp [] s s' → OwF (Kd.sl te K) s' [v] xs c → TM P f N m G R (.inRegion ops rest :: k) (upd e d v) s'.w) :
    TM P f N m G R (.inRegion ops (i :: rest) :: k) e s.w := by
  have hlen := (hE s.w).len
  have h2 := Nat.le_of_ble_eq_true hln
  have h3 := Nat.le_of_ble_eq_true hpos
  have hn : 0 < K.n := Nat.pos_of_ne_zero fun h => by rw [h] at h3; simp at h3
  obtain ⟨s', hs', p, nn, hrow⟩ := new_row (s := s) (te := te) (n := K.n) (l := l) (cells := cells.toArray) c rfl (by simp [hlen, hl]) (by have : l * 1 ≤ l * K.n := Nat.mul_le_mul_left _ hn; simp only [maxLen]; omega)
  refine vl (w' := s'.w) ho hd hN hw (by rw [hs']; exact lit_run hu hs hz hln hpos hzn hfill hop) (h _ s' p ?_)
  subst hl
  refine ⟨[s.w.heap.size] ++ [], ⟨_, rfl, _, _, [], rfl, by simpa using hrow, by simpa using hK.els _ (hE s.w)⟩, by simp, fun b hb => ?_⟩
  simp at hb; subst hb; exact nn.new _ (Nat.le_refl _)
theorem ltR {α : Type} {K : Kd α} {t te l : Nat} {z : Value} {parts : Array (Nat × Operand)} {cells : List Value} (xs : List α) (c : Nat) (C : List Nat) (hc : memb C c = false) (hu : P.underlying t = some (.slice te)) (hs : (P.info? te).map (·.size) = some K.n) (hz : (P.info? te).bind (·.zero) = some z) (hE : ElsR K s.w (fun b => memb C (s.g b) = true) xs cells)
    (ho : ops[i]? = some o) (hd : o.dst = some d) (hN : Nat.blt d N = true) (hw : Region.wanted o (yv e ops) = true) (hop : o.op = .buildSlice t l parts) (hln : Nat.ble (l * K.n) 16777216 = true) (hpos : Nat.ble 1 (l * K.n) = true) (hl : xs.length = l)
    (hzn : z.cells.toList.length = K.n) (hfill : lfill (fun i => some (i * K.n, K.n)) (List.replicate l z.cells.toList).flatten (parts.toList.map fun (i, x) => (i, ev e x)) = some cells)
    (h : ∀ v s', Stp [] s s' → RwF te K s' v xs c C → TM P f N m G R (.inRegion ops rest :: k) (upd e d v) s'.w) :
    TM P f N m G R (.inRegion ops (i :: rest) :: k) e s.w := by
  have hlen := hE.len
  have h2 := Nat.le_of_ble_eq_true hln
  have h3 := Nat.le_of_ble_eq_true hpos
  have hn : 0 < K.n := Nat.pos_of_ne_zero fun h => by rw [h] at h3; simp at h3
  obtain ⟨s', hs', p, nn, hrow⟩ := new_row (s := s) (te := te) (n := K.n) (l := l) (cells := cells.toArray) c rfl (by simp [hlen, hl]) (by have : l * 1 ≤ l * K.n := Nat.mul_le_mul_left _ hn; simp only [maxLen]; omega)
  refine vl (w' := s'.w) ho hd hN hw (by rw [hs']; exact lit_run hu hs hz hln hpos hzn hfill hop) (h _ s' p ?_)
  subst hl
  refine ⟨_, _, by simpa using hrow, fun b hb => by simp at hb; subst hb; exact nn.new _ (Nat.le_refl _), ?_⟩
  have := (hE.mono (F' := fun b => b < s.w.heap.size ∧ memb C (s.g b) = true) fun b hb hl => ⟨hl, hb⟩).frame (w' := s'.w) fun b hb hl => (p.same b hl rfl).2
  exact this.mono fun b hb _ => by rw [nn.old b hb.1]; exact hb.2
theorem el_nil {α : Type} {K : Kd α} {w : World} {F : Nat → Prop} : ElsR K w F [] [] := rfl
theorem el_cons {α : Type} {K : Kd α} {s : St} {C : List Nat} {x : α} {xs : List α} {c1 c2 : List Value} (h1 : RdF K s c1 x C) (h2 : ElsR K s.w (fun b => memb C (s.g b) = true) xs c2) : ElsR K s.w (fun b => memb C (s.g b) = true) (x :: xs) (c1 ++ c2) := ⟨c1, c2, rfl, h1, h2⟩
theorem els_flat {α : Type} {val : α → Value} {hv : ∀ x, (val x).oneCell' = true} (w : World) (F : Nat → Prop) : ∀ xs : List α, ElsR (Kd.flat val hv) w F xs (xs.map val)
  | [] => rfl
  | x :: xs => ⟨[val x], xs.map val, rfl, rfl, els_flat w F xs⟩
end
end Go.Proofs.Ytcagjdngannneaa.V
