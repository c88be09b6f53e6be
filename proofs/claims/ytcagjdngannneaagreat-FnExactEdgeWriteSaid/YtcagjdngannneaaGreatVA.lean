
import Derived.Test.YtcagjdngannneaaGreatVz
set_option linter.unusedVariables false
set_option linter.unusedSimpArgs false
namespace Go.Proofs.YtcagjdngannneaaGreat.V
open Go
theorem setCells_heap (g : Nat) (t : TypeId) : ∀ (vs : List Value) (o : Nat) (w : World) (cur : Array Value), w.heap[g]? = some (.cells cur t (0, 0)) → ∃ cur', (w.setCells g o vs).heap[g]? = some (.cells cur' t (0, 0)) ∧ cur'.size = cur.size ∧ ∀ j, j < o → cur'[j]? = cur[j]?
  | [], o, w, cur, h => ⟨cur, h, rfl, fun _ _ => rfl⟩
  | v :: vs, o, w, cur, h => by
    have h1 := heap_setCell_same w g o cur t v h
    obtain ⟨cur', h2, h3, h4⟩ := setCells_heap g t vs (o + 1) (w.setCell ⟨g, o, none⟩ v) _ h1
    refine ⟨cur', h2, by rw [h3]; simp, fun j hj => ?_⟩
    rw [h4 j (by omega), Array.getElem?_setIfInBounds_ne (by omega)]
theorem append_keep {P : Program} {w : World} {t te ty : TypeId} {n : Nat} {v u : Value} {lx ly : Nat} {cells cells' : List Value} {os : List Nat} (hT : SlT P t te n) (hR : RowAt w te n v lx cells os) (hS : SlV w u ly n cells') (hl : lx + ly ≤ Lim) :
    ∃ v' w', (Builtin.append_ #[t, t] ty #[v, u]).run P w = .ok v' w' ∧ RowAt w' te n v' (lx + ly) (cells ++ cells') (Value.blk v') ∧ w.grownBy w' v.ownBlock ∧ (∀ b ∈ Value.blk v', b ∈ os ∨ w.heap.size ≤ b) ∧ RowAt w' te n v lx cells os := by
  obtain ⟨v', w', hrun, h1, h2, h3⟩ := append_core (ty := ty) hT hR hS hl
  refine ⟨v', w', hrun, h1, h2, h3, ?_⟩
  rcases hR.2 with ⟨rfl, hn0, ho⟩ | ⟨g, cap, cur, rfl, hg, hcl, hcm, hsz, htk, ho⟩
  · exact ⟨hR.1, .inl ⟨rfl, hn0, ho⟩⟩
  · have hR' := hR
    obtain ⟨hu, z, by_, hi, hz, hn, hb⟩ := hT
    obtain ⟨A, cap2, rfl, hlen, hone, hc⟩ := hS
    obtain ⟨ti, hti, hzz⟩ := Option.map_eq_some_iff.1 hi
    simp only [Prod.mk.injEq] at hzz
    have hgl : g < w.heap.size := (Array.getElem?_eq_some_iff.1 hg).1
    have hxl := hR.1
    cases A with
    | none =>
      have hnil : cells' = [] := by
        cases cells' with
        | nil => rfl
        | cons u us =>
          obtain ⟨ad, h, _⟩ := hc (by simp)
          cases h
      have hy : ly = 0 := by
        subst hnil
        rcases Nat.mul_eq_zero.1 (show ly * n = 0 from hlen.symm) with h | h
        · exact h
        · omega
      subst hy
      have hr2 := append_none_run (P := P) (w := w) t ty te _ _ _ cap2 _ hu (by rw [hti]; simp [hzz.2.1]) hR.owns
      rw [hr2] at hrun
      cases hrun
      exact hR'
    | some ad =>
      have hnews : ∀ j u, cells'[j]? = some u → w.cell? (ad.add j) = some u := fun j u hj => by
        obtain ⟨ad', e, h⟩ := hc (fun h => by rw [h] at hj; simp at hj)
        obtain rfl := Option.some.inj e
        exact h j u hj
      have hlim : lx + ly ≤ maxLen := by unfold Lim at hl; simp only [maxLen]; omega
      by_cases hroom : lx + ly ≤ cap
      · have hmul : (lx + ly) * n ≤ cap * n := Nat.mul_le_mul_right _ hroom
        rw [Nat.add_mul] at hmul
        have hcell : ∀ j, j < cells'.length → w.cell? ⟨g, 0 + lx * n + j, none⟩ = cur[lx * n + j]? := fun j hj => by simp [World.cell?, hg]
        have hr2 := run_append_room_cells (P := P) w t ty te ti hu hti g 0 lx cap ad ly cap2 cells' (by rw [hzz.2.1]; exact hlen) hnews hone hroom (fun j hj => by
          rw [hzz.2.1, hcell j hj, Array.getElem?_eq_getElem (by rw [hsz]; omega)]; rfl) (fun j hj => by simp [World.frozen?, hg])
        rw [hr2] at hrun
        simp only [Result.ok.injEq] at hrun
        obtain ⟨_, rfl⟩ := hrun
        rw [hzz.2.1]
        obtain ⟨cur', k1, k2, k3⟩ := setCells_heap g te cells' (0 + lx * n) w cur hg
        refine ⟨hR.1, .inr ⟨g, cap, cur', rfl, k1, hcl, hcm, by rw [k2]; exact hsz, ?_, ho⟩⟩
        rw [← htk]
        apply List.ext_getElem?
        intro j
        rw [List.getElem?_take, List.getElem?_take]
        by_cases hj : j < lx * n
        · rw [if_pos hj, if_pos hj, Array.getElem?_toList, Array.getElem?_toList]; exact k3 j (by omega)
        · rw [if_neg hj, if_neg hj]
      · obtain ⟨v2, w2, hr2, _, hg2⟩ := run_append_arg_grows (P := P) w t ty te ti z n by_ hu hti hzz.1 hzz.2.1 hzz.2.2 hz hn ⟨g, 0, none⟩ lx cap cells hR.1 (fun j u hj => hR.owns.cells (g := g) rfl j u hj) ad ly cap2 cells' hlen hnews (by omega) hlim (by unfold Lim at hl; have : (lx + ly) * by_ ≤ 4294967296 * 32768 := Nat.mul_le_mul hl hb; omega)
        rw [hr2] at hrun
        simp only [Result.ok.injEq] at hrun
        obtain ⟨_, rfl⟩ := hrun
        exact hR'.frame fun b hb hbl => hg2.block b hbl (by simp)
section
variable {P : Program} {f : FuncId} {N : Nat} {O ρ : Type} {m : Option O} {G : O → Option ρ} {R : ρ → Ending → World → Prop} {e : Env} {k : List Item} {ops : Array Oper}
variable {s : St} {i d : Nat} {rest : List Nat} {o : Oper}
theorem apK {α β : Type} [Inhabited α] {K : Kd α} {K2 : Kd β} {q t te te2 : Nat} {get : α → List β} {set : α → List β → α} {x y : Operand} {v u u2 : Value} {xs : List α} {ys : List β} {c d' : Nat} {ii : Int} {ad : Addr} {es : List Value} {C : List Nat} (a c2 : Nat) (L : LensG K (Kd.sl te2 K2) q get set) (hsg : ∀ x, set x (get x) = x)
    (hO : OwF (Kd.sl te K) s [v] xs c) (h0 : 0 ≤ ii) (h1 : ii < xs.length) (hA : IxA v K.n ii ad) (hC : CeF s ad es C) (hel : Nat.beq es.length K.n = true) (hu : es[q]? = some u) (hqn : Nat.blt q K.n = true) (h40 : Nat.ble 40 c = true)
    (hT : SlT P t te2 K2.n) (hS : OwF (Kd.sl te2 K2) s [u2] ys d') (hd40 : Nat.ble 40 d' = true) (hcol : (!Nat.beq c d' && !Nat.beq a c2 && !Nat.beq c a && !Nat.beq c c2) = true)
    (ho : ops[i]? = some o) (hd : o.dst = some d) (hN : Nat.blt d N = true) (hw : Region.wanted o (yv e ops) = true) (hop : o.op = .call { callee := .builtin .append, args := #[x, y], argTypes := #[t, t] }) (hx : ev e x = u) (hy : ev e y = u2)
    (h : ∀ v' s', Stp [c, d'] s s' → OwF (Kd.sl te2 K2) s' [v'] (get (at_ xs ii) ++ ys) a → RwF te K s' v xs c [c2, a] → RdF K s' es (at_ xs ii) [c2, a] → TM P f N m G R (.inRegion ops rest :: k) (upd e d v') s'.w) :
    TM P f N (if (get (at_ xs ii)).length + ys.length ≤ Lim then m else none) G R (.inRegion ops (i :: rest) :: k) e s.w := by
  refine mg fun hlim => ?_
  simp only [Bool.and_eq_true, Bool.not_eq_true'] at hcol
  obtain ⟨⟨⟨hcd, hac2⟩, hca⟩, hcc2⟩ := hcol
  have ne : ∀ {x y : Nat}, Nat.beq x y = false → x ≠ y := fun h e => by subst e; rw [Nat.beq_refl] at h; cases h
  have hcd := ne hcd
  have hac2 := ne hac2
  have hca := ne hca
  have hcc2 := ne hcc2
  have h40' := Nat.le_of_ble_eq_true h40
  have hd40' := Nat.le_of_ble_eq_true hd40
  have hel' := Nat.eq_of_beq_eq_true hel
  obtain ⟨os, ⟨v1, e1, cells, o1, o2, rfl, hR, hE⟩, hnd, hcol⟩ := hO
  obtain rfl : v = v1 := by simpa using e1
  obtain ⟨Aa, l, cap, hv, rfl⟩ := hA
  have hi : ii.toNat < xs.length := by omega
  have hq : q < K.n := by simp [Nat.blt] at hqn; omega
  obtain ⟨hl, hR2⟩ := hR
  rcases hR2 with ⟨h2, _⟩ | ⟨g, cap', cur, h2, hg, hlc, hcm', hsz, htk, rfl⟩
  · rw [h2] at hv; cases hv
  rw [h2] at hv
  simp only [Value.slice.injEq, Option.some.injEq] at hv
  obtain ⟨rfl, rfl, rfl⟩ := hv
  obtain ⟨p1, p2, p3, rfl, hK, hset⟩ := hE.at_ ii.toNat hi
  have hat := at_eq xs ii hi
  obtain ⟨r1, r2, r3, q1, q2, q3, hes, hq1, rfl, hg2, hput⟩ := L _ _ _ _ hK
  rw [← hat] at hg2
  have hr2 : r2.length = 1 := (Kd.sl te2 K2).rd_len ((Kd.sl te2 K2).ow_rd hg2)
  have hmul : (ii.toNat + 1) * K.n ≤ xs.length * K.n := Nat.mul_le_mul_right _ hi
  rw [Nat.add_mul, Nat.one_mul] at hmul
  have hcl : cells.length = xs.length * K.n := hl
  -- the element's cells are those that were loaded
  have hchunk : (cells.drop (ii.toNat * K.n)).take K.n = es := by
    apply List.ext_getElem?
    intro j
    by_cases hj : j < K.n
    · have hcell := hC.2 j es[j] (List.getElem?_eq_getElem (by omega))
      rw [Addr.add_add', Addr.add_mid, Nat.zero_add] at hcell
      have hw2 : s.w.cell? ⟨g, ii.toNat * K.n + j, none⟩ = cur[ii.toNat * K.n + j]? := by simp [World.cell?, hg]
      rw [hw2, ← Array.getElem?_toList] at hcell
      rw [List.getElem?_take, if_pos hj, List.getElem?_drop, ← htk, List.getElem?_take, if_pos (by omega), hcell, List.getElem?_eq_getElem (by omega)]
    · rw [List.getElem?_eq_none (by simp; omega), List.getElem?_eq_none (by omega)]
  have hru : r2 = [u] := by
    obtain ⟨u', rfl⟩ := List.length_eq_one_iff.1 hr2
    rw [← hchunk, hes, List.getElem?_append_right (by omega), hq1, Nat.sub_self] at hu
    simp at hu; rw [hu]
  subst hru
  have hcnt : ∀ b, (g :: (p1 ++ (q1 ++ (q2 ++ q3)) ++ p3)).count b ≤ 1 := fun b => List.nodup_iff_count.1 hnd b
  have hgl : g < s.w.heap.size := (Array.getElem?_eq_some_iff.1 hg).1
  have hgc := hcol g (by simp)
  -- the part's own blocks
  obtain ⟨u1, e2, lcells, l1, l2, rfl, hLR, hLE⟩ := hg2
  obtain rfl : u = u1 := by simpa using e2
  obtain ⟨ps, ⟨u3, e3, ucells, y1, y2, rfl, hUR, hUE⟩, hnd2, hcol2⟩ := hS
  obtain rfl : u2 = u3 := by simpa using e3
  obtain ⟨v', w', hr, hR', hgr, hb, hkeep⟩ := append_keep (P := P) (ty := o.type) hT hLR (hUR.slv hUE.rd.one) hlim
  refine vl (v := v') (w' := w') ho hd hN hw (by simp [execOp, hop, resolve, invoke, builtin, hx, hy, hr, Result.andThen]) ?_
  have hown : ∀ b, u.ownBlock = some b → b ∈ l1 := fun b hb => blk_own hLR hb
  have hsame : ∀ b, b < s.w.heap.size → b ∉ l1 → w'.heap[b]? = s.w.heap[b]? := fun b hbl hbn => hgr.block b hbl fun e => hbn (hown b e.symm)
  have hcm : ∀ b ∈ g :: (p1 ++ (q1 ++ ((l1 ++ l2) ++ q3)) ++ p3), s.g b = c := fun b hb => hcol b (by simpa using hb)
  have hlt : ∀ b ∈ p1 ++ (q1 ++ ((l1 ++ l2) ++ q3)) ++ p3, b < s.w.heap.size := fun b hb => hE.lt b hb
  have hydc : ∀ b ∈ y1 ++ y2, s.g b = d' := hcol2
  have hl1n : ∀ b, b ∈ g :: (p1 ++ q1 ++ l2 ++ q3 ++ p3) → b ∉ l1 := fun b hb hb1 => by
    have h4 := hcnt b
    have h3 : 1 ≤ l1.count b := List.count_pos_iff.2 hb1
    have h5 : 1 ≤ (g :: (p1 ++ q1 ++ l2 ++ q3 ++ p3)).count b := List.count_pos_iff.2 hb
    rw [List.count_cons] at h4 h5
    simp only [List.count_append] at h4 h5
    omega
  have hleaf : ∀ b, b ∈ l1 ++ l2 → b ∉ g :: (p1 ++ q1 ++ q3 ++ p3) := fun b hb hb1 => by
    have h4 := hcnt b
    have h3 : 1 ≤ (l1 ++ l2).count b := List.count_pos_iff.2 hb
    have h5 : 1 ≤ (g :: (p1 ++ q1 ++ q3 ++ p3)).count b := List.count_pos_iff.2 hb1
    rw [List.count_cons] at h4 h5
    simp only [List.count_append] at h3 h4 h5
    omega
  -- the new colours
  let col : Nat → Nat := fun b => open Classical in if b < s.w.heap.size then (if s.g b = d' ∨ b ∈ l1 ++ l2 then a else if s.g b = c ∧ b ≠ g then c2 else s.g b) else a
  have colg : col g = c := by
    have h5 : ¬ (s.g g = d' ∨ g ∈ l1 ++ l2) := fun hh => by
      rcases hh with hh | hh
      · exact hcd (hgc.symm.trans hh)
      · exact hleaf g hh (by simp)
    simp only [col, if_pos hgl, if_neg h5]
    rw [if_neg (fun hh => hh.2 rfl)]; exact hgc
  have coll : ∀ b ∈ l1 ++ l2, col b = a := fun b hb => by
    have : b < s.w.heap.size := hlt b (by simp at hb ⊢; rcases hb with hb | hb <;> simp [hb])
    simp only [col, if_pos this, if_pos (Or.inr hb : s.g b = d' ∨ b ∈ l1 ++ l2)]
  have coly : ∀ b ∈ y1 ++ y2, b < s.w.heap.size → col b = a := fun b hb hbl => by
    simp only [col, if_pos hbl, if_pos (Or.inl (hydc b hb) : s.g b = d' ∨ b ∈ l1 ++ l2)]
  have colo : ∀ b ∈ p1 ++ q1 ++ q3 ++ p3, col b = c2 := fun b hb => by
    have hbl : b < s.w.heap.size := hlt b (by simp at hb ⊢; rcases hb with hb | hb | hb | hb <;> simp [hb])
    have hbc : s.g b = c := hcm b (by simp at hb ⊢; rcases hb with hb | hb | hb | hb <;> simp [hb])
    have h5 : ¬ (s.g b = d' ∨ b ∈ l1 ++ l2) := fun hh => by
      rcases hh with hh | hh
      · exact hcd (hbc.symm.trans hh)
      · exact hleaf b hh (List.mem_cons_of_mem _ hb)
    have h6 : b ≠ g := fun e => by
      have h4 := hcnt b
      have h7 : 1 ≤ (p1 ++ q1 ++ q3 ++ p3).count b := List.count_pos_iff.2 hb
      subst e
      rw [List.count_cons_self] at h4
      simp only [List.count_append] at h4 h7
      omega
    simp only [col, if_pos hbl, if_neg h5, if_pos (And.intro hbc h6)]
  have hLE' : ElsO K2 w' (get (at_ xs ii)) lcells l2 := hLE.frame fun b hb hbl => hsame b hbl (hl1n b (by simp [hb]))
  have hleafow : (Kd.sl te2 K2).ow w' [u] (get (at_ xs ii)) (l1 ++ l2) := ⟨u, rfl, lcells, l1, l2, rfl, hkeep, hLE'⟩
  have hKnew := hput w' (get (at_ xs ii)) [u] (l1 ++ l2) hleafow fun b hb hbl => hsame b hbl (hl1n b (by simp at hb ⊢; rcases hb with hb | hb <;> simp [hb]))
  rw [← hat, hsg] at hKnew
  have hrow := hset w' _ (at_ xs ii) _ hKnew fun b hb hbl => hsame b hbl (hl1n b (by simp at hb ⊢; rcases hb with hb | hb <;> simp [hb]))
  have hxs : xs.set ii.toNat (at_ xs ii) = xs := by rw [hat]; exact List.set_getElem_self hi
  have hcells : cells.take (ii.toNat * K.n) ++ (r1 ++ ([u] ++ r3)) ++ cells.drop ((ii.toNat + 1) * K.n) = cells := by
    rw [← hes, Nat.add_mul, Nat.one_mul, ← List.drop_drop, List.append_assoc, List.take_append_drop, List.take_append_drop]
  rw [hxs, hcells] at hrow
  have hgsame := hsame g hgl (hl1n g (by simp))
  have hmem : ∀ b, b ∈ p1 ++ (q1 ++ ((l1 ++ l2) ++ q3)) ++ p3 → memb [c2, a] (col b) = true := fun b hb => by
    have : b ∈ l1 ++ l2 ∨ b ∈ p1 ++ q1 ++ q3 ++ p3 := by
      simp at hb ⊢
      rcases hb with hb | hb | hb | hb | hb | hb <;> simp [hb]
    rcases this with hb | hb
    · rw [coll b hb]; simp [memb]
    · rw [colo b hb]; simp [memb]
  refine h v' ⟨w', col⟩ ⟨hgr.os, hgr.tape, hgr.output, hgr.size, fun b hbl hlo => ?_, fun b hbl hm => ?_⟩ ?_ ?_ ?_
  · have h5 : ¬ (s.g b = d' ∨ b ∈ l1 ++ l2) := fun hh => by
      rcases hh with hh | hh
      · omega
      · have := hcm b (by simp at hh ⊢; rcases hh with hh | hh <;> simp [hh]); omega
    have h6 : ¬ (s.g b = c ∧ b ≠ g) := fun hh => by omega
    simp only [col, if_pos hbl, if_neg h5, if_neg h6]
  · simp only [memb, Bool.or_eq_false_iff] at hm
    have m1 : s.g b ≠ c := fun hh => by rw [hh] at hm; simp at hm
    have m2 : s.g b ≠ d' := fun hh => by rw [hh] at hm; simp at hm
    have h5 : ¬ (s.g b = d' ∨ b ∈ l1 ++ l2) := fun hh => by
      rcases hh with hh | hh
      · exact m2 hh
      · exact m1 (hcm b (by simp at hh ⊢; rcases hh with hh | hh <;> simp [hh]))
    refine ⟨by simp only [col, if_pos hbl, if_neg h5, if_neg (fun hh : s.g b = c ∧ b ≠ g => m1 hh.1)], hsame b hbl fun hh => m1 (hcm b (by simp [hh]))⟩
  · have hndl : (l1 ++ l2).Nodup := by
      rw [List.nodup_iff_count]; intro b
      have h4 := hcnt b
      rw [List.count_cons] at h4
      simp only [List.count_append] at h4 ⊢
      omega
    have hdis : ∀ b, b ∈ l1 ++ l2 → b ∉ y1 ++ y2 := fun b hb1 hb2 => hcd ((hcm b (by simp at hb1 ⊢; rcases hb1 with hb1 | hb1 <;> simp [hb1])).symm.trans (hydc b hb2))
    have hy2lt : ∀ b ∈ y2, b < s.w.heap.size := hUE.lt
    have hl2lt : ∀ b ∈ l2, b < s.w.heap.size := hLE.lt
    have hUE' : ElsO K2 w' ys ucells y2 := hUE.frame fun b hb hbl => hsame b hbl fun hb1 => hdis b (List.mem_append_left _ hb1) (List.mem_append_right _ hb)
    have hnd' := List.nodup_append.1 hndl
    have hnd2' := List.nodup_append.1 hnd2
    refine ⟨Value.blk v' ++ (l2 ++ y2), ⟨v', rfl, lcells ++ ucells, Value.blk v', l2 ++ y2, rfl, by rw [List.length_append]; exact hR', hLE'.append hUE'⟩, ?_, fun b hb' => ?_⟩
    · have hvn : (Value.blk v').Nodup := by unfold Value.blk; split <;> simp
      refine List.nodup_append.2 ⟨hvn, List.nodup_append.2 ⟨hnd'.2.1, hnd2'.2.1, fun a' ha b hb' hab => ?_⟩, fun a' ha b hb' hab => ?_⟩
      · subst hab; exact hdis a' (List.mem_append_right _ ha) (List.mem_append_right _ hb')
      · subst hab
        rcases List.mem_append.1 hb' with hb' | hb'
        · rcases hb a' ha with h1 | h1
          · exact hnd'.2.2 a' h1 a' hb' rfl
          · have := hl2lt a' hb'; omega
        · rcases hb a' ha with h1 | h1
          · exact hdis a' (List.mem_append_left _ h1) (List.mem_append_right _ hb')
          · have := hy2lt a' hb'; omega
    · show col b = a
      rcases List.mem_append.1 hb' with hb' | hb'
      · rcases hb b hb' with h1 | h1
        · exact coll b (List.mem_append_left _ h1)
        · simp only [col, if_neg (show ¬ b < s.w.heap.size by omega)]
      · rcases List.mem_append.1 hb' with hb' | hb'
        · exact coll b (List.mem_append_right _ hb')
        · exact coly b (List.mem_append_right _ hb') (hy2lt b hb')
  · exact ⟨cells, [g], ⟨hl, .inr ⟨g, cap', cur, h2, by rw [hgsame]; exact hg, hlc, hcm', hsz, htk, rfl⟩⟩, fun b hb => by simp at hb; subst hb; exact colg, hrow.rd.mono fun b hb _ => hmem b hb⟩
  · have h9 : K.rd w' es (at_ xs ii) (fun b => memb [c2, a] (col b) = true) := by
      rw [← hchunk, hes]
      exact K.rd_mono (K.ow_rd hKnew) fun b hb _ => hmem b (by simp at hb ⊢; rcases hb with hb | hb | hb | hb <;> simp [hb])
    exact h9
end
end Go.Proofs.YtcagjdngannneaaGreat.V
