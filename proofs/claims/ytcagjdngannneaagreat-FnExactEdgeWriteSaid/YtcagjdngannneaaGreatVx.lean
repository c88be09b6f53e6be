
import Derived.Test.YtcagjdngannneaaGreatVw
set_option linter.unusedVariables false
set_option linter.unusedSimpArgs false
namespace Go.Proofs.YtcagjdngannneaaGreat.V
open Go
def HoL {α β : Type} [Inhabited α] (te : TypeId) (K : Kd α) (A : Kd β) (q : Nat) (set : α → β → α) (s : St) (v : Value) (xs : List α) (ii : Int) (c : Nat) : Prop :=
  ∃ g cap cur c1 u0 c3 p1 p3, v = .slice (some ⟨g, 0, none⟩) xs.length cap ∧ s.w.heap[g]? = some (.cells cur te (0, 0)) ∧ xs.length ≤ cap ∧ cap ≤ maxLen ∧ cur.size = cap * K.n ∧
    cur.toList.take (xs.length * K.n) = c1 ++ (u0 ++ c3) ∧ u0.length = A.n ∧ c1.length = ii.toNat * K.n + q ∧ (g :: (p1 ++ p3)).Nodup ∧ (∀ b ∈ g :: (p1 ++ p3), s.g b = c ∧ b < s.w.heap.size) ∧ ii.toNat < xs.length ∧
    ∀ w' e2 y o2, A.ow w' e2 y o2 → Agr s.w w' (· ∈ p1 ++ p3) → ElsO K w' (xs.set ii.toNat (set (at_ xs ii) y)) (c1 ++ (e2 ++ c3)) (p1 ++ (o2 ++ p3))
theorem HoL.st {α β : Type} [Inhabited α] {te : TypeId} {K : Kd α} {A : Kd β} {q : Nat} {set : α → β → α} {s s' : St} {v : Value} {xs : List α} {ii : Int} {c : Nat} {S : List Nat} (h : HoL te K A q set s v xs ii c) (p : Stp S s s') (d : memb S c = false) : HoL te K A q set s' v xs ii c := by
  obtain ⟨g, cap, cur, c1, u0, c3, p1, p3, e1, e2, e3, e4, e5, e6, e7, e8, e9, e10, e11, e12⟩ := h
  have hs : ∀ b ∈ g :: (p1 ++ p3), s'.g b = s.g b ∧ s'.w.heap[b]? = s.w.heap[b]? := fun b hb => p.same b (e10 b hb).2 (by rw [(e10 b hb).1]; exact d)
  refine ⟨g, cap, cur, c1, u0, c3, p1, p3, e1, by rw [(hs g (by simp)).2]; exact e2, e3, e4, e5, e6, e7, e8, e9, fun b hb => ⟨by rw [(hs b hb).1]; exact (e10 b hb).1, Nat.lt_of_lt_of_le (e10 b hb).2 p.size⟩, e11, fun w' e2 y o2 hy ha => e12 w' e2 y o2 hy fun b hb hl => ?_⟩
  rw [ha b hb (Nat.lt_of_lt_of_le hl p.size), (hs b (by simp at hb ⊢; rcases hb with hb | hb <;> simp [hb])).2]
theorem take_ {α β : Type} [Inhabited α] {K : Kd α} {A : Kd β} {q te : Nat} {get : α → β} {set : α → β → α} {s : St} {v u : Value} {xs : List α} {c : Nat} {ii : Int} {ad : Addr} {es : List Value} {C : List Nat} (a : Nat) (L : LensG K A q get set)
    (hO : OwF (Kd.sl te K) s [v] xs c) (h0 : 0 ≤ ii) (h1 : ii < xs.length) (hA : IxA v K.n ii ad) (hC : CeF s ad es C) (hu : es[q]? = some u) (hqn : Nat.blt q K.n = true) (hn : A.n = 1) (h40 : Nat.ble 40 c = true) :
    ∃ s' : St, s.w = s'.w ∧ Stp [c] s s' ∧ OwF A s' [u] (get (at_ xs ii)) a ∧ HoL te K A q set s' v xs ii c ∧ CeF s' ad es C := by
  have h40' := Nat.le_of_ble_eq_true h40
  obtain ⟨os, ⟨v1, e1, cells, o1, o2, rfl, hR, hE⟩, hnd, hcol⟩ := hO
  obtain rfl : v = v1 := by simpa using e1
  obtain ⟨Aa, l, cap, hv, rfl⟩ := hA
  have hi : ii.toNat < xs.length := by omega
  have hq : q < K.n := by simp [Nat.blt] at hqn; omega
  obtain ⟨hl, hR2⟩ := hR
  rcases hR2 with ⟨h2, _⟩ | ⟨g, cap', cur, h2, hg, hlc, hcm, hsz, htk, rfl⟩
  · rw [h2] at hv; cases hv
  · rw [h2] at hv
    simp only [Value.slice.injEq, Option.some.injEq] at hv
    obtain ⟨rfl, rfl, rfl⟩ := hv
    obtain ⟨p1, p2, p3, rfl, hK, hset⟩ := hE.at_ ii.toNat hi
    rw [at_eq xs ii hi]
    obtain ⟨r1, r2, r3, q1, q2, q3, hes, hq1, rfl, hg2, hput⟩ := L _ _ _ _ hK
    have hr2 : r2.length = A.n := A.rd_len (A.ow_rd hg2)
    have hmul : (ii.toNat + 1) * K.n ≤ xs.length * K.n := Nat.mul_le_mul_right _ hi
    rw [Nat.add_mul, Nat.one_mul] at hmul
    have hcl : cells.length = xs.length * K.n := hl
    have hlt : (cells.take (ii.toNat * K.n)).length = ii.toNat * K.n := by rw [List.length_take]; omega
    have e0 : cells = (cells.take (ii.toNat * K.n) ++ r1) ++ (r2 ++ (r3 ++ cells.drop ((ii.toNat + 1) * K.n))) := by
      have : cells = cells.take (ii.toNat * K.n) ++ ((r1 ++ (r2 ++ r3)) ++ cells.drop ((ii.toNat + 1) * K.n)) := by
        rw [← hes, Nat.add_mul, Nat.one_mul, ← List.drop_drop, List.take_append_drop, List.take_append_drop]
      conv => lhs; rw [this]
      simp
    have hc1l : (cells.take (ii.toNat * K.n) ++ r1).length = ii.toNat * K.n + q := by rw [List.length_append, hlt, hq1]
    -- the cell is the one that was loaded
    have hru : r2 = [u] := by
      obtain ⟨u', rfl⟩ := List.length_eq_one_iff.1 (hr2.trans hn)
      have hcell := hC.2 q u hu
      rw [Addr.add_add', Addr.add_mid, Nat.zero_add] at hcell
      have hc2 : cells[ii.toNat * K.n + q]? = some u' := by
        rw [e0, List.getElem?_append_right (by omega), hc1l, Nat.sub_self]; rfl
      rw [← htk, List.getElem?_take] at hc2
      split at hc2
      · have : s.w.cell? ⟨g, ii.toNat * K.n + q, none⟩ = cur[ii.toNat * K.n + q]? := by simp [World.cell?, hg]
        rw [this, ← Array.getElem?_toList] at hcell
        rw [hcell] at hc2
        rw [Option.some.inj hc2]
      · cases hc2
    subst hru
    have hcnt : ∀ b, (g :: (p1 ++ (q1 ++ (q2 ++ q3)) ++ p3)).count b ≤ 1 := fun b => List.nodup_iff_count.1 hnd b
    have hgl : g < s.w.heap.size := (Array.getElem?_eq_some_iff.1 hg).1
    have hgq : g ∉ q2 := fun h => by
      have := hcnt g
      rw [List.count_cons_self] at this
      have h3 : 1 ≤ q2.count g := List.count_pos_iff.2 h
      simp only [List.count_append] at this
      omega
    have hout : ∀ b, b ∈ g :: ((p1 ++ q1) ++ (q3 ++ p3)) → b ∉ q2 := fun b hb hb2 => by
      have h3 : 1 ≤ q2.count b := List.count_pos_iff.2 hb2
      have h4 := hcnt b
      have h5 : 1 ≤ (g :: ((p1 ++ q1) ++ (q3 ++ p3))).count b := List.count_pos_iff.2 hb
      rw [List.count_cons] at h4 h5
      simp only [List.count_append] at h4 h5
      omega
    refine ⟨⟨s.w, fun b => open Classical in if b ∈ q2 then a else s.g b⟩, rfl, ⟨rfl, rfl, rfl, Nat.le_refl _, fun b hb hlo => ?_, fun b hb hm => ⟨?_, rfl⟩⟩, ⟨q2, hg2, ?_, fun b hb => by simp [hb]⟩, ?_, ?_⟩
    · have : b ∉ q2 := fun h => by
        have := hcol b (by simp [h])
        omega
      simp [this]
    · have : b ∉ q2 := fun h => by
        have := hcol b (by simp [h])
        rw [this] at hm; simp [memb] at hm
      simp [this]
    · rw [List.nodup_iff_count]
      intro b
      have h4 := hcnt b
      rw [List.count_cons] at h4
      simp only [List.count_append] at h4
      omega
    · refine ⟨g, cap', cur, _, [u], _, p1 ++ q1, q3 ++ p3, h2, hg, hlc, hcm, hsz, by rw [htk]; exact e0, hr2, hc1l, ?_, fun b hb => ⟨?_, ?_⟩, hi, fun w' e2 y o2 hy ha => ?_⟩
      · rw [List.nodup_iff_count]
        intro b
        have h4 := hcnt b
        rw [List.count_cons] at h4 ⊢
        simp only [List.count_append] at h4 ⊢
        omega
      · have := hout b hb
        simp only [this, if_false]
        refine hcol b ?_
        simp at hb ⊢
        rcases hb with rfl | hb | hb | hb | hb <;> simp [*]
      · simp at hb
        rcases hb with rfl | hb | hb | hb | hb
        · exact hgl
        · exact hE.lt b (by simp [hb])
        · exact hE.lt b (by simp [hb])
        · exact hE.lt b (by simp [hb])
        · exact hE.lt b (by simp [hb])
      · have h6 := hput w' y e2 o2 hy fun b hb hl => ha b (by simp at hb ⊢; rcases hb with hb | hb <;> simp [hb]) hl
        have h7 := hset w' _ _ _ h6 fun b hb hl => ha b (by simp at hb ⊢; rcases hb with hb | hb <;> simp [hb]) hl
        rw [← at_eq xs ii hi] at h7
        simpa using h7
    · refine ⟨?_, hC.2⟩
      have hb := hC.1
      rw [add_block] at hb ⊢
      have : (⟨g, 0, none⟩ : Addr).block ∉ q2 := hgq
      simp only [this, if_false]
      exact hb
section
variable {P : Program} {f : FuncId} {N : Nat} {O ρ : Type} {m : Option O} {G : O → Option ρ} {R : ρ → Ending → World → Prop} {e : Env} {s : St} {k : List Item} {ops : Array Oper} {i d : Nat} {rest : List Nat} {o : Oper}
theorem soh {α β : Type} [Inhabited α] {K : Kd α} {A : Kd β} {q : Nat} {set : α → β → α} {t te : TypeId} {x y : Operand} {v : Value} {vs : List Value} {xs : List α} {c d' : Nat} {ii : Int} {ad : Addr} {x' : β}
    (hH : HoL te K A q set s v xs ii c) (hA : IxA v K.n ii ad) (hX : OwF A s vs x' d') (hcd : Nat.beq c d' = false) (h10 : Nat.ble 40 d' = true) (hs : (P.info? t).map (·.size) = some A.n)
    (ho : ops[i]? = some o) (hd : o.dst = none) (hw : Region.wanted o (yv e ops) = true) (hop : o.op = .store t x y) (hx : ev e x = .pointer (some (ad.add q))) (hy : (ev e y).cells = vs.toArray)
    (h : ∀ s', Stp [c, d'] s s' → OwF (Kd.sl te K) s' [v] (xs.set ii.toNat (set (at_ xs ii) x')) c → TM P f N m G R (.inRegion ops rest :: k) e s'.w) : TM P f N m G R (.inRegion ops (i :: rest) :: k) e s.w := by
  have hcd' : c ≠ d' := fun h => by subst h; simp at hcd
  have hd10 := Nat.le_of_ble_eq_true h10
  obtain ⟨ox, hxo, hxn, hxc⟩ := hX
  have hvl : vs.length = A.n := A.rd_len (A.ow_rd hxo)
  have hv1 : ∀ u ∈ vs, u.oneCell' = true := A.rd_one (A.ow_rd hxo)
  obtain ⟨g, cap, cur, c1, u0, c3, p1, p3, rfl, hg, hlc, hcm, hsz, htk, hu0, hc1, hnd, hcol, hi, hmake⟩ := hH
  obtain ⟨Aa, l, cap2, hv, rfl⟩ := hA
  simp only [Value.slice.injEq, Option.some.injEq] at hv
  obtain ⟨rfl, rfl, rfl⟩ := hv
  have hcapm : xs.length * K.n ≤ cap * K.n := Nat.mul_le_mul_right _ hlc
  have hlen := congrArg List.length htk
  simp only [List.length_take, Array.length_toList, List.length_append] at hlen
  have hgc := (hcol g (by simp)).1
  have hgl := (hcol g (by simp)).2
  have hst := run_storeCells_at P g (ii.toNat * K.n + q) te vs 0 cur s.w hg (by rw [hvl, hsz]; omega) hv1
  simp only [Nat.add_zero] at hst
  have had : ((⟨g, 0, none⟩ : Addr).add (ii.toNat * K.n)).add q = ⟨g, ii.toNat * K.n + q, none⟩ := by rw [Addr.add_add', Addr.add_mid, Nat.zero_add]
  rw [had] at hx
  have hrun : (Instr.storeAt t (.pointer (some ⟨g, ii.toNat * K.n + q, none⟩)) (ev e y)).run P s.w = .ok () (s.w.setRow g (cur.toList.take (ii.toNat * K.n + q) ++ vs ++ cur.toList.drop (ii.toNat * K.n + q + vs.length)).toArray) := by
    unfold Instr.storeAt
    rw [Sem.run_bind']
    simp only [Instr.sureAddr, Sem.run_pure, Result.andThen]
    unfold storeVar
    rw [Sem.run_bind', size_run hs]
    simp only [Result.andThen, hy]
    simp [hvl]
    simp [hvl] at hst
    exact hst
  have hndc := List.nodup_cons.1 hnd
  refine vd (w' := s.w.setRow g (cur.toList.take (ii.toNat * K.n + q) ++ vs ++ cur.toList.drop (ii.toNat * K.n + q + vs.length)).toArray) ho hd hw (by simp [execOp, hop, hx, hrun, Result.andThen]) (h ⟨_, fun b => if s.g b = d' then c else s.g b⟩ ⟨rfl, rfl, rfl, by simp, fun b hb hl => ?_, fun b hb hm => ?_⟩ ?_)
  · have : ¬ s.g b = d' := by omega
    simp [this]
  · simp only [memb, Bool.or_eq_false_iff] at hm
    have q1 : s.g b ≠ c := fun h => by rw [h] at hm; simp at hm
    have q2 : ¬ s.g b = d' := fun h => by rw [h] at hm; simp at hm
    refine ⟨by simp [q2], setRow_other s.w g b _ fun e => q1 (by rw [e]; exact hgc)⟩
  · have hoth : ∀ b, b ≠ g → (s.w.setRow g (cur.toList.take (ii.toNat * K.n + q) ++ vs ++ cur.toList.drop (ii.toNat * K.n + q + vs.length)).toArray).heap[b]? = s.w.heap[b]? := fun b hb => setRow_other s.w g b _ hb
    have hgx : g ∉ ox := fun h => hcd' (hgc.symm.trans (hxc g h))
    have hA' := A.ow_frame hxo (w' := s.w.setRow g (cur.toList.take (ii.toNat * K.n + q) ++ vs ++ cur.toList.drop (ii.toNat * K.n + q + vs.length)).toArray) fun b hb _ => hoth b fun h => hgx (h ▸ hb)
    have hnew := hmake _ vs x' ox hA' fun b hb _ => hoth b fun h => hndc.1 (by subst h; exact hb)
    have hpre : cur.toList.take (ii.toNat * K.n + q) = c1 := by
      have := congrArg (List.take (ii.toNat * K.n + q)) htk
      rw [List.take_take, Nat.min_eq_left (by omega), ← hc1, List.take_left' rfl] at this
      rw [← hc1]; exact this
    have hsuf : (cur.toList.take (xs.length * K.n)).drop (ii.toNat * K.n + q + vs.length) = c3 := by
      rw [htk, ← List.append_assoc]
      exact List.drop_left' (by rw [List.length_append, hc1, hu0, hvl])
    refine ⟨[g] ++ (p1 ++ (ox ++ p3)), ⟨_, rfl, _, [g], _, rfl, ⟨?_, .inr ⟨g, cap, _, by rw [List.length_set], setRow_heap s.w g cur _ te _ hg, by simpa using hlc, hcm, ?_, ?_, rfl⟩⟩, hnew⟩, ?_, fun b hb => ?_⟩
    · simp only [List.length_set, List.length_append, hvl]
      omega
    · simp only [List.size_toArray, List.length_append, List.length_take, List.length_drop, Array.length_toList, hvl, hsz]
      omega
    · rw [List.length_set]
      have hla : (cur.toList.take (ii.toNat * K.n + q) ++ vs).length = ii.toNat * K.n + q + A.n := by
        rw [List.length_append, List.length_take, Array.length_toList, hvl, hsz]; omega
      rw [List.take_append, List.take_of_length_le (by omega), hla, hpre, List.append_assoc]
      congr 1
      congr 1
      rw [← hsuf, hvl, List.drop_take]
    · have hdj : ∀ b, b ∈ ox → b ∉ g :: (p1 ++ p3) := fun b hb hb2 => hcd' ((hcol b hb2).1.symm.trans (hxc b hb))
      rw [List.nodup_iff_count]
      intro b
      have c0 : (g :: (p1 ++ p3)).count b ≤ 1 := List.nodup_iff_count.1 hnd b
      have c1' : ox.count b ≤ 1 := List.nodup_iff_count.1 hxn b
      rw [List.count_cons] at c0
      simp only [List.singleton_append, List.count_cons, List.count_append] at c0 ⊢
      by_cases hb : b ∈ ox
      · have z0 : (g :: (p1 ++ p3)).count b = 0 := List.count_eq_zero.2 (hdj b hb)
        rw [List.count_cons] at z0
        simp only [List.count_append] at z0
        omega
      · have : ox.count b = 0 := List.count_eq_zero.2 hb
        omega
    · dsimp only
      simp only [List.singleton_append, List.mem_cons, List.mem_append] at hb
      rcases hb with rfl | hb | hb | hb
      · simp [hgc]
      · simp [(hcol b (by simp [hb])).1]
      · simp [hxc b hb]
      · simp [(hcol b (by simp [hb])).1]
end
theorem RwF.sub {α : Type} {e : TypeId} {K : Kd α} {s : St} {v : Value} {xs : List α} {c : Nat} {C : List Nat} (h : RwF e K s v xs c C) {D : List Nat} (d : V.sub C D = true) : RwF e K s v xs c D := by
  obtain ⟨cells, os, h1, h2, h3⟩ := h
  exact ⟨cells, os, h1, h2, h3.mono fun b hb _ => sub_out d hb⟩
end Go.Proofs.YtcagjdngannneaaGreat.V
