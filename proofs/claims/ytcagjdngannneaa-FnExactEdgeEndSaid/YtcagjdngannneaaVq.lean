
import Derived.Test.YtcagjdngannneaaVp
set_option linter.unusedVariables false
set_option linter.unusedSimpArgs false
namespace Go.Proofs.Ytcagjdngannneaa.V
open Go
section
variable {α β : Type} {A : Kd α} {B : Kd β} {s : St} {c1 c2 : List Value} {x : α} {y : β} {d : Nat}
theorem ow_l (h : ∀ w, A.ow w c1 x []) (h2 : OwF B s c2 y d) : OwF (Kd.pair A B) s (c1 ++ c2) (x, y) d := by
  obtain ⟨os, ho, hn, hc⟩ := h2
  exact ⟨os, ⟨c1, c2, [], os, rfl, rfl, h _, ho⟩, hn, hc⟩
theorem ow_r (h : OwF A s c1 x d) (h2 : ∀ w, B.ow w c2 y []) : OwF (Kd.pair A B) s (c1 ++ c2) (x, y) d := by
  obtain ⟨os, ho, hn, hc⟩ := h
  exact ⟨os, ⟨c1, c2, os, [], rfl, by simp, ho, h2 _⟩, hn, hc⟩
theorem ow_2 {d' : Nat} (h : OwF A s c1 x d) (h2 : OwF B s c2 y d') (hd : Nat.beq d d' = false) (h10 : Nat.ble 40 d' = true) : ∃ s' : St, s.w = s'.w ∧ Stp [d'] s s' ∧ OwF (Kd.pair A B) s' (c1 ++ c2) (x, y) d := by
  have hdd : d ≠ d' := fun h => by subst h; simp at hd
  obtain ⟨os, ho, hn, hc⟩ := h
  obtain ⟨ps, po, pn, pc⟩ := h2
  refine ⟨⟨s.w, fun b => if s.g b = d' then d else s.g b⟩, rfl, ⟨rfl, rfl, rfl, Nat.le_refl _, fun b hb hl => ?_, fun b hb hm => ⟨?_, rfl⟩⟩, os ++ ps, ⟨c1, c2, os, ps, rfl, rfl, ho, po⟩, ?_, fun b hb => ?_⟩
  · have := Nat.le_of_ble_eq_true h10
    have : ¬ s.g b = d' := by omega
    simp [this]
  · have : ¬ s.g b = d' := fun h => by rw [h] at hm; simp [memb] at hm
    simp [this]
  · refine List.nodup_append.2 ⟨hn, pn, fun a ha b hb hab => ?_⟩
    subst hab
    exact hdd ((hc a ha).symm.trans (pc a hb))
  · rcases List.mem_append.1 hb with hb | hb
    · have := hc b hb
      by_cases h : s.g b = d' <;> simp [this]
    · simp [pc b hb]
end
theorem fz_int (k : IntKind) (x : Int) : ∀ w, (Kd.int k).ow w [.int k x] x [] := fun _ => ⟨rfl, rfl⟩
theorem fz_bool (x : Bool) : ∀ w, Kd.bool.ow w [.bool x] x [] := fun _ => ⟨rfl, rfl⟩
theorem fz_flt {v : Value} {x : Nat} (h : FL v x) : ∀ w, Kd.flt.ow w [v] x [] := fun _ => ⟨⟨v, rfl, h⟩, rfl⟩
theorem fz_pair {α β : Type} {A : Kd α} {B : Kd β} {c1 c2 : List Value} {x : α} {y : β} (h : ∀ w, A.ow w c1 x []) (h2 : ∀ w, B.ow w c2 y []) : ∀ w, (Kd.pair A B).ow w (c1 ++ c2) (x, y) [] := fun w => ⟨c1, c2, [], [], rfl, rfl, h w, h2 w⟩
theorem ow_isoz {α γ : Type} {A : Kd α} {s : St} {c1 : List Value} {d : Nat} (g : γ → α) (z : γ) (h : OwF A s c1 (g z) d) : OwF (Kd.iso A g) s c1 z d := h
theorem ow_z {α : Type} {A : Kd α} {c1 : List Value} {x : α} (s : St) (d : Nat) (h : ∀ w, A.ow w c1 x []) : OwF A s c1 x d := ⟨[], h _, List.nodup_nil, fun _ h => nomatch h⟩
def Lens {α β : Type} (K : Kd α) (A : Kd β) (q : Nat) (get : α → β) (set : α → β → α) : Prop :=
  ∀ w es x os, K.ow w es x os → ∃ u o1 o2 o3, es[q]? = some u ∧ os = o1 ++ (o2 ++ o3) ∧ A.ow w [u] (get x) o2 ∧
    ∀ w' y o2', A.ow w' [u] y o2' → Agr w w' (· ∈ o1 ++ o3) → K.ow w' es (set x y) (o1 ++ (o2' ++ o3))
theorem ln_sl {α : Type} {e : TypeId} {K : Kd α} : Lens (Kd.sl e K) (Kd.sl e K) 0 (fun x => x) (fun _ y => y) := fun w es x os h => by
  obtain ⟨v, rfl, h⟩ := h
  exact ⟨v, [], os, [], rfl, by simp, ⟨v, rfl, h⟩, fun w' y o2' hy _ => by simpa using hy⟩
theorem ln_left {α β γ : Type} {K : Kd α} {B : Kd γ} {A : Kd β} {q : Nat} {get : α → β} {set : α → β → α} (h : Lens K A q get set) : Lens (Kd.pair K B) A q (fun p => get p.1) (fun p y => (set p.1 y, p.2)) := fun w es x os hx => by
  obtain ⟨c1, c2, p1, p2, rfl, rfl, h1, h2⟩ := hx
  obtain ⟨u, o1, o2, o3, e1, rfl, e3, e4⟩ := h w c1 x.1 p1 h1
  refine ⟨u, o1, o2, o3 ++ p2, ?_, by simp, e3, fun w' y o2' hy ha => ⟨c1, c2, o1 ++ (o2' ++ o3), p2, rfl, by simp, e4 w' y o2' hy fun b hb => ha b (by simp at hb ⊢; rcases hb with hb | hb <;> simp [hb]), B.ow_frame h2 fun b hb => ha b (by simp [hb])⟩⟩
  rw [List.getElem?_append_left (List.getElem?_eq_some_iff.1 e1).1]; exact e1
theorem ln_right {α β γ : Type} {K : Kd α} {B : Kd γ} {A : Kd β} {q : Nat} {get : α → β} {set : α → β → α} (h : Lens K A q get set) : Lens (Kd.pair B K) A (B.n + q) (fun p => get p.2) (fun p y => (p.1, set p.2 y)) := fun w es x os hx => by
  obtain ⟨c1, c2, p1, p2, rfl, rfl, h1, h2⟩ := hx
  obtain ⟨u, o1, o2, o3, e1, rfl, e3, e4⟩ := h w c2 x.2 p2 h2
  have hl := B.rd_len (B.ow_rd h1)
  refine ⟨u, p1 ++ o1, o2, o3, ?_, by simp, e3, fun w' y o2' hy ha => ⟨c1, c2, p1, o1 ++ (o2' ++ o3), rfl, by simp, B.ow_frame h1 fun b hb => ha b (by simp [hb]), e4 w' y o2' hy fun b hb => ha b (by simp at hb ⊢; rcases hb with hb | hb <;> simp [hb])⟩⟩
  rw [List.getElem?_append_right (by omega), hl, Nat.add_sub_cancel_left]; exact e1
theorem ln_iso {α β γ : Type} {K : Kd α} {A : Kd β} {q : Nat} {get : α → β} {set : α → β → α} (g : γ → α) (get' : γ → β) (set' : γ → β → γ) (h : Lens K A q get set) (hg : ∀ x, get (g x) = get' x) (hs : ∀ x y, set (g x) y = g (set' x y)) : Lens (Kd.iso K g) A q get' set' := fun w es x os hx => by
  obtain ⟨u, o1, o2, o3, e1, e2, e3, e4⟩ := h w es (g x) os hx
  refine ⟨u, o1, o2, o3, e1, e2, by rw [← hg]; exact e3, fun w' y o2' hy ha => ?_⟩
  have := e4 w' y o2' hy ha
  rw [hs] at this
  exact this
theorem focus {α β : Type} [Inhabited α] {K : Kd α} {A : Kd β} {q te : Nat} {get : α → β} {set : α → β → α} {s : St} {v u : Value} {xs : List α} {c : Nat} {ii : Int} {ad : Addr} {es : List Value} {C : List Nat} (L : Lens K A q get set) (hO : OwF (Kd.sl te K) s [v] xs c) (h0 : 0 ≤ ii) (h1 : ii < xs.length) (hA : IxA v K.n ii ad) (hC : CeF s ad es C) (hu : es[q]? = some u) (hqn : Nat.blt q K.n = true) :
    ∃ o2, A.ow s.w [u] (get (at_ xs ii)) o2 ∧ o2.Nodup ∧ (∀ b ∈ o2, s.g b = c) ∧ ∀ (w' : World) (y : β) (col : Nat), Ky o2 s.w w' → FW A o2 s.w w' [u] y →
      ∃ s' : St, s'.w = w' ∧ Stp [c] s s' ∧ OwF (Kd.sl te K) s' [v] (xs.set ii.toNat (set (at_ xs ii) y)) c := by
  obtain ⟨os, ⟨v1, e1, cells, o1, o2, rfl, hR, hE⟩, hnd, hcol⟩ := hO
  obtain rfl : v = v1 := by simpa using e1
  obtain ⟨Aa, l, cap, hv, rfl⟩ := hA
  have hi : ii.toNat < xs.length := by omega
  have hq : q < K.n := by simp [Nat.blt] at hqn; omega
  obtain ⟨hl, hR2⟩ := hR
  rcases hR2 with ⟨h2, _⟩ | ⟨g, cap', cur, h2, hg, hlc, hcm, hsz, htk, rfl⟩
  · rw [h2] at hv; cases hv
  · rw [h2] at hv
    simp only [Value.slice.injEq, Option.some.injEq] at hv
    obtain ⟨rfl, rfl, rfl⟩ := hv
    obtain ⟨p1, p2, p3, rfl, hK, hset⟩ := hE.at_ ii.toNat hi
    rw [at_eq xs ii hi]
    obtain ⟨u', r1, r2, r3, e1, rfl, e3, e4⟩ := L _ _ _ _ hK
    have hmul : (ii.toNat + 1) * K.n ≤ xs.length * K.n := Nat.mul_le_mul_right _ hi
    rw [Nat.add_mul] at hmul
    -- the cell is the one that was loaded
    have huu : u' = u := by
      have hcell := hC.2 q u hu
      rw [Addr.add_add', Addr.add_mid, Nat.zero_add] at hcell
      have hc2 : cells[ii.toNat * K.n + q]? = some u' := by
        rw [List.getElem?_take, if_pos hq, List.getElem?_drop] at e1
        exact e1
      rw [← htk, List.getElem?_take] at hc2
      split at hc2
      · have : s.w.cell? ⟨g, ii.toNat * K.n + q, none⟩ = cur[ii.toNat * K.n + q]? := by simp [World.cell?, hg]
        rw [this, ← Array.getElem?_toList] at hcell
        rw [hcell] at hc2
        exact (Option.some.inj hc2).symm
      · cases hc2
    subst huu
    have hnd' := List.nodup_cons.1 (show (g :: (p1 ++ (r1 ++ (r2 ++ r3)) ++ p3)).Nodup from hnd)
    have hgn := hnd'.1
    have hn2 := hnd'.2
    have hgc := hcol g (by simp)
    refine ⟨r2, e3, ?_, fun b hb => hcol b (by simp [hb]), fun w' y col ky hfw => ?_⟩
    · have h3 := (List.nodup_append.1 hn2).1
      have h4 := (List.nodup_append.1 h3).2.1
      have h5 := (List.nodup_append.1 h4).2.1
      exact (List.nodup_append.1 h5).1
    · obtain ⟨o2', hy, hyn, hyf⟩ := hfw
      have hlt : ∀ b ∈ p1 ++ (r1 ++ (r2 ++ r3)) ++ p3, b < s.w.heap.size := fun b hb => hE.lt b hb
      have hgl : g < s.w.heap.size := (Array.getElem?_eq_some_iff.1 hg).1
      have hperm : (p1 ++ (r1 ++ (r2 ++ r3)) ++ p3).Nodup := hn2
      have hout : ∀ b, b ∈ p1 ++ r1 ++ r3 ++ p3 → b ∉ r2 := fun b hb hb2 => by
        have hc1 : (p1 ++ (r1 ++ (r2 ++ r3)) ++ p3).count b ≤ 1 := List.nodup_iff_count.1 hperm b
        have hc2 : 1 ≤ r2.count b := List.count_pos_iff.2 hb2
        have hc3 : 1 ≤ (p1 ++ r1 ++ r3 ++ p3).count b := List.count_pos_iff.2 hb
        simp only [List.count_append] at hc1 hc3
        omega
      have hsame : ∀ b, b ∈ p1 ++ r1 ++ r3 ++ p3 → w'.heap[b]? = s.w.heap[b]? := fun b hb => ky.same b (hlt b (by simp at hb ⊢; rcases hb with hb | hb | hb | hb <;> simp [hb])) (hout b hb)
      have hK' := e4 w' y o2' hy fun b hb _ => hsame b (by simp at hb ⊢; rcases hb with hb | hb <;> simp [hb])
      have hnew := hset w' _ _ _ hK' fun b hb _ => hsame b (by simp at hb ⊢; rcases hb with hb | hb <;> simp [hb])
      have hcells : cells.take (ii.toNat * K.n) ++ ((cells.drop (ii.toNat * K.n)).take K.n) ++ cells.drop ((ii.toNat + 1) * K.n) = cells := by
        rw [Nat.add_mul, Nat.one_mul, ← List.drop_drop, List.append_assoc, List.take_append_drop, List.take_append_drop]
      rw [hcells] at hnew
      have hgr2 : g ∉ r2 := fun h => hgn (by simp [h])
      refine ⟨⟨w', fun b => open Classical in if b < s.w.heap.size then s.g b else if b ∈ o2' then c else col⟩, rfl, ⟨ky.os, ky.tape, ky.output, ky.size, fun b hb _ => by simp [hb], fun b hb hm => ⟨by simp [hb], ky.same b hb fun h => ?_⟩⟩, [g] ++ (p1 ++ (r1 ++ (o2' ++ r3)) ++ p3), ⟨v, rfl, cells, [g], _, rfl, ⟨by rw [List.length_set]; exact hl, .inr ⟨g, cap', cur, by rw [List.length_set]; exact h2, by rw [ky.same g hgl hgr2]; exact hg, by simpa using hlc, hcm, hsz, by rw [List.length_set]; exact htk, rfl⟩⟩, hnew⟩, ?_, fun b hb => ?_⟩
      · have := hcol b (by simp [h])
        rw [this] at hm; simp [memb] at hm
      · rw [List.nodup_iff_count]
        intro b
        have c0 : (g :: (p1 ++ (r1 ++ (r2 ++ r3)) ++ p3)).count b ≤ 1 := List.nodup_iff_count.1 hnd b
        have c1 : o2'.count b ≤ 1 := List.nodup_iff_count.1 hyn b
        rw [List.count_cons] at c0
        simp only [List.singleton_append, List.count_cons, List.count_append] at c0 ⊢
        by_cases hb : b ∈ o2'
        · rcases hyf b hb with h | h
          · have : 1 ≤ r2.count b := List.count_pos_iff.2 h
            omega
          · have : ∀ l : List Nat, (∀ x ∈ l, x < s.w.heap.size) → l.count b = 0 := fun l hl => List.count_eq_zero.2 fun hm => by have := hl b hm; omega
            have q1 := this p1 fun x hx => hlt x (by simp [hx])
            have q2 := this r1 fun x hx => hlt x (by simp [hx])
            have q3 := this r3 fun x hx => hlt x (by simp [hx])
            have q4 := this p3 fun x hx => hlt x (by simp [hx])
            have q5 : (g == b) = false := by simp; omega
            rw [q1, q2, q3, q4, q5]
            simp; omega
        · have : o2'.count b = 0 := List.count_eq_zero.2 hb
          omega
      · dsimp only
        simp only [List.singleton_append, List.mem_cons, List.mem_append] at hb
        by_cases hl2 : b < s.w.heap.size
        · rw [if_pos hl2]
          rcases hb with rfl | (hb | hb | hb | hb) | hb
          · exact hgc
          · exact hcol b (by simp [hb])
          · exact hcol b (by simp [hb])
          · rcases hyf b hb with h | h
            · exact hcol b (by simp [h])
            · omega
          · exact hcol b (by simp [hb])
          · exact hcol b (by simp [hb])
        · rw [if_neg hl2]
          rcases hb with rfl | (hb | hb | hb | hb) | hb
          · exact absurd hgl hl2
          · exact absurd (hlt b (by simp [hb])) hl2
          · exact absurd (hlt b (by simp [hb])) hl2
          · rw [if_pos hb]
          · exact absurd (hlt b (by simp [hb])) hl2
          · exact absurd (hlt b (by simp [hb])) hl2
section
variable {P : Program} {f : FuncId} {N : Nat} {O ρ : Type} {m : Option O} {G : O → Option ρ} {R : ρ → Ending → World → Prop} {e : Env} {s : St} {k : List Item} {ops : Array Oper} {i d : Nat} {rest : List Nat} {o : Oper}
theorem nb {α : Type} {v : α} {km : α → Option O} {todo : List Item} {w : World} (h : ∀ y, y = v → TM P f N (km y) G R todo e w) : TM P f N ((some v).bind km) G R todo e w := h v rfl
theorem som {α : Type} [Inhabited α] {K : Kd α} {t te : TypeId} {x y : Operand} {v : Value} {vs : List Value} {xs : List α} {c d' : Nat} {ii : Int} {ad : Addr} {x' : α} (hO : OwF (Kd.sl te K) s [v] xs c) (hA : IxA v K.n ii ad) (h0 : 0 ≤ ii) (h1 : ii < xs.length) (hX : OwF K s vs x' d') (hcd : Nat.beq c d' = false) (h10 : Nat.ble 40 d' = true) (hs : (P.info? t).map (·.size) = some K.n)
    (ho : ops[i]? = some o) (hd : o.dst = none) (hw : Region.wanted o (yv e ops) = true) (hop : o.op = .store t x y) (hx : ev e x = .pointer (some ad)) (hy : (ev e y).cells = vs.toArray)
    (h : ∀ s', Stp [c, d'] s s' → OwF (Kd.sl te K) s' [v] (xs.set ii.toNat x') c → TM P f N m G R (.inRegion ops rest :: k) e s'.w) : TM P f N m G R (.inRegion ops (i :: rest) :: k) e s.w := by
  have hcd' : c ≠ d' := fun h => by subst h; simp at hcd
  obtain ⟨os, ⟨v1, e1, cells, o1, o2, rfl, hR, hE⟩, hnd, hcol⟩ := hO
  obtain rfl : v = v1 := by simpa using e1
  obtain ⟨ox, hxo, hxn, hxc⟩ := hX
  have hvl : vs.length = K.n := K.rd_len (K.ow_rd hxo)
  have hv1 : ∀ u ∈ vs, u.oneCell' = true := K.rd_one (K.ow_rd hxo)
  obtain ⟨Aa, l, cap, hv, rfl⟩ := hA
  have hi : ii.toNat < xs.length := by omega
  obtain ⟨hl, hR2⟩ := hR
  rcases hR2 with ⟨h2, _⟩ | ⟨g, cap', cur, h2, hg, hlc, hcm, hsz, htk, rfl⟩
  · rw [h2] at hv; cases hv
  · rw [h2] at hv
    simp only [Value.slice.injEq, Option.some.injEq] at hv
    obtain ⟨rfl, rfl, rfl⟩ := hv
    obtain ⟨p1, p2, p3, rfl, hK, hset⟩ := hE.at_ ii.toNat hi
    have hmul : (ii.toNat + 1) * K.n ≤ xs.length * K.n := Nat.mul_le_mul_right _ hi
    have hmul' := hmul
    rw [Nat.add_mul, Nat.one_mul] at hmul'
    have hcapm : xs.length * K.n ≤ cap' * K.n := Nat.mul_le_mul_right _ hlc
    have hgl : g < s.w.heap.size := (Array.getElem?_eq_some_iff.1 hg).1
    have hgc := hcol g (by simp)
    have hst := run_storeCells_at P g (ii.toNat * K.n) te vs 0 cur s.w hg (by rw [hvl, hsz]; omega) hv1
    simp only [Nat.add_zero] at hst
    have had : (⟨g, 0, none⟩ : Addr).add (ii.toNat * K.n) = ⟨g, ii.toNat * K.n, none⟩ := by rw [Addr.add_mid, Nat.zero_add]
    rw [had] at hx
    have hrun : (Instr.storeAt t (.pointer (some ⟨g, ii.toNat * K.n, none⟩)) (ev e y)).run P s.w = .ok () (s.w.setRow g (cur.toList.take (ii.toNat * K.n) ++ vs ++ cur.toList.drop (ii.toNat * K.n + vs.length)).toArray) := by
      unfold Instr.storeAt
      rw [Sem.run_bind']
      simp only [Instr.sureAddr, Sem.run_pure, Result.andThen]
      unfold storeVar
      rw [Sem.run_bind', size_run hs]
      simp only [Result.andThen, hy]
      simp [hvl]
      simp [hvl] at hst
      exact hst
    have hd10 := Nat.le_of_ble_eq_true h10
    refine vd (w' := s.w.setRow g (cur.toList.take (ii.toNat * K.n) ++ vs ++ cur.toList.drop (ii.toNat * K.n + vs.length)).toArray) ho hd hw (by simp [execOp, hop, hx, hrun, Result.andThen]) (h ⟨_, fun b => if s.g b = d' then c else s.g b⟩ ⟨rfl, rfl, rfl, by simp, fun b hb hl => ?_, fun b hb hm => ?_⟩ ?_)
    · have : ¬ s.g b = d' := by omega
      simp [this]
    · simp only [memb, Bool.or_eq_false_iff] at hm
      have q1 : s.g b ≠ c := fun h => by rw [h] at hm; simp at hm
      have q2 : ¬ s.g b = d' := fun h => by rw [h] at hm; simp at hm
      refine ⟨by simp [q2], setRow_other s.w g b _ fun e => q1 (by rw [e]; exact hgc)⟩
    · have hnd' := List.nodup_cons.1 (show (g :: (p1 ++ p2 ++ p3)).Nodup from hnd)
      have hoth : ∀ b, b ≠ g → (s.w.setRow g (cur.toList.take (ii.toNat * K.n) ++ vs ++ cur.toList.drop (ii.toNat * K.n + vs.length)).toArray).heap[b]? = s.w.heap[b]? := fun b hb => setRow_other s.w g b _ hb
      have hgx : g ∉ ox := fun h => hcd' (hgc.symm.trans (hxc g h))
      have hK' := K.ow_frame hxo (w' := s.w.setRow g (cur.toList.take (ii.toNat * K.n) ++ vs ++ cur.toList.drop (ii.toNat * K.n + vs.length)).toArray) fun b hb _ => hoth b fun h => hgx (h ▸ hb)
      have hnew := hset _ vs x' ox hK' fun b hb _ => hoth b fun h => hnd'.1 (by subst h; simp at hb ⊢; rcases hb with hb | hb <;> simp [hb])
      refine ⟨[g] ++ (p1 ++ ox ++ p3), ⟨v, rfl, _, [g], _, rfl, ⟨?_, .inr ⟨g, cap', _, by rw [List.length_set]; exact h2, setRow_heap s.w g cur _ te _ hg, by simpa using hlc, hcm, ?_, ?_, rfl⟩⟩, hnew⟩, ?_, fun b hb => ?_⟩
      · simp only [List.length_set, List.length_append, List.length_take, List.length_drop, hvl, hl]
        rw [Nat.add_mul, Nat.one_mul]; omega
      · simp only [List.size_toArray, List.length_append, List.length_take, List.length_drop, Array.length_toList, hvl, hsz]
        omega
      · rw [List.length_set, ← htk, hvl, Nat.add_mul, Nat.one_mul]
        have e2 : (cur.toList.take (xs.length * K.n)).take (ii.toNat * K.n) = cur.toList.take (ii.toNat * K.n) := by rw [List.take_take]; congr 1; omega
        have e3 : (cur.toList.take (xs.length * K.n)).drop (ii.toNat * K.n + K.n) = (cur.toList.drop (ii.toNat * K.n + K.n)).take (xs.length * K.n - (ii.toNat * K.n + K.n)) := by rw [List.drop_take]
        rw [e2, e3]
        have hla : (cur.toList.take (ii.toNat * K.n) ++ vs).length = ii.toNat * K.n + K.n := by
          rw [List.length_append, List.length_take, Array.length_toList, hvl, hsz]; omega
        rw [List.take_append, List.take_of_length_le (by omega), hla]
      · have hdj : ∀ b, b ∈ ox → b ∉ g :: (p1 ++ p2 ++ p3) := fun b hb hb2 => hcd' ((hcol b hb2).symm.trans (hxc b hb))
        rw [List.nodup_iff_count]
        intro b
        have c0 : (g :: (p1 ++ p2 ++ p3)).count b ≤ 1 := List.nodup_iff_count.1 hnd b
        have c1 : ox.count b ≤ 1 := List.nodup_iff_count.1 hxn b
        rw [List.count_cons] at c0
        simp only [List.singleton_append, List.count_cons, List.count_append] at c0 ⊢
        by_cases hb : b ∈ ox
        · have z0 : (g :: (p1 ++ p2 ++ p3)).count b = 0 := List.count_eq_zero.2 (hdj b hb)
          rw [List.count_cons] at z0
          simp only [List.count_append] at z0
          omega
        · have : ox.count b = 0 := List.count_eq_zero.2 hb
          omega
      · dsimp only
        simp only [List.singleton_append, List.mem_cons, List.mem_append] at hb
        rcases hb with rfl | (hb | hb) | hb
        · simp [hgc]
        · simp [hcol b (by simp [hb])]
        · simp [hxc b hb]
        · simp [hcol b (by simp [hb])]
end
end Go.Proofs.Ytcagjdngannneaa.V
