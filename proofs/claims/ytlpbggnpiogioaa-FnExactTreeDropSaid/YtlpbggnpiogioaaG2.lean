import Derived.Test.YtlpbggnpiogioaaG1
import Derived.Laws.FloatArith
import Derived.MapKept
import Derived.Carry
import Derived.RangeFuncRecord
import Derived.Lib.ConvBytes
set_option linter.unusedVariables false
set_option linter.unusedSimpArgs false
namespace Go.Proofs.Ytlpbggnpiogioaa.V
open Go
section
variable {α β : Type} {A : Kd α} {B : Kd β} {s : St} {c1 c2 : List Value} {x : α} {y : β} {d : Nat}
theorem ow_l (h : ∀ w, A.ow w c1 x []) (h2 : OwF B s c2 y d) : OwF (Kd.pair A B) s (c1 ++ c2) (x, y) d := by
 obtain ⟨os, ho, hn, hc⟩ := h2
 exact ⟨os, ⟨c1, c2, [], os, rfl, rfl, h _, ho⟩, hn, hc⟩
theorem ow_r (h : OwF A s c1 x d) (h2 : ∀ w, B.ow w c2 y []) : OwF (Kd.pair A B) s (c1 ++ c2) (x, y) d := by
 obtain ⟨os, ho, hn, hc⟩ := h
 exact ⟨os, ⟨c1, c2, os, [], rfl, by simp, ho, h2 _⟩, hn, hc⟩
theorem ow_2 {d' : Nat} (h : OwF A s c1 x d) (h2 : OwF B s c2 y d') (hd : Nat.beq d d' = false) (h10 : Nat.ble 40 d' = true) : ∃ s' : St, s.w = s'.w ∧ Stp [d'] s s' ∧ OwF (Kd.pair A B) s' (c1 ++ c2) (x, y) d := by
 have hdd : d ≠ d' := fun h => by subst h; simp at hd
 obtain ⟨os, ho, hn, hc⟩ := h
 obtain ⟨ps, po, pn, pc⟩ := h2
 refine ⟨⟨s.w, fun b => if s.g b = d' then d else s.g b⟩, rfl, ⟨rfl, rfl, rfl, Nat.le_refl _, fun b hb hl => ?_, fun b hb hm => ⟨?_, rfl⟩⟩, os ++ ps, ⟨c1, c2, os, ps, rfl, rfl, ho, po⟩, ?_, fun b hb => ?_⟩
 · have := Nat.le_of_ble_eq_true h10
   have : ¬ s.g b = d' := by omega
   simp [this]
 · have : ¬ s.g b = d' := fun h => by rw [h] at hm; simp [memb] at hm
   simp [this]
 · refine List.nodup_append.2 ⟨hn, pn, fun a ha b hb hab => ?_⟩
   subst hab
   exact hdd ((hc a ha).symm.trans (pc a hb))
 · rcases List.mem_append.1 hb with hb | hb
   · have := hc b hb
     by_cases h : s.g b = d' <;> simp [this]
   · simp [pc b hb]
end
theorem fz_int (k : IntKind) (x : Int) : ∀ w, (Kd.int k).ow w [.int k x] x [] := fun _ => ⟨rfl, rfl⟩
theorem fz_bool (x : Bool) : ∀ w, Kd.bool.ow w [.bool x] x [] := fun _ => ⟨rfl, rfl⟩
theorem fz_flt {v : Value} {x : Nat} (h : FL v x) : ∀ w, Kd.flt.ow w [v] x [] := fun _ => ⟨⟨v, rfl, h⟩, rfl⟩
theorem fz_nil {α : Type} (e : TypeId) (K : Kd α) : ∀ w, (Kd.sl e K).ow w [.slice none 0 0] [] [] := fun _ => ⟨_, rfl, [], [], [], rfl, ⟨by simp, .inl ⟨rfl, rfl, rfl⟩⟩, ⟨rfl, rfl⟩⟩
theorem fz_pair {α β : Type} {A : Kd α} {B : Kd β} {c1 c2 : List Value} {x : α} {y : β} (h : ∀ w, A.ow w c1 x []) (h2 : ∀ w, B.ow w c2 y []) : ∀ w, (Kd.pair A B).ow w (c1 ++ c2) (x, y) [] := fun w => ⟨c1, c2, [], [], rfl, rfl, h w, h2 w⟩
theorem fz_iso {α γ : Type} {A : Kd α} {c1 : List Value} (g : γ → α) (z : γ) (h : ∀ w, A.ow w c1 (g z) []) : ∀ w, (Kd.iso A g).ow w c1 z [] := h
theorem ow_isoz {α γ : Type} {A : Kd α} {s : St} {c1 : List Value} {d : Nat} (g : γ → α) (z : γ) (h : OwF A s c1 (g z) d) : OwF (Kd.iso A g) s c1 z d := h
theorem ow_z {α : Type} {A : Kd α} {c1 : List Value} {x : α} (s : St) (d : Nat) (h : ∀ w, A.ow w c1 x []) : OwF A s c1 x d := ⟨[], h _, List.nodup_nil, fun _ h => nomatch h⟩
def Lens {α β : Type} (K : Kd α) (A : Kd β) (q : Nat) (get : α → β) (set : α → β → α) : Prop :=
 ∀ w es x os, K.ow w es x os → ∃ u o1 o2 o3, es[q]? = some u ∧ os = o1 ++ (o2 ++ o3) ∧ A.ow w [u] (get x) o2 ∧
  ∀ w' y o2', A.ow w' [u] y o2' → Agr w w' (· ∈ o1 ++ o3) → K.ow w' es (set x y) (o1 ++ (o2' ++ o3))
theorem ln_sl {α : Type} {e : TypeId} {K : Kd α} : Lens (Kd.sl e K) (Kd.sl e K) 0 (fun x => x) (fun _ y => y) := fun w es x os h => by
 obtain ⟨v, rfl, h⟩ := h
 exact ⟨v, [], os, [], rfl, by simp, ⟨v, rfl, h⟩, fun w' y o2' hy _ => by simpa using hy⟩
theorem ln_left {α β γ : Type} {K : Kd α} {B : Kd γ} {A : Kd β} {q : Nat} {get : α → β} {set : α → β → α} (h : Lens K A q get set) : Lens (Kd.pair K B) A q (fun p => get p.1) (fun p y => (set p.1 y, p.2)) := fun w es x os hx => by
 obtain ⟨c1, c2, p1, p2, rfl, rfl, h1, h2⟩ := hx
 obtain ⟨u, o1, o2, o3, e1, rfl, e3, e4⟩ := h w c1 x.1 p1 h1
 refine ⟨u, o1, o2, o3 ++ p2, ?_, by simp, e3, fun w' y o2' hy ha => ⟨c1, c2, o1 ++ (o2' ++ o3), p2, rfl, by simp, e4 w' y o2' hy fun b hb => ha b (by simp at hb ⊢; rcases hb with hb | hb <;> simp [hb]), B.ow_frame h2 fun b hb => ha b (by simp [hb])⟩⟩
 rw [List.getElem?_append_left (List.getElem?_eq_some_iff.1 e1).1]; exact e1
theorem ln_right {α β γ : Type} {K : Kd α} {B : Kd γ} {A : Kd β} {q : Nat} {get : α → β} {set : α → β → α} (h : Lens K A q get set) : Lens (Kd.pair B K) A (B.n + q) (fun p => get p.2) (fun p y => (p.1, set p.2 y)) := fun w es x os hx => by
 obtain ⟨c1, c2, p1, p2, rfl, rfl, h1, h2⟩ := hx
 obtain ⟨u, o1, o2, o3, e1, rfl, e3, e4⟩ := h w c2 x.2 p2 h2
 have hl := B.rd_len (B.ow_rd h1)
 refine ⟨u, p1 ++ o1, o2, o3, ?_, by simp, e3, fun w' y o2' hy ha => ⟨c1, c2, p1, o1 ++ (o2' ++ o3), rfl, by simp, B.ow_frame h1 fun b hb => ha b (by simp [hb]), e4 w' y o2' hy fun b hb => ha b (by simp at hb ⊢; rcases hb with hb | hb <;> simp [hb])⟩⟩
 rw [List.getElem?_append_right (by omega), hl, Nat.add_sub_cancel_left]; exact e1
theorem ln_iso {α β γ : Type} {K : Kd α} {A : Kd β} {q : Nat} {get : α → β} {set : α → β → α} (g : γ → α) (get' : γ → β) (set' : γ → β → γ) (h : Lens K A q get set) (hg : ∀ x, get (g x) = get' x) (hs : ∀ x y, set (g x) y = g (set' x y)) : Lens (Kd.iso K g) A q get' set' := fun w es x os hx => by
 obtain ⟨u, o1, o2, o3, e1, e2, e3, e4⟩ := h w es (g x) os hx
 refine ⟨u, o1, o2, o3, e1, e2, by rw [← hg]; exact e3, fun w' y o2' hy ha => ?_⟩
 have := e4 w' y o2' hy ha
 rw [hs] at this
 exact this
theorem focus {α β : Type} [Inhabited α] {K : Kd α} {A : Kd β} {q te : Nat} {get : α → β} {set : α → β → α} {s : St} {v u : Value} {xs : List α} {c : Nat} {ii : Int} {ad : Addr} {es : List Value} {C : List Nat} (L : Lens K A q get set) (hO : OwF (Kd.sl te K) s [v] xs c) (h0 : 0 ≤ ii) (h1 : ii < xs.length) (hA : IxA v K.n ii ad) (hC : CeF s ad es C) (hu : es[q]? = some u) (hqn : Nat.blt q K.n = true) :
    ∃ o2, A.ow s.w [u] (get (at_ xs ii)) o2 ∧ o2.Nodup ∧ (∀ b ∈ o2, s.g b = c) ∧ ∀ (w' : World) (y : β) (col : Nat), Ky o2 s.w w' → FW A o2 s.w w' [u] y →
      ∃ s' : St, s'.w = w' ∧ Stp [c] s s' ∧ OwF (Kd.sl te K) s' [v] (xs.set ii.toNat (set (at_ xs ii) y)) c := by
  obtain ⟨os, ⟨v1, e1, cells, o1, o2, rfl, hR, hE⟩, hnd, hcol⟩ := hO
  obtain rfl : v = v1 := by simpa using e1
  obtain ⟨Aa, l, cap, hv, rfl⟩ := hA
  have hi : ii.toNat < xs.length := by omega
  have hq : q < K.n := by simp [Nat.blt] at hqn; omega
  obtain ⟨hl, hR2⟩ := hR
  rcases hR2 with ⟨h2, _⟩ | ⟨g, cap', cur, h2, hg, hlc, hcm, hsz, htk, rfl⟩
  · rw [h2] at hv; cases hv
  · rw [h2] at hv
    simp only [Value.slice.injEq, Option.some.injEq] at hv
    obtain ⟨rfl, rfl, rfl⟩ := hv
    obtain ⟨p1, p2, p3, rfl, hK, hset⟩ := hE.at_ ii.toNat hi
    rw [at_eq xs ii hi]
    obtain ⟨u', r1, r2, r3, e1, rfl, e3, e4⟩ := L _ _ _ _ hK
    have hmul : (ii.toNat + 1) * K.n ≤ xs.length * K.n := Nat.mul_le_mul_right _ hi
    rw [Nat.add_mul] at hmul
    -- the cell is the one that was loaded
    have huu : u' = u := by
      have hcell := hC.2 q u hu
      rw [Addr.add_add', Addr.add_mid, Nat.zero_add] at hcell
      have hc2 : cells[ii.toNat * K.n + q]? = some u' := by
        rw [List.getElem?_take, if_pos hq, List.getElem?_drop] at e1
        exact e1
      rw [← htk, List.getElem?_take] at hc2
      split at hc2
      · have : s.w.cell? ⟨g, ii.toNat * K.n + q, none⟩ = cur[ii.toNat * K.n + q]? := hg.cell _
        rw [this, ← Array.getElem?_toList] at hcell
        rw [hcell] at hc2
        exact (Option.some.inj hc2).symm
      · cases hc2
    subst huu
    have hnd' := List.nodup_cons.1 (show (g :: (p1 ++ (r1 ++ (r2 ++ r3)) ++ p3)).Nodup from hnd)
    have hgn := hnd'.1
    have hn2 := hnd'.2
    have hgc := hcol g (by simp)
    refine ⟨r2, e3, ?_, fun b hb => hcol b (by simp [hb]), fun w' y col ky hfw => ?_⟩
    · have h3 := (List.nodup_append.1 hn2).1
      have h4 := (List.nodup_append.1 h3).2.1
      have h5 := (List.nodup_append.1 h4).2.1
      exact (List.nodup_append.1 h5).1
    · obtain ⟨o2', hy, hyn, hyf⟩ := hfw
      have hlt : ∀ b ∈ p1 ++ (r1 ++ (r2 ++ r3)) ++ p3, b < s.w.heap.size := fun b hb => hE.lt b hb
      have hgl : g < s.w.heap.size := hg.lt
      have hperm : (p1 ++ (r1 ++ (r2 ++ r3)) ++ p3).Nodup := hn2
      have hout : ∀ b, b ∈ p1 ++ r1 ++ r3 ++ p3 → b ∉ r2 := fun b hb hb2 => by
        have hc1 : (p1 ++ (r1 ++ (r2 ++ r3)) ++ p3).count b ≤ 1 := List.nodup_iff_count.1 hperm b
        have hc2 : 1 ≤ r2.count b := List.count_pos_iff.2 hb2
        have hc3 : 1 ≤ (p1 ++ r1 ++ r3 ++ p3).count b := List.count_pos_iff.2 hb
        simp only [List.count_append] at hc1 hc3
        omega
      have hsame : ∀ b, b ∈ p1 ++ r1 ++ r3 ++ p3 → w'.heap[b]? = s.w.heap[b]? := fun b hb => ky.same b (hlt b (by simp at hb ⊢; rcases hb with hb | hb | hb | hb <;> simp [hb])) (hout b hb)
      have hK' := e4 w' y o2' hy fun b hb _ => hsame b (by simp at hb ⊢; rcases hb with hb | hb <;> simp [hb])
      have hnew := hset w' _ _ _ hK' fun b hb _ => hsame b (by simp at hb ⊢; rcases hb with hb | hb <;> simp [hb])
      have hcells : cells.take (ii.toNat * K.n) ++ ((cells.drop (ii.toNat * K.n)).take K.n) ++ cells.drop ((ii.toNat + 1) * K.n) = cells := by
        rw [Nat.add_mul, Nat.one_mul, ← List.drop_drop, List.append_assoc, List.take_append_drop, List.take_append_drop]
      rw [hcells] at hnew
      have hgr2 : g ∉ r2 := fun h => hgn (by simp [h])
      refine ⟨⟨w', fun b => open Classical in if b < s.w.heap.size then s.g b else if b ∈ o2' then c else col⟩, rfl, ⟨ky.os, ky.tape, ky.output, ky.size, fun b hb _ => by simp [hb], fun b hb hm => ⟨by simp [hb], ky.same b hb fun h => ?_⟩⟩, [g] ++ (p1 ++ (r1 ++ (o2' ++ r3)) ++ p3), ⟨v, rfl, cells, [g], _, rfl, ⟨by rw [List.length_set]; exact hl, .inr ⟨g, cap', cur, by rw [List.length_set]; exact h2, hg.eq (ky.same g hgl hgr2), by simpa using hlc, hcm, hsz, by rw [List.length_set]; exact htk, rfl⟩⟩, hnew⟩, ?_, fun b hb => ?_⟩
      · have := hcol b (by simp [h])
        rw [this] at hm; simp [memb] at hm
      · rw [List.nodup_iff_count]
        intro b
        have c0 : (g :: (p1 ++ (r1 ++ (r2 ++ r3)) ++ p3)).count b ≤ 1 := List.nodup_iff_count.1 hnd b
        have c1 : o2'.count b ≤ 1 := List.nodup_iff_count.1 hyn b
        rw [List.count_cons] at c0
        simp only [List.singleton_append, List.count_cons, List.count_append] at c0 ⊢
        by_cases hb : b ∈ o2'
        · rcases hyf b hb with h | h
          · have : 1 ≤ r2.count b := List.count_pos_iff.2 h
            omega
          · have : ∀ l : List Nat, (∀ x ∈ l, x < s.w.heap.size) → l.count b = 0 := fun l hl => List.count_eq_zero.2 fun hm => by have := hl b hm; omega
            have q1 := this p1 fun x hx => hlt x (by simp [hx])
            have q2 := this r1 fun x hx => hlt x (by simp [hx])
            have q3 := this r3 fun x hx => hlt x (by simp [hx])
            have q4 := this p3 fun x hx => hlt x (by simp [hx])
            have q5 : (g == b) = false := by simp; omega
            rw [q1, q2, q3, q4, q5]
            simp; omega
        · have : o2'.count b = 0 := List.count_eq_zero.2 hb
          omega
      · dsimp only
        simp only [List.singleton_append, List.mem_cons, List.mem_append] at hb
        by_cases hl2 : b < s.w.heap.size
        · rw [if_pos hl2]
          rcases hb with rfl | (hb | hb | hb | hb) | hb
          · exact hgc
          · exact hcol b (by simp [hb])
          · exact hcol b (by simp [hb])
          · rcases hyf b hb with h | h
            · exact hcol b (by simp [h])
            · omega
          · exact hcol b (by simp [hb])
          · exact hcol b (by simp [hb])
        · rw [if_neg hl2]
          rcases hb with rfl | (hb | hb | hb | hb) | hb
          · exact absurd hgl hl2
          · exact absurd (hlt b (by simp [hb])) hl2
          · exact absurd (hlt b (by simp [hb])) hl2
          · rw [if_pos hb]
          · exact absurd (hlt b (by simp [hb])) hl2
          · exact absurd (hlt b (by simp [hb])) hl2
section
variable {P : Program} {f : Who} {N : Nat} {O ρ : Type} {m : Option O} {G : O → Option ρ} {R : ρ → Ending → World → Prop} {e : Env} {s : St} {k : List Item} {ops : Array Oper} {i d : Nat} {rest : List Nat} {o : Oper}
theorem nb {α : Type} {v : α} {km : α → Option O} {todo : List Item} {w : World} (h : ∀ y, y = v → TM P f N (km y) G R todo e w) : TM P f N ((some v).bind km) G R todo e w := h v rfl
theorem som {α : Type} [Inhabited α] {K : Kd α} {t te : TypeId} {x y : Operand} {v : Value} {vs : List Value} {xs : List α} {c d' : Nat} {ii : Int} {ad : Addr} {x' : α} (hO : OwF (Kd.sl te K) s [v] xs c) (hA : IxA v K.n ii ad) (h0 : 0 ≤ ii) (h1 : ii < xs.length) (hX : OwF K s vs x' d') (hcd : Nat.beq c d' = false) (h10 : Nat.ble 40 d' = true) (hs : (P.info? t).map (·.size) = some K.n)
    (ho : ops[i]? = some o) (hd : o.dst = none) (hw : Region.wanted o (yv e ops) = true) (hop : o.op = .store t x y) (hx : ev e x = .pointer (some ad)) (hy : (ev e y).cells = vs.toArray)
    (h : ∀ s', Stp [c, d'] s s' → OwF (Kd.sl te K) s' [v] (xs.set ii.toNat x') c → TM P f N m G R (.inRegion ops rest :: k) e s'.w) : TM P f N m G R (.inRegion ops (i :: rest) :: k) e s.w := by
  have hcd' : c ≠ d' := fun h => by subst h; simp at hcd
  obtain ⟨os, ⟨v1, e1, cells, o1, o2, rfl, hR, hE⟩, hnd, hcol⟩ := hO
  obtain rfl : v = v1 := by simpa using e1
  obtain ⟨ox, hxo, hxn, hxc⟩ := hX
  have hvl : vs.length = K.n := K.rd_len (K.ow_rd hxo)
  have hv1 : ∀ u ∈ vs, u.oneCell' = true := K.rd_one (K.ow_rd hxo)
  obtain ⟨Aa, l, cap, hv, rfl⟩ := hA
  have hi : ii.toNat < xs.length := by omega
  obtain ⟨hl, hR2⟩ := hR
  rcases hR2 with ⟨h2, _⟩ | ⟨g, cap', cur, h2, hg, hlc, hcm, hsz, htk, rfl⟩
  · rw [h2] at hv; cases hv
  · rw [h2] at hv
    simp only [Value.slice.injEq, Option.some.injEq] at hv
    obtain ⟨rfl, rfl, rfl⟩ := hv
    obtain ⟨p1, p2, p3, rfl, hK, hset⟩ := hE.at_ ii.toNat hi
    have hmul : (ii.toNat + 1) * K.n ≤ xs.length * K.n := Nat.mul_le_mul_right _ hi
    have hmul' := hmul
    rw [Nat.add_mul, Nat.one_mul] at hmul'
    have hcapm : xs.length * K.n ≤ cap' * K.n := Nat.mul_le_mul_right _ hlc
    have hgl : g < s.w.heap.size := hg.lt
    have hgc := hcol g (by simp)
    have hst := storeCells_hr P g (ii.toNat * K.n) te vs 0 cur s.w hg (by rw [hvl, hsz]; omega) hv1
    simp only [Nat.add_zero] at hst
    have had : (⟨g, 0, none⟩ : Addr).add (ii.toNat * K.n) = ⟨g, ii.toNat * K.n, none⟩ := by rw [Addr.add_mid, Nat.zero_add]
    rw [had] at hx
    have hrun : (Instr.storeAt t (.pointer (some ⟨g, ii.toNat * K.n, none⟩)) (ev e y)).run P s.w = .ok () (s.w.setRow g (cur.toList.take (ii.toNat * K.n) ++ vs ++ cur.toList.drop (ii.toNat * K.n + vs.length)).toArray) := by
      unfold Instr.storeAt
      rw [Sem.run_bind']
      simp only [Instr.sureAddr, Sem.run_pure, Result.andThen]
      unfold storeVar
      rw [Sem.run_bind', size_run hs]
      simp only [Result.andThen, hy]
      simp [hvl]
      simp [hvl] at hst
      exact hst
    have hd10 := Nat.le_of_ble_eq_true h10
    refine vd (w' := s.w.setRow g (cur.toList.take (ii.toNat * K.n) ++ vs ++ cur.toList.drop (ii.toNat * K.n + vs.length)).toArray) ho hd hw (by simp [execOp, hop, hx, hrun, Result.andThen]) (h ⟨_, fun b => if s.g b = d' then c else s.g b⟩ ⟨rfl, rfl, rfl, by simp, fun b hb hl => ?_, fun b hb hm => ?_⟩ ?_)
    · have : ¬ s.g b = d' := by omega
      simp [this]
    · simp only [memb, Bool.or_eq_false_iff] at hm
      have q1 : s.g b ≠ c := fun h => by rw [h] at hm; simp at hm
      have q2 : ¬ s.g b = d' := fun h => by rw [h] at hm; simp at hm
      refine ⟨by simp [q2], setRow_other s.w g b _ fun e => q1 (by rw [e]; exact hgc)⟩
    · have hnd' := List.nodup_cons.1 (show (g :: (p1 ++ p2 ++ p3)).Nodup from hnd)
      have hoth : ∀ b, b ≠ g → (s.w.setRow g (cur.toList.take (ii.toNat * K.n) ++ vs ++ cur.toList.drop (ii.toNat * K.n + vs.length)).toArray).heap[b]? = s.w.heap[b]? := fun b hb => setRow_other s.w g b _ hb
      have hgx : g ∉ ox := fun h => hcd' (hgc.symm.trans (hxc g h))
      have hK' := K.ow_frame hxo (w' := s.w.setRow g (cur.toList.take (ii.toNat * K.n) ++ vs ++ cur.toList.drop (ii.toNat * K.n + vs.length)).toArray) fun b hb _ => hoth b fun h => hgx (h ▸ hb)
      have hnew := hset _ vs x' ox hK' fun b hb _ => hoth b fun h => hnd'.1 (by subst h; simp at hb ⊢; rcases hb with hb | hb <;> simp [hb])
      refine ⟨[g] ++ (p1 ++ ox ++ p3), ⟨v, rfl, _, [g], _, rfl, ⟨?_, .inr ⟨g, cap', _, by rw [List.length_set]; exact h2, hg.row3 _ _ (by rw [hvl, hsz]; omega), by simpa using hlc, hcm, ?_, ?_, rfl⟩⟩, hnew⟩, ?_, fun b hb => ?_⟩
      · simp only [List.length_set, List.length_append, List.length_take, List.length_drop, hvl, hl]
        rw [Nat.add_mul, Nat.one_mul]; omega
      · simp only [List.size_toArray, List.length_append, List.length_take, List.length_drop, Array.length_toList, hvl, hsz]
        omega
      · rw [List.length_set, ← htk, hvl, Nat.add_mul, Nat.one_mul]
        have e2 : (cur.toList.take (xs.length * K.n)).take (ii.toNat * K.n) = cur.toList.take (ii.toNat * K.n) := by rw [List.take_take]; congr 1; omega
        have e3 : (cur.toList.take (xs.length * K.n)).drop (ii.toNat * K.n + K.n) = (cur.toList.drop (ii.toNat * K.n + K.n)).take (xs.length * K.n - (ii.toNat * K.n + K.n)) := by rw [List.drop_take]
        rw [e2, e3]
        have hla : (cur.toList.take (ii.toNat * K.n) ++ vs).length = ii.toNat * K.n + K.n := by
          rw [List.length_append, List.length_take, Array.length_toList, hvl, hsz]; omega
        rw [List.take_append, List.take_of_length_le (by omega), hla]
      · have hdj : ∀ b, b ∈ ox → b ∉ g :: (p1 ++ p2 ++ p3) := fun b hb hb2 => hcd' ((hcol b hb2).symm.trans (hxc b hb))
        rw [List.nodup_iff_count]
        intro b
        have c0 : (g :: (p1 ++ p2 ++ p3)).count b ≤ 1 := List.nodup_iff_count.1 hnd b
        have c1 : ox.count b ≤ 1 := List.nodup_iff_count.1 hxn b
        rw [List.count_cons] at c0
        simp only [List.singleton_append, List.count_cons, List.count_append] at c0 ⊢
        by_cases hb : b ∈ ox
        · have z0 : (g :: (p1 ++ p2 ++ p3)).count b = 0 := List.count_eq_zero.2 (hdj b hb)
          rw [List.count_cons] at z0
          simp only [List.count_append] at z0
          omega
        · have : ox.count b = 0 := List.count_eq_zero.2 hb
          omega
      · dsimp only
        simp only [List.singleton_append, List.mem_cons, List.mem_append] at hb
        rcases hb with rfl | (hb | hb) | hb
        · simp [hgc]
        · simp [hcol b (by simp [hb])]
        · simp [hxc b hb]
        · simp [hcol b (by simp [hb])]
end
end Go.Proofs.Ytlpbggnpiogioaa.V
set_option linter.unusedVariables false
set_option linter.unusedSimpArgs false
namespace Go.Proofs.Ytlpbggnpiogioaa.V
open Go
def far (op : BinOp) (x y : Nat) : Nat := (floatBits op .f64 x y).getD nanB
def fneg (x : Nat) : Nat := bif isN x then nanB else Op.negFloat .f64 x
theorem Xi {v : Value} {x : Nat} (h : FL v x) {s : St} : RdF Kd.flt s [v] x [] := ⟨v, rfl, h⟩
theorem cs_flt {v : Value} {x x' : Nat} (h : FL v x') : CellSet Kd.flt 0 v x x' :=
 ⟨Nat.one_pos, h.one, fun w cs os hh => by obtain ⟨⟨u, rfl, _⟩, rfl⟩ := hh; exact ⟨⟨v, rfl, h⟩, rfl⟩⟩
theorem fcmp_cn (a b : Nat) : fcmp .f64 (cn a) (cn b) = fcmp .f64 a b := order_cn a b
theorem fbin_cn (op : BinOp) (a b : Nat) : fbin op .f64 (cn a) (cn b) = fbin op .f64 a b := by
 unfold fbin
 simp only [fcmp_cn]
open Ieee in
theorem nan_ops (x y : Datum) (h : x.isNaN = true ∨ y.isNaN = true) : x.sum y = none ∧ x.product y = none ∧ ∀ d, x.quotient d y = none := by
 rcases h with h | h
 · cases x <;> first | cases h | skip
   refine ⟨rfl, ?_, fun d => ?_⟩ <;> cases y <;> rfl
 · cases y <;> first | cases h | skip
   refine ⟨?_, ?_, fun d => ?_⟩ <;> cases x <;> rfl
open Ieee in
theorem sum_notN {x y r : Datum} (h : x.sum y = some r) : r.isNaN = false := by
 cases x <;> cases y <;> simp only [Datum.sum] at h
 all_goals first
  | (cases h; rfl)
  | cases h
  | (split at h <;> first | (cases h; rfl) | cases h)
open Ieee in
theorem product_notN {x y r : Datum} (h : x.product y = some r) : r.isNaN = false := by
 cases x <;> cases y <;> simp only [Datum.product] at h
 all_goals first
  | (cases h; rfl)
  | cases h
  | (split at h <;> first | (cases h; rfl) | cases h)
open Ieee in
theorem quotient_notN {d : Nat} {x y r : Datum} (h : x.quotient d y = some r) : r.isNaN = false := by
  cases x <;> cases y <;> simp only [Datum.quotient] at h
  all_goals first
    | (cases h; rfl)
    | cases h
    | (split at h
       · first | (cases h; rfl) | cases h | (split at h <;> first | (cases h; rfl) | cases h)
       · cases h; rfl)
theorem read_opp (x : Ieee.Datum) : x.opposite.isNaN = x.isNaN := by cases x <;> rfl
theorem isN_read (b : Nat) : (D.read b).isNaN = isN b := by
 cases h : isN b with
 | true => obtain ⟨s, f, e⟩ := read_nan h; rw [e]; rfl
 | false =>
  unfold isN at h
  have h : ¬ 9218868437227405312 < b % 9223372036854775808 := of_decide_eq_false h
  rw [readD]
  split
  · rfl
  · split
    · rfl
    · rw [if_pos (by omega)]; rfl
theorem floatBits_cn (op : BinOp) (a b : Nat) : floatBits op .f64 (cn a) (cn b) = floatBits op .f64 a b := by
 have key : isN a = true ∨ isN b = true → ∀ a' b', (isN a' = isN a) → (isN b' = isN b) → floatBits op .f64 a' b' = none := by
  intro h a' b' ha hb
  have h' : (D.read a').isNaN = true ∨ (D.read b').isNaN = true := by rw [isN_read, isN_read, ha, hb]; exact h
  have h2 : (D.read a').isNaN = true ∨ (D.read b').opposite.isNaN = true := by rw [read_opp]; exact h'
  obtain ⟨k1, k2, k3⟩ := nan_ops _ _ h'
  obtain ⟨k4, _, _⟩ := nan_ops _ _ h2
  unfold floatBits
  cases op <;> simp only []
  · show ((D.read a').sum (D.read b')).map D.write = none; rw [k1]; rfl
  · show ((D.read a').sum (D.read b').opposite).map D.write = none; rw [k4]; rfl
  · show ((D.read a').product (D.read b')).map D.write = none; rw [k2]; rfl
  · show ((D.read a').quotient _ (D.read b')).map D.write = none; rw [k3]; rfl
 cases ha : isN a with
 | true => rw [key (.inl ha) _ _ (isN_cn a) (isN_cn b), key (.inl ha) _ _ rfl rfl]
 | false =>
  cases hb : isN b with
  | true => rw [key (.inr hb) _ _ (isN_cn a) (isN_cn b), key (.inr hb) _ _ rfl rfl]
  | false => rw [cn_of ha, cn_of hb]
theorem floatBits_notN {op : BinOp} {a b r : Nat} (h : floatBits op .f64 a b = some r) : isN r = false := by
 unfold floatBits at h
 have map : ∀ {d : Option Ieee.Datum}, d.map D.write = some r → (∀ e, d = some e → e.isNaN = false) → isN r = false := by
  intro d hd he
  cases d with
  | none => cases hd
  | some e => cases hd; exact write_notN e (he e rfl)
 cases op <;> simp only at h <;> first | (cases h; done) | skip
 · exact map h fun e he => sum_notN he
 · exact map h fun e he => sum_notN he
 · exact map h fun e he => product_notN he
 · exact map h fun e he => quotient_notN he
theorem FL.bits {v : Value} {x : Nat} (h : FL v x) (hn : isN x = false) : v = .float .f64 x := by
 obtain ⟨b, rfl, rfl⟩ := h
 rw [isN_cn] at hn
 rw [cn_of hn]
theorem far_run {P : Program} (w : World) {op : BinOp} (hop : op = .add ∨ op = .sub ∨ op = .mul ∨ op = .quo) (t : TypeId) (a b : Nat) :
    ∃ r n, (binOp op t (.float .f64 a) (.float .f64 b)).run P w = .ok (.float .f64 r) { w with drawn := n } ∧ cn r = far op (cn a) (cn b) := by
  unfold far
  rw [floatBits_cn]
  cases h : floatBits op .f64 a b with
  | some r =>
    refine ⟨r, w.drawn, ?_, ?_⟩
    · rw [run_float_arith w op t .f64 a b r h]
    · rw [cn_of (floatBits_notN h)]; rfl
  | none =>
    refine ⟨Question.cut (.nanBits .f64 a b) (w.tape w.drawn (.nanBits .f64 a b)), w.drawn + 1, ?_, ?_⟩
    · have hn : (Op.floatArith op .f64 a b).run P w = .ok (.float .f64 (Question.cut (.nanBits .f64 a b) (w.tape w.drawn (.nanBits .f64 a b)))) { w with drawn := w.drawn + 1 } := by
        unfold floatBits at h
        rcases hop with rfl | rfl | rfl | rfl <;> simp only at h <;> simp [Op.floatArith, h, choose, Sem.run, Question.forced]
      rcases hop with rfl | rfl | rfl | rfl <;> simpa [binOp] using hn
    · have : isN (Question.cut (.nanBits .f64 a b) (w.tape w.drawn (.nanBits .f64 a b))) = true := by
        generalize w.tape w.drawn (.nanBits .f64 a b) = t
        have hc : Question.cut (.nanBits .f64 a b) t = (t % 2) * 2 ^ 63 + 0x7ff0000000000000 + 1 + (t / 2) % (2 ^ 52 - 1) := rfl
        have h2 := Nat.mod_lt (t / 2) (show 0 < 2 ^ 52 - 1 by decide)
        have h1 : t % 2 = 0 ∨ t % 2 = 1 := by omega
        unfold isN
        rw [decide_eq_true_eq, hc]
        rcases h1 with h1 | h1 <;> rw [h1] <;> omega
      rw [cn_nan this]; rfl
section
variable {P : Program} {f : Who} {N : Nat} {O ρ : Type} {m : Option O} {G : O → Option ρ} {R : ρ → Ending → World → Prop} {e : Env} {s : St} {k : List Item} {ops : Array Oper} {i d : Nat} {rest : List Nat} {o : Oper}
theorem vmk {i d : Nat} {o : Oper} {rest : List Nat} {v : Value} {n : Nat} (ho : ops[i]? = some o) (hd : o.dst = some d) (hN : Nat.blt d N = true) (hw : Region.wanted o (yv e ops) = true) (hr : (execOp (ev e) o).run P s.w = .ok (.value v) { s.w with drawn := n })
    (h : ∀ s', Stp [] s s' → TM P f N m G R (.inRegion ops rest :: k) (upd e d v) s'.w) : TM P f N m G R (.inRegion ops (i :: rest) :: k) e s.w :=
  vl ho hd hN hw hr (h ⟨{ s.w with drawn := n }, s.g⟩ ⟨rfl, rfl, rfl, Nat.le_refl _, fun _ _ _ => rfl, fun _ _ _ => ⟨rfl, rfl⟩⟩)
theorem fq_ {op : BinOp} {t t' : TypeId} {X Y : Operand} {v1 v2 r : Value} {x1 x2 : Nat} (h1 : FL v1 x1) (h2 : FL v2 x2)
    (ho : ops[i]? = some o) (hd : o.dst = some d) (hN : Nat.blt d N = true) (hw : Region.wanted o (yv e ops) = true) (hop : o.op = .binOp op t X Y t') (hx : ev e X = v1) (hy : ev e Y = v2) (hv : fbin op .f64 x1 x2 = some r)
    (h : TM P f N m G R (.inRegion ops rest :: k) (upd e d r) s.w) : TM P f N m G R (.inRegion ops (i :: rest) :: k) e s.w := by
  obtain ⟨b1, rfl, rfl⟩ := h1
  obtain ⟨b2, rfl, rfl⟩ := h2
  rw [fbin_cn] at hv
  exact vl ho hd hN hw (by
    have := fbin_run (P := P) (w := s.w) (t := t) (X := X) (Y := Y) hv
    simp only [execOp, hop, hx, hy]
    rw [Sem.run_bind', this]; rfl) h
theorem fq_' {op : BinOp} {t t' : TypeId} {X Y : Operand} {v1 v2 r : Value} {x1 x2 : Nat} (h1 : FL v1 x1) (h2 : FL v2 x2) (t2 : E8 (ops[i]?) (some o) (o.dst) (some d) (Nat.blt d N) (true) (Region.wanted o (yv e ops)) (true) (o.op) (.binOp op t X Y t') (ev e X) (v1) (ev e Y) (v2) (fbin op .f64 x1 x2) (some r)) (h : TM P f N m G R (.inRegion ops rest :: k) (upd e d r) s.w) : TM P f N m G R (.inRegion ops (i :: rest) :: k) e s.w := fq_ h1 h2 (e8_ t2).1 (e8_ t2).2.1 (e8_ t2).2.2.1 (e8_ t2).2.2.2.1 (e8_ t2).2.2.2.2.1 (e8_ t2).2.2.2.2.2.1 (e8_ t2).2.2.2.2.2.2.1 (e8_ t2).2.2.2.2.2.2.2 h
theorem qv_b {x b : Bool} (h : Qv P N ops e s.w i d (.bool x)) (hb : x = b) : Qv P N ops e s.w i d (.bool b) := by subst hb; exact h
theorem fa_ {op : BinOp} {t t' : TypeId} {X Y : Operand} {v1 v2 : Value} {x1 x2 : Nat} (h1 : FL v1 x1) (h2 : FL v2 x2) (hk : op = .add ∨ op = .sub ∨ op = .mul ∨ op = .quo)
    (ho : ops[i]? = some o) (hd : o.dst = some d) (hN : Nat.blt d N = true) (hw : Region.wanted o (yv e ops) = true) (hop : o.op = .binOp op t X Y t') (hx : ev e X = v1) (hy : ev e Y = v2)
    (h : ∀ v s', Stp [] s s' → FL v (far op x1 x2) → TM P f N m G R (.inRegion ops rest :: k) (upd e d v) s'.w) : TM P f N m G R (.inRegion ops (i :: rest) :: k) e s.w := by
  obtain ⟨b1, rfl, rfl⟩ := h1
  obtain ⟨b2, rfl, rfl⟩ := h2
  obtain ⟨r, n, hr, hc⟩ := far_run (P := P) s.w hk t b1 b2
  refine vmk (v := .float .f64 r) (n := n) ho hd hN hw ?_ fun s' p => h _ s' p ⟨r, rfl, hc⟩
  have hg : (eqGuard op t X Y (.float .f64 b1) (.float .f64 b2)).run P s.w = .ok () s.w := by rcases hk with rfl | rfl | rfl | rfl <;> simp [eqGuard]
  simp only [execOp, hop, hx, hy]
  rw [Sem.run_bind', Sem.run_bind', hg]
  simp only [Result.andThen, hr]
  rfl
theorem fng_ {t : TypeId} {X : Operand} {v1 : Value} {x1 : Nat} (h1 : FL v1 x1)
    (ho : ops[i]? = some o) (hd : o.dst = some d) (hN : Nat.blt d N = true) (hw : Region.wanted o (yv e ops) = true) (hop : o.op = .unOp .neg t X) (hx : ev e X = v1)
    (h : ∀ v, FL v (fneg x1) → TM P f N m G R (.inRegion ops rest :: k) (upd e d v) s.w) : TM P f N m G R (.inRegion ops (i :: rest) :: k) e s.w := by
  obtain ⟨b1, rfl, rfl⟩ := h1
  refine vl (v := .float .f64 (Op.negFloat .f64 b1)) ho hd hN hw (by simp [execOp, hop, hx, Op.unary]) (h _ ⟨_, rfl, ?_⟩)
  have hx : ∀ b, Op.negFloat .f64 b % 9223372036854775808 = b % 9223372036854775808 := by
    intro b
    show (b ^^^ 2 ^ 63) % 2 ^ 63 = b % 2 ^ 63
    rw [Nat.xor_mod_two_pow, Nat.mod_self, Nat.xor_zero]
  have hn : isN (Op.negFloat .f64 b1) = isN b1 := by unfold isN; rw [hx]
  unfold fneg
  rw [isN_cn]
  cases h : isN b1 with
  | true => rw [cn_nan (by rw [hn, h])]; rfl
  | false => rw [cn_of (by rw [hn, h]), cn_of h]; rfl
theorem i2f {t1 t2 : TypeId} {k1 k3 : IntKind} {n : Int} {X : Operand} (hu : P.underlying t2 = some (.float .f64)) (hu1 : P.underlying t1 = some (.int k1))
    (ho : ops[i]? = some o) (hd : o.dst = some d) (hN : Nat.blt d N = true) (hw : Region.wanted o (yv e ops) = true) (hop : o.op = .convert t1 t2 X) (hx : ev e X = .int k3 n)
    (h : ∀ v, FL v (FloatKind.f64.nearest n) → TM P f N m G R (.inRegion ops rest :: k) (upd e d v) s.w) : TM P f N m G R (.inRegion ops (i :: rest) :: k) e s.w :=
  vl (v := .float .f64 (FloatKind.f64.nearest n)) ho hd hN hw (by simp [execOp, hop, hx, convert, run_underlying hu, run_underlying hu1, Conv.intToFloat, Result.andThen]) (h _ ⟨_, rfl, cn_of (write_notN (.number (n < 0) n.natAbs 0) rfl)⟩)
theorem f2i {t1 t2 : TypeId} {k2 : IntKind} {X : Operand} {v1 : Value} {x1 : Nat} {km : Int → Option O} (h1 : FL v1 x1) (hu : P.underlying t2 = some (.int k2)) (hu1 : P.underlying t1 = some (.float .f64))
    (ho : ops[i]? = some o) (hd : o.dst = some d) (hN : Nat.blt d N = true) (hw : Region.wanted o (yv e ops) = true) (hop : o.op = .convert t1 t2 X) (hx : ev e X = v1)
    (h : ∀ n, floatToIntVal .f64 x1 k2 = some n → TM P f N (km n) G R (.inRegion ops rest :: k) (upd e d (.int k2 n)) s.w) : TM P f N ((floatToIntVal .f64 x1 k2).bind km) G R (.inRegion ops (i :: rest) :: k) e s.w := by
  obtain ⟨b1, rfl, rfl⟩ := h1
  refine mb fun n hn => ?_
  have hN' : isN (cn b1) = false := by
    cases hb : isN (cn b1) with
    | false => rfl
    | true =>
      obtain ⟨s', f', e'⟩ := read_nan hb
      unfold floatToIntVal at hn
      have : (FloatKind.f64.decode (cn b1)) = .nan s' f' := e'
      rw [this] at hn
      cases hn
  rw [isN_cn] at hN'
  refine vl (v := .int k2 n) ho hd hN hw ?_ (h n hn)
  rw [cn_of hN'] at hn
  have := run_convert_float_int (P := P) s.w t1 t2 .f64 k2 b1 n (by rw [hu1]; rfl) hu hn
  simp [execOp, hop, hx, this, Result.andThen]
theorem ext_run {w : World} {g : FuncId} {fn : Func} {args : Array Operand} {ts : Array TypeId} {X : Array Value → Sem Value} {v : Value} (hop : o.op = .call { callee := .value (.func g), args := args, argTypes := ts }) (hg : P.funcs[g]? = some fn) (hb : fn.body = none)
    (hn : (fn.name == "runtime.NumGoroutine") = false) (hnx : Extern.findNext fn = none) (hf : Extern.find fn = some X) (hv : (X (args.map (ev e))).run P w = .ok v w) : (execOp (ev e) o).run P w = .ok (.value v) w := by
  have hn' : ¬ fn.name = "runtime.NumGoroutine" := by simpa using hn
  simp [execOp, hop, resolve, ev, Deferred.ofValue, invoke, callFunc, hg, hb, hn', hnx, hf, mark, Sem.run, hv, Result.andThen]
theorem fb_ {g : FuncId} {fn : Func} {X : Operand} {ts : Array TypeId} {v1 : Value} {x1 : Nat} (h1 : FL v1 x1)
    (ho : ops[i]? = some o) (hd : o.dst = some d) (hN : Nat.blt d N = true) (hw : Region.wanted o (yv e ops) = true) (hop : o.op = .call { callee := .value (.func g), args := #[X], argTypes := ts }) (hg : P.funcs[g]? = some fn) (hb : fn.body = none)
    (hn : (fn.name == "runtime.NumGoroutine") = false) (hnx : Extern.findNext fn = none) (hf : Extern.find fn = some Extern.MathFloatBits.float64bits) (hx : ev e X = v1)
    (h : TM P f N m G R (.inRegion ops rest :: k) (upd e d (.int .u64 (x1 : Int))) s.w) : TM P f N (if isN x1 = false then m else none) G R (.inRegion ops (i :: rest) :: k) e s.w := by
  refine mg fun hnn => ?_
  have := h1.bits hnn
  subst this
  exact vl ho hd hN hw (ext_run hop hg hb hn hnx hf (by rw [show (#[X] : Array Operand).map (ev e) = #[ev e X] from by simp, hx]; rfl)) h
theorem fbu {g : FuncId} {fn : Func} {X : Operand} {ts : Array TypeId} {v1 : Value} {x1 : Nat} (h1 : FL v1 x1)
    (ho : ops[i]? = some o) (hd : o.dst = some d) (hN : Nat.blt d N = true) (hw : Region.wanted o (yv e ops) = true) (hop : o.op = .call { callee := .value (.func g), args := #[X], argTypes := ts }) (hg : P.funcs[g]? = some fn) (hb : fn.body = none)
    (hn : (fn.name == "runtime.NumGoroutine") = false) (hnx : Extern.findNext fn = none) (hf : Extern.find fn = some Extern.MathFloatBits.float64bits) (hx : ev e X = v1)
    (h : ∀ b : Nat, cn b = x1 → TM P f N m G R (.inRegion ops rest :: k) (upd e d (.int .u64 (b : Int))) s.w) : TM P f N m G R (.inRegion ops (i :: rest) :: k) e s.w := by
  obtain ⟨b, rfl, hb2⟩ := h1
  exact vl ho hd hN hw (ext_run hop hg hb hn hnx hf (by rw [show (#[X] : Array Operand).map (ev e) = #[ev e X] from by simp, hx]; rfl)) (h b hb2)
theorem fz0 {t t' : TypeId} {X Y : Operand} {b x : Nat} (hc : cn b = x)
    (ho : ops[i]? = some o) (hd : o.dst = some d) (hN : Nat.blt d N = true) (hw : Region.wanted o (yv e ops) = true) (hop : o.op = .binOp .eql t X Y t') (hx : ev e X = .int .u64 (b : Int)) (hy : ev e Y = .int .u64 0)
    (h : TM P f N m G R (.inRegion ops rest :: k) (upd e d (.bool ((x : Int) == 0))) s.w) : TM P f N m G R (.inRegion ops (i :: rest) :: k) e s.w := by
  have hb : ((x : Int) == 0) = ((b : Int) == 0) := by
    cases hN : isN b with
    | false => rw [cn_of hN] at hc; rw [hc]
    | true =>
      rw [cn_nan hN] at hc
      subst hc
      have hne : b ≠ 0 := by intro h0; subst h0; revert hN; decide
      have : ((b : Int) == 0) = false := by simp; exact hne
      rw [this]; rfl
  rw [hb] at h
  exact vl ho hd hN hw (by
    have := ibin_run (P := P) (w := s.w) (op := .eql) (t := t) (X := X) (Y := Y) (k := .u64) (a := (b : Int)) (b := 0) rfl
    simp only [execOp, hop, hx, hy]
    rw [Sem.run_bind', this]; rfl) h
end
end Go.Proofs.Ytlpbggnpiogioaa.V
set_option linter.unusedVariables false
set_option linter.unusedSimpArgs false
namespace Go.Proofs.Ytlpbggnpiogioaa.V
open Go
def LensG {α β : Type} (K : Kd α) (A : Kd β) (q : Nat) (get : α → β) (set : α → β → α) : Prop :=
 ∀ w es x os, K.ow w es x os → ∃ e1 e2 e3 o1 o2 o3, es = e1 ++ (e2 ++ e3) ∧ e1.length = q ∧ os = o1 ++ (o2 ++ o3) ∧ A.ow w e2 (get x) o2 ∧
  ∀ w' y e2' o2', A.ow w' e2' y o2' → Agr w w' (· ∈ o1 ++ o3) → K.ow w' (e1 ++ (e2' ++ e3)) (set x y) (o1 ++ (o2' ++ o3))
theorem lg_id {α : Type} {K : Kd α} : LensG K K 0 (fun x => x) (fun _ y => y) := fun w es x os h =>
 ⟨[], es, [], [], os, [], by simp, rfl, by simp, h, fun w' y e2' o2' hy _ => by simpa using hy⟩
theorem lg_left {α β γ : Type} {K : Kd α} {B : Kd γ} {A : Kd β} {q : Nat} {get : α → β} {set : α → β → α} (h : LensG K A q get set) : LensG (Kd.pair K B) A q (fun p => get p.1) (fun p y => (set p.1 y, p.2)) := fun w es x os hx => by
 obtain ⟨c1, c2, p1, p2, rfl, rfl, h1, h2⟩ := hx
 obtain ⟨e1, e2, e3, o1, o2, o3, rfl, hq, rfl, he, hs⟩ := h w c1 x.1 p1 h1
 exact ⟨e1, e2, e3 ++ c2, o1, o2, o3 ++ p2, by simp, hq, by simp, he, fun w' y e2' o2' hy ha => ⟨e1 ++ (e2' ++ e3), c2, o1 ++ (o2' ++ o3), p2, by simp, by simp, hs w' y e2' o2' hy fun b hb => ha b (by simp at hb ⊢; rcases hb with hb | hb <;> simp [hb]), B.ow_frame h2 fun b hb => ha b (by simp [hb])⟩⟩
theorem lg_right {α β γ : Type} {K : Kd α} {B : Kd γ} {A : Kd β} {q : Nat} {get : α → β} {set : α → β → α} (h : LensG K A q get set) : LensG (Kd.pair B K) A (B.n + q) (fun p => get p.2) (fun p y => (p.1, set p.2 y)) := fun w es x os hx => by
 obtain ⟨c1, c2, p1, p2, rfl, rfl, h1, h2⟩ := hx
 obtain ⟨e1, e2, e3, o1, o2, o3, rfl, hq, rfl, he, hs⟩ := h w c2 x.2 p2 h2
 have hl := B.rd_len (B.ow_rd h1)
 exact ⟨c1 ++ e1, e2, e3, p1 ++ o1, o2, o3, by simp, by simp [hl, hq], by simp, he, fun w' y e2' o2' hy ha => ⟨c1, e1 ++ (e2' ++ e3), p1, o1 ++ (o2' ++ o3), by simp, by simp, B.ow_frame h1 fun b hb => ha b (by simp [hb]), hs w' y e2' o2' hy fun b hb => ha b (by simp at hb ⊢; rcases hb with hb | hb <;> simp [hb])⟩⟩
theorem lg_iso {α β γ : Type} {K : Kd α} {A : Kd β} {q : Nat} {get : α → β} {set : α → β → α} (g : γ → α) (get' : γ → β) (set' : γ → β → γ) (h : LensG K A q get set) (hg : ∀ x, get (g x) = get' x) (hs : ∀ x y, set (g x) y = g (set' x y)) : LensG (Kd.iso K g) A q get' set' := fun w es x os hx => by
 obtain ⟨e1, e2, e3, o1, o2, o3, he, hq, ho, h1, h2⟩ := h w es (g x) os hx
 refine ⟨e1, e2, e3, o1, o2, o3, he, hq, ho, by rw [← hg]; exact h1, fun w' y e2' o2' hy ha => ?_⟩
 have := h2 w' y e2' o2' hy ha
 rw [hs] at this
 exact this
section
variable {P : Program} {f : Who} {N : Nat} {O ρ : Type} {m : Option O} {G : O → Option ρ} {R : ρ → Ending → World → Prop} {e : Env} {s : St} {k : List Item} {ops : Array Oper} {i d : Nat} {rest : List Nat} {o : Oper}
theorem lcq_q {t q : Nat} {dd : TypeDesc} {x : Operand} {ad : Addr} {es es' : List Value} {C : List Nat} (hC : CeF s ad es C) (hu : P.underlying t = some dd) (hs : (P.info? t).map (·.size) = some es'.length)
    (ho : ops[i]? = some o) (hd : o.dst = some d) (hN : Nat.blt d N = true) (hw : Region.wanted o (yv e ops) = true) (hop : o.op = .load t x) (hr : dd.isRow = true) (hx : ev e x = .pointer (some (ad.add q))) (hv : (es.drop q).take es'.length = es') : Qv P N ops e s.w i d (.agg es'.toArray) :=
  ⟨o, ho, hd, hN, by simp only [selB, hop], .inl ⟨hw, by
    have := loadAgg_run (P := P) (w := s.w) (ad := ad.add q) hu hr hs fun j u hj => by
      rw [Addr.add_add']
      refine hC.2 _ _ ?_
      rw [← hv, List.getElem?_take] at hj
      split at hj
      · rw [List.getElem?_drop] at hj; exact hj
      · cases hj
    simp [execOp, hop, hx, this, Result.andThen]⟩⟩
def LoF {α : Type} (K : Kd α) (s : St) (cs : List Value) (xs : List α) (c : Nat) : Prop := ∃ os, ElsO K s.w xs cs os ∧ os.Nodup ∧ ∀ b ∈ os, s.g b = c
theorem lo_one {α : Type} {K : Kd α} {cs : List Value} {x : α} {c : Nat} (h : OwF K s cs x c) : LoF K s cs [x] c := by
 obtain ⟨os, ho, hn, hc⟩ := h
 exact ⟨os, ⟨cs, [], os, [], by simp, by simp, ho, rfl, rfl⟩, hn, hc⟩
theorem ltO {α : Type} {K : Kd α} {t te l : Nat} {z : Value} {parts : Array (Nat × Operand)} {cells : List Value} (xs : List α) (c : Nat) (hu : P.underlying t = some (.slice te)) (hs : (P.info? te).map (·.size) = some K.n) (hz : (P.info? te).bind (·.zero) = some z) (hE : LoF K s cells xs c)
    (ho : ops[i]? = some o) (hd : o.dst = some d) (hN : Nat.blt d N = true) (hw : Region.wanted o (yv e ops) = true) (hop : o.op = .buildSlice t l parts) (hln : Nat.ble (l * K.n) 16777216 = true) (hpos : Nat.ble 1 (l * K.n) = true) (hl : xs.length = l)
    (hzn : z.cells.toList.length = K.n) (hfill : lfill (fun i => some (i * K.n, K.n)) (List.replicate l z.cells.toList).flatten (parts.toList.map fun (i, x) => (i, ev e x)) = some cells)
    (h : ∀ v s', Stp [c] s s' → OwF (Kd.sl te K) s' [v] xs c → TM P f N m G R (.inRegion ops rest :: k) (upd e d v) s'.w) :
    TM P f N m G R (.inRegion ops (i :: rest) :: k) e s.w := by
  obtain ⟨os, hE, hn, hc⟩ := hE
  have hlen := hE.len
  have h2 := Nat.le_of_ble_eq_true hln
  have h3 := Nat.le_of_ble_eq_true hpos
  have hn' : 0 < K.n := Nat.pos_of_ne_zero fun h => by rw [h] at h3; simp at h3
  obtain ⟨s', hs', p, nn, hrow⟩ := new_row (s := s) (te := te) (n := K.n) (l := l) (cells := cells.toArray) c rfl (by simp [hlen, hl]) (by have : l * 1 ≤ l * K.n := Nat.mul_le_mul_left _ hn'; simp only [maxLen]; omega)
  refine vl (w' := s'.w) ho hd hN hw (by rw [hs']; exact lit_run hu hs hz hln hpos hzn hfill hop) (h _ s' ⟨p.os, p.tape, p.output, p.size, p.low, fun b hb _ => p.same b hb rfl⟩ ?_)
  subst hl
  have hlt := hE.lt
  refine ⟨[s.w.heap.size] ++ os, ⟨_, rfl, _, _, os, rfl, by simpa using hrow, hE.frame fun b hb hl => (p.same b hl rfl).2⟩, ?_, fun b hb => ?_⟩
  · refine List.nodup_append.2 ⟨by simp, hn, fun a ha b hb hab => ?_⟩
    simp at ha; subst hab; have := hlt a hb; omega
  · rcases List.mem_append.1 hb with hb | hb
    · simp at hb; subst hb; exact nn.new _ (Nat.le_refl _)
    · rw [nn.old b (hlt b hb), hc b hb]
end
theorem sp2 {α : Type} {K : Kd α} {s : St} {cs : List Value} {x : α} {p r : List Nat} {c : Nat} (c' : Nat) (h : K.ow s.w cs x p) (hn : (p ++ r).Nodup) (hc : ∀ b ∈ p ++ r, s.g b = c) (h10 : Nat.ble 40 c = true) :
    ∃ s' : St, s.w = s'.w ∧ Stp [c] s s' ∧ OwF K s' cs x c ∧ r.Nodup ∧ ∀ b ∈ r, s'.g b = c' := by
  have h10' := Nat.le_of_ble_eq_true h10
  have hn' := List.nodup_append.1 hn
  refine ⟨⟨s.w, fun b => open Classical in if b ∈ r then c' else s.g b⟩, rfl, ⟨rfl, rfl, rfl, Nat.le_refl _, fun b hb hl => ?_, fun b hb hm => ⟨?_, rfl⟩⟩, ⟨p, h, hn'.1, fun b hb => ?_⟩, hn'.2.1, fun b hb => by simp [hb]⟩
  · have : ¬ b ∈ r := fun h => by have := hc b (by simp [h]); omega
    simp [this]
  · have : ¬ b ∈ r := fun h => by have := hc b (by simp [h]); rw [this] at hm; simp [memb] at hm
    simp [this]
  · have : ¬ b ∈ r := fun h => hn'.2.2 b hb b h rfl
    simp only [this, if_false]
    exact hc b (by simp [hb])
theorem sp1 {α : Type} {K : Kd α} {s : St} {cs : List Value} {x : α} {p : List Nat} {c : Nat} (h : K.ow s.w cs x p) (hn : p.Nodup) (hc : ∀ b ∈ p, s.g b = c) : OwF K s cs x c := ⟨p, h, hn, hc⟩
def nextN (E : List (List Nat)) (L D : List Nat) (cs : List Nat) : Bool :=
 rangeB E.length fun i => memb cs i || memb L i || memb D i || anyB (E.getD i []) (fun j => Nat.blt j E.length && !memb L j && !memb D j)
section
variable {P : Program} {f : Who} {N : Nat} {O ρ : Type} {m : Option O} {G : O → Option ρ} {R : ρ → Ending → World → Prop} {k : List Item} {ops : Array Oper}
variable {E : List (List Nat)} {Ds : List (Option Nat)} {Us : List (List Nat)} {L D l : List Nat} {e Ec : Env} {w : World}
theorem zstepN (cs : List (Nat × List (Option Nat))) (tb : Tb ops E Ds Us) (z : Zr E Ds L D l e Ec) (hq : Pq P N ops Ec w L)
    (hb : (useB E Ds Us L && nextN E L D (cs.map (·.1)) && cs.all (fun p => Nat.blt p.1 E.length && !memb L p.1 && !memb D p.1) && !cs.isEmpty) = true)
    (hp : cs.all (fun p => ((pend E E.length L [p.1]).map fun i => Ds.getD i none) == p.2) = true)
    (h : ∀ p ∈ cs, ∀ l' e', Zr E Ds L D (p.1 :: l') (mix p.2 Ec e') Ec → TM P f N m G R (.inRegion ops (p.1 :: l') :: k) (mix p.2 Ec e') w) : TM P f N m G R (.inRegion ops l :: k) e w := by
  simp only [Bool.and_eq_true, Bool.not_eq_true'] at hb
  obtain ⟨⟨⟨hu, hn⟩, hall⟩, hne⟩ := hb
  induction l generalizing e with
  | nil =>
    cases cs with
    | nil => cases hne
    | cons p cs =>
      have hc := List.all_eq_true.1 hall p (by simp)
      simp only [Bool.and_eq_true, Bool.not_eq_true'] at hc
      have hc' : p.1 < E.length := by have := hc.1.1; simp [Nat.blt] at this; omega
      rcases z.ld p.1 hc' (by simp) with h | h
      · exact absurd h (nmemb hc.2)
      · exact absurd h (nmemb hc.1.2)
  | cons i l ih =>
    by_cases hi : i ∈ L
    · exact quiet tb z hq hu hi fun e' z' => ih z'
    · have hD : i ∉ D := fun h => z.done i h (by simp)
      have hlt := z.lt i (by simp)
      have := rangeB_out hn i hlt
      simp only [Bool.or_eq_true] at this
      have hic : i ∈ cs.map (·.1) := by
        rcases this with ((h | h) | h) | h
        · exact memb_iff.1 h
        · exact absurd (memb_iff.1 h) hi
        · exact absurd (memb_iff.1 h) hD
        · obtain ⟨j, hj, hp⟩ := anyB_out h
          simp only [Bool.and_eq_true, Bool.not_eq_true'] at hp
          have hjl : j ∉ i :: l := z.dep [] i l rfl j hj
          have hjlt : j < E.length := by have := hp.1.1; simp [Nat.blt] at this; omega
          rcases z.ld j hjlt hjl with h | h
          · exact absurd h (nmemb hp.2)
          · exact absurd h (nmemb hp.1.2)
      obtain ⟨⟨c, pd⟩, hmem, hcc⟩ := List.mem_map.1 hic
      simp only at hcc
      subst hcc
      have hc := List.all_eq_true.1 hall _ hmem
      simp only [Bool.and_eq_true, Bool.not_eq_true'] at hc
      have hpd := List.all_eq_true.1 hp _ hmem
      simp only [beq_iff_eq] at hpd
      have hcL := hc.1.2
      have he : e = mix pd Ec e := by
        funext t
        unfold mix
        cases hm2 : pd.any (fun x => optB x t) with
        | true => rfl
        | false =>
          refine z.env t fun j hj hjt hm3 => ?_
          have hjp : memb (pend E E.length L [c]) j = false := by
            cases hh : memb (pend E E.length L [c]) j with
            | false => rfl
            | true =>
              have : pd.any (fun x => optB x t) = true := by
                rw [List.any_eq_true]
                refine ⟨some t, ?_, optB_iff.2 rfl⟩
                rw [← hpd]
                exact List.mem_map.2 ⟨j, memb_iff.1 hh, hjt⟩
              rw [this] at hm2; cases hm2
          have hjs : j ∈ scan E E.length [c] := by
            cases hh : memb (scan E E.length [c]) j with
            | true => exact memb_iff.1 hh
            | false => exact absurd (List.mem_filter.2 ⟨hj, by simp [hh]⟩ : j ∈ pend E E.length L [c]) (nmemb hjp)
          have hnd := List.nodup_cons.1 z.nd
          have := scan_out (E := E) (l := l) (fun x hx hlt y hy hm => by
            by_cases hxi : x = c
            · subst hxi; exact z.dep [] x l rfl y hy (List.mem_cons_of_mem _ hm)
            · exact z.dn x hlt (by simp [hxi, hx]) y hy (List.mem_cons_of_mem _ hm)) (fun x hx => z.lt x (List.mem_cons_of_mem _ hx)) E.length [c] (by simpa using hnd.1) j hjs
          rcases List.mem_cons.1 hm3 with rfl | hm3
          · exact nmemb hcL hj
          · exact this hm3
      rw [he] at z ⊢
      exact h _ hmem l e z
theorem zstep2 (c1 c2 : Nat) (pd1 pd2 : List (Option Nat)) (tb : Tb ops E Ds Us) (z : Zr E Ds L D l e Ec) (hq : Pq P N ops Ec w L)
    (hb : (useB E Ds Us L && nextN E L D [c1, c2] && ([(c1, pd1), (c2, pd2)] : List (Nat × List (Option Nat))).all (fun p => Nat.blt p.1 E.length && !memb L p.1 && !memb D p.1) && !([(c1, pd1), (c2, pd2)] : List (Nat × List (Option Nat))).isEmpty) = true)
    (hp : ([(c1, pd1), (c2, pd2)] : List (Nat × List (Option Nat))).all (fun p => ((pend E E.length L [p.1]).map fun i => Ds.getD i none) == p.2) = true)
    (h1 : ∀ l' e', Zr E Ds L D (c1 :: l') (mix pd1 Ec e') Ec → TM P f N m G R (.inRegion ops (c1 :: l') :: k) (mix pd1 Ec e') w)
    (h2 : ∀ l' e', Zr E Ds L D (c2 :: l') (mix pd2 Ec e') Ec → TM P f N m G R (.inRegion ops (c2 :: l') :: k) (mix pd2 Ec e') w) : TM P f N m G R (.inRegion ops l :: k) e w :=
  zstepN [(c1, pd1), (c2, pd2)] tb z hq hb hp fun p hp l' e' => by
    simp only [List.mem_cons, List.not_mem_nil, or_false] at hp
    rcases hp with rfl | rfl
    · exact h1 l' e'
    · exact h2 l' e'
end
end Go.Proofs.Ytlpbggnpiogioaa.V
set_option linter.unusedVariables false
set_option linter.unusedSimpArgs false
namespace Go.Proofs.Ytlpbggnpiogioaa.V
open Go
def fl_ (ps : List (List Nat × Nat)) : List Nat := (ps.map (·.1)).flatten
structure ZN (F : Nat → Prop) (ps : List (List Nat × Nat)) (s : St) : Prop where
 z : ∀ b, F b ↔ s.g b = 0
 lo : ∀ b, b ∉ fl_ ps → s.g b < 2
 pt : ∀ p ∈ ps, ∀ b ∈ p.1, s.g b = p.2
noncomputable def colN (ps : List (List Nat × Nat)) (b : Nat) : Nat := match ps with
 | [] => 1
 | p :: ps => open Classical in if b ∈ p.1 then p.2 else colN ps b
theorem colN_out {ps : List (List Nat × Nat)} {b : Nat} (h : b ∉ fl_ ps) : colN ps b = 1 := by
 induction ps with
 | nil => rfl
 | cons p ps ih =>
  simp only [fl_, List.map_cons, List.flatten_cons, List.mem_append, not_or] at h
  unfold colN
  rw [if_neg h.1]
  exact ih h.2
theorem colN_in {ps : List (List Nat × Nat)} (hn : (fl_ ps).Nodup) : ∀ p ∈ ps, ∀ b ∈ p.1, colN ps b = p.2 := by
 induction ps with
 | nil => intro p hp; cases hp
 | cons q ps ih =>
  intro p hp b hb
  have hn' := List.nodup_append.1 (show (q.1 ++ fl_ ps).Nodup from hn)
  unfold colN
  rcases List.mem_cons.1 hp with rfl | hp
  · rw [if_pos hb]
  · have : b ∉ q.1 := fun h => hn'.2.2 b h b (List.mem_flatten.2 ⟨p.1, List.mem_map.2 ⟨p, hp, rfl⟩, hb⟩) rfl
    rw [if_neg this]
    exact ih hn'.2.1 p hp b hb
theorem colN_ge {ps : List (List Nat × Nat)} (h : ps.all (fun p => Nat.ble 2 p.2) = true) (b : Nat) : 1 ≤ colN ps b := by
 induction ps with
 | nil => exact Nat.le_refl _
 | cons p ps ih =>
  simp only [List.all_cons, Bool.and_eq_true] at h
  unfold colN
  split
  · have := Nat.le_of_ble_eq_true h.1; omega
  · exact ih h.2
theorem startN (w : World) (F : Nat → Prop) (ps : List (List Nat × Nat)) (hn : (fl_ ps).Nodup) (hF : ∀ b, F b → b ∉ fl_ ps) (hc : ps.all (fun p => Nat.ble 2 p.2) = true) : ∃ s : St, s.w = w ∧ Kp s s ∧ ZN F ps s := by
 refine ⟨⟨w, fun b => open Classical in if F b then 0 else colN ps b⟩, rfl, ⟨rfl, rfl, rfl, Nat.le_refl _, fun b hb _ => rfl, fun _ _ _ => rfl⟩, ⟨fun b => ?_, fun b hb => ?_, fun p hp b hb => ?_⟩⟩
 · have := colN_ge hc b
   dsimp only
   constructor
   · intro h; rw [if_pos h]
   · intro h; split at h
     · assumption
     · omega
 · dsimp only
   split
   · omega
   · rw [colN_out hb]; omega
 · dsimp only
   have hm : b ∈ fl_ ps := List.mem_flatten.2 ⟨p.1, List.mem_map.2 ⟨p, hp, rfl⟩, hb⟩
   rw [if_neg fun h => hF b h hm]
   exact colN_in hn p hp b hb
section
variable {F : Nat → Prop} {ps : List (List Nat × Nat)} {s s' : St}
theorem ZN.rd (z : ZN F ps s) {α : Type} {K : Kd α} {cs : List Value} {x : α} (h : K.rd s.w cs x F) : RdF K s cs x [0] :=
 K.rd_mono h fun b hb _ => by rw [(z.z b).1 hb]; rfl
theorem ZN.ow (z : ZN F ps s) {α : Type} {K : Kd α} {cs : List Value} {x : α} {p : List Nat} {c : Nat} (hm : (p, c) ∈ ps) (hn : p.Nodup) (h : K.ow s.w cs x p) : OwF K s cs x c := ⟨p, h, hn, fun b hb => z.pt _ hm b hb⟩
theorem ZN.ky (z : ZN F ps s) (p : Kp s s') : Ky (fl_ ps) s.w s'.w := ⟨p.os, p.tape, p.output, p.size, fun b hb hn => p.same b hb (z.lo b hn)⟩
def OwC {α : Type} (K : Kd α) (s : St) (cs : List Value) (x : α) (C : List Nat) : Prop := ∃ os, K.ow s.w cs x os ∧ os.Nodup ∧ ∀ b ∈ os, memb C (s.g b) = true
theorem oc_ow {α : Type} {K : Kd α} {cs : List Value} {x : α} {c : Nat} (h : OwF K s cs x c) : OwC K s cs x [c] := by
 obtain ⟨os, ho, hn, hc⟩ := h
 exact ⟨os, ho, hn, fun b hb => by rw [hc b hb]; simp [memb]⟩
theorem ZN.fw (z : ZN F ps s) (p : Kp s s') {α : Type} {K : Kd α} {cs : List Value} {x : α} {C : List Nat} (h : OwC K s' cs x C) (hC : C.all (Nat.ble 2 ·) = true) : FW K (fl_ ps) s.w s'.w cs x := by
 obtain ⟨os, ho, hn, hc⟩ := h
 refine ⟨os, ho, hn, fun b hb => ?_⟩
 by_cases hl : b < s.w.heap.size
 · left
   refine Classical.byContradiction fun hne => ?_
   have h1 := z.lo b hne
   have h2 := p.col b hl (by omega)
   have h3 := hc b hb
   rw [h2] at h3
   have := List.all_eq_true.1 hC _ (memb_iff.1 h3)
   have := Nat.le_of_ble_eq_true this
   omega
 · right; omega
theorem ZN.ky' (z : ZN F ps s) {os : List Nat} (e : fl_ ps = os) (p : Kp s s') : Ky os s.w s'.w := e ▸ z.ky p
theorem ZN.fw' (z : ZN F ps s) {os : List Nat} (e : fl_ ps = os) (p : Kp s s') {α : Type} {K : Kd α} {cs : List Value} {x : α} {C : List Nat} (h : OwC K s' cs x C) (hC : C.all (Nat.ble 2 ·) = true) : FW K os s.w s'.w cs x := e ▸ z.fw p h hC
end
structure Nm (s s' : St) (os : List Nat) (c : Nat) : Prop where
 old : ∀ b, b < s.w.heap.size → b ∉ os → s'.g b = s.g b
 mv : ∀ b ∈ os, s'.g b = c
 new : ∀ b, s.w.heap.size ≤ b → s'.g b = c
theorem nwm {s : St} {p : Nat} {os : List Nat} {w' : World} (c : Nat) (hc : ∀ b ∈ os, s.g b = p) (ky : Ky os s.w w') (h40 : Nat.ble 40 p = true) : ∃ s' : St, s'.w = w' ∧ Stp [p] s s' ∧ Nm s s' os c := by
 have h40' := Nat.le_of_ble_eq_true h40
 refine ⟨⟨w', fun b => open Classical in if b ∈ os then c else if b < s.w.heap.size then s.g b else c⟩, rfl, ⟨ky.os, ky.tape, ky.output, ky.size, fun b hb hl => ?_, fun b hb hm => ?_⟩, ⟨fun b hb hn => by simp [hb, hn], fun b hb => by simp [hb], fun b hb => ?_⟩⟩
 · have : b ∉ os := fun h => by have := hc b h; omega
   simp [this, hb]
 · have : b ∉ os := fun h => by rw [hc b h] at hm; simp [memb] at hm
   exact ⟨by simp [this, hb], ky.same b hb this⟩
 · have : ¬ b < s.w.heap.size := by omega
   simp [this]
theorem FW.m {α : Type} {K : Kd α} {s s' : St} {os : List Nat} {cs : List Value} {x : α} {c : Nat} (h : FW K os s.w s'.w cs x) (n : Nm s s' os c) : OwF K s' cs x c := by
 obtain ⟨os', ho, hn, hf⟩ := h
 refine ⟨os', ho, hn, fun b hb => ?_⟩
 rcases hf b hb with h | h
 · exact n.mv b h
 · exact n.new b h
theorem BlF.rc {s : St} {b : Nat} {t : TypeId} {cs : List Value} {d : Nat} (h : BlF s b t cs d) (c : Nat) (hd : Nat.ble 40 d = true) : ∃ s' : St, s.w = s'.w ∧ Stp [d] s s' ∧ BlF s' b t cs c := by
 have hd' := Nat.le_of_ble_eq_true hd
 refine ⟨⟨s.w, fun b => if s.g b = d then c else s.g b⟩, rfl, ⟨rfl, rfl, rfl, Nat.le_refl _, fun b hb hl => ?_, fun b hb hm => ⟨?_, rfl⟩⟩, h.1, ?_⟩
 · have : ¬ s.g b = d := by omega
   simp [this]
 · have : ¬ s.g b = d := fun h => by rw [h] at hm; simp [memb] at hm
   simp [this]
 · simp [h.2]
section
variable {P : Program} {f : Who} {N : Nat} {O ρ : Type} {m : Option O} {G : O → Option ρ} {R : ρ → Ending → World → Prop} {e : Env} {s : St} {k : List Item} {ops : Array Oper} {i d : Nat} {rest : List Nat} {o : Oper}
end
end Go.Proofs.Ytlpbggnpiogioaa.V
set_option linter.unusedVariables false
set_option linter.unusedSimpArgs false
namespace Go.Proofs.Ytlpbggnpiogioaa.V
open Go
abbrev MD := List (Int × Bool)
def midx : MD → Int → Nat → Option (Nat × Bool)
 | [], _, _ => none
 | p :: m, k, i => bif k == p.1 then some (i, p.2) else midx m k (i + 1)
def mget (m : MD) (k : Int) : Bool := match midx m k 0 with
 | some p => p.2
 | none => false
def mset (m : MD) (k : Int) (v : Bool) : MD := match midx m k 0 with
 | some p => m.set p.1 (k, v)
 | none => m ++ [(k, v)]
def mcell (p : Int × Bool) : Value × Value := (.int .i64 p.1, .bool p.2)
def MpF (s : St) (b : Nat) (m : MD) (c : Nat) : Prop := ∃ es clock, s.w.heap[b]? = some (.map es clock) ∧ s.g b = c ∧ es.toList.map (fun e => (e.key, e.val)) = m.map mcell
theorem MpF.st {s s' : St} {S : List Nat} {b c : Nat} {m : MD} (h : MpF s b m c) (p : Stp S s s') (d : memb S c = false) : MpF s' b m c := by
 obtain ⟨es, cl, hb, hc, he⟩ := h
 have hl : b < s.w.heap.size := (Array.getElem?_eq_some_iff.1 hb).1
 have := p.same b hl (by rw [hc]; exact d)
 exact ⟨es, cl, by rw [this.2]; exact hb, by rw [this.1]; exact hc, he⟩
theorem midx_now (k : Int) : ∀ (es : List MapEntry) (m : MD) (i : Nat), es.map (fun e => (e.key, e.val)) = m.map mcell →
    Instr.findNow (.int .i64) (.int .i64 k) es i = some ((midx m k i).map fun p => (p.1, .bool p.2))
  | [], [], i, _ => rfl
  | [], _ :: _, i, h => by cases h
  | _ :: _, [], i, h => by cases h
  | e :: es, p :: m, i, h => by
    simp only [List.map_cons, List.cons.injEq] at h
    obtain ⟨h1, h2⟩ := h
    have hk : e.key = .int .i64 p.1 := congrArg Prod.fst h1
    have hv : e.val = .bool p.2 := congrArg Prod.snd h1
    unfold Instr.findNow midx
    rw [hk]
    simp only [Instr.sameNow, if_true]
    cases hkp : (k == p.1) with
    | true => simp [hv]
    | false => simpa using midx_now k es m (i + 1) h2
theorem midx_lt (k : Int) : ∀ (m : MD) (i j : Nat) (v : Bool), midx m k i = some (j, v) → i ≤ j ∧ j < i + m.length ∧ ∀ p, m[j - i]? = some p → p.1 = k ∧ p.2 = v
 | [], i, j, v, h => by cases h
 | p :: m, i, j, v, h => by
  unfold midx at h
  cases hkp : (k == p.1) with
  | true =>
   rw [hkp] at h
   simp only [cond_true, Option.some.injEq, Prod.mk.injEq] at h
   obtain ⟨rfl, rfl⟩ := h
   refine ⟨Nat.le_refl _, by simp, fun q hq => ?_⟩
   simp at hq; subst hq
   exact ⟨(by simpa using hkp : k = p.1).symm, rfl⟩
  | false =>
   rw [hkp] at h
   simp only [cond_false] at h
   obtain ⟨h1, h2, h3⟩ := midx_lt k m (i + 1) j v h
   refine ⟨by omega, by simp; omega, fun q hq => h3 q ?_⟩
   rw [show j - i = (j - (i + 1)) + 1 by omega] at hq
   simpa using hq
section
variable {P : Program} {f : Who} {N : Nat} {O ρ : Type} {m : Option O} {G : O → Option ρ} {R : ρ → Ending → World → Prop} {e : Env} {s : St} {k : List Item} {ops : Array Oper} {i d : Nat} {rest : List Nat} {o : Oper}
theorem mkm (c : Nat) {t : TypeId} (ho : ops[i]? = some o) (hd : o.dst = some d) (hN : Nat.blt d N = true) (hw : Region.wanted o (yv e ops) = true) (hop : o.op = .makeMap t none)
    (h : ∀ b s', Stp [] s s' → MpF s' b [] c → TM P f N m G R (.inRegion ops rest :: k) (upd e d (.map (some b))) s'.w) : TM P f N m G R (.inRegion ops (i :: rest) :: k) e s.w := by
  obtain ⟨s', hs', p, n⟩ := s.made (.map #[] 0) c
  refine vl (v := .map (some s.w.heap.size)) (w' := s'.w) ho hd hN hw ?_ (h _ s' p ⟨#[], 0, ?_, n.new _ (Nat.le_refl _), rfl⟩)
  · rw [hs']; simp [execOp, hop, Go.RowKit.run_makeMap, Result.andThen]
  · rw [hs']; exact heap_alloc_new s.w _
theorem look_run {t kt et b c : Nat} {mm : MD} {kk : Int} (hm : P.underlying t = some (.map kt et)) (hk : P.underlying kt = some (.int .i64)) (hz : (P.info? et).bind (·.zero) = some (.bool false)) (hB : MpF s b mm c) :
    (Instr.lookup t (.map (some b)) (.int .i64 kk) false).run P s.w = .ok (.bool (mget mm kk)) s.w := by
  obtain ⟨es, cl, hb, hc, he⟩ := hB
  unfold Instr.lookup
  rw [Sem.run_bind', run_underlying hm]
  simp only [Result.andThen]
  rw [Sem.run_bind', Go.MapKept.run_getObj_map hb]
  simp only [Result.andThen]
  rw [Sem.run_bind']
  simp only [Sem.run_pure, Result.andThen]
  rw [Sem.run_bind', Go.MapKept.run_checkKey hk (by simp [Go.MapKept.IsKey])]
  simp only [Result.andThen]
  have hf := midx_now kk es.toList mm 0 he
  rw [Sem.run_bind', Go.MapKept.run_findKey hk hf]
  unfold mget
  cases hx : midx mm kk 0 with
  | none => simp [Result.andThen, zero_run hz]
  | some p => simp [Result.andThen]
theorem lkm {t kt et b c : Nat} {mm : MD} {kk : Int} {x y : Operand} (hB : MpF s b mm c) (hm : P.underlying t = some (.map kt et)) (hk : P.underlying kt = some (.int .i64)) (hz : (P.info? et).bind (·.zero) = some (.bool false))
    (ho : ops[i]? = some o) (hd : o.dst = some d) (hN : Nat.blt d N = true) (hw : Region.wanted o (yv e ops) = true) (hop : o.op = .lookup t x y false) (hx : ev e x = .map (some b)) (hy : ev e y = .int .i64 kk)
    (h : TM P f N m G R (.inRegion ops rest :: k) (upd e d (.bool (mget mm kk))) s.w) : TM P f N m G R (.inRegion ops (i :: rest) :: k) e s.w :=
  vl ho hd hN hw (by simp [execOp, hop, hx, hy, look_run hm hk hz hB, Result.andThen]) h
theorem upm {t kt et b c : Nat} {mm : MD} {kk : Int} {v : Bool} {x y u : Operand} (hB : MpF s b mm c) (hm : P.underlying t = some (.map kt et)) (hk : P.underlying kt = some (.int .i64))
    (ho : ops[i]? = some o) (hd : o.dst = none) (hw : Region.wanted o (yv e ops) = true) (hop : o.op = .mapUpdate t x y u) (hx : ev e x = .map (some b)) (hy : ev e y = .int .i64 kk) (hu : ev e u = .bool v)
    (h : ∀ s', Stp [c] s s' → MpF s' b (mset mm kk v) c → TM P f N m G R (.inRegion ops rest :: k) e s'.w) : TM P f N m G R (.inRegion ops (i :: rest) :: k) e s.w := by
  obtain ⟨es, cl, hb, hc, he⟩ := hB
  have key : ∃ es' cl', (Instr.mapUpdate t (.map (some b)) (.int .i64 kk) (.bool v)).run P s.w = .ok () { s.w with heap := s.w.heap.setIfInBounds b (.map es' cl') } ∧ es'.toList.map (fun e => (e.key, e.val)) = (mset mm kk v).map mcell := by
    unfold Instr.mapUpdate
    rw [Sem.run_bind', run_underlying hm]
    simp only [Result.andThen]
    rw [Sem.run_bind', Go.MapKept.run_getObj_map hb]
    simp only [Result.andThen]
    rw [Sem.run_bind', Go.MapKept.run_checkKey hk (by simp [Go.MapKept.IsKey])]
    simp only [Result.andThen]
    have hf := midx_now kk es.toList mm 0 he
    rw [Sem.run_bind', Go.MapKept.run_findKey hk hf]
    unfold mset
    have hlen : es.size = mm.length := by
      have := congrArg List.length he
      simpa using this
    cases hxx : midx mm kk 0 with
    | none =>
      refine ⟨es.push { key := .int .i64 kk, val := .bool v, born := cl }, cl + 1, ?_, ?_⟩
      · simp [Result.andThen, Go.MapKept.run_setObj_map _ hb]
      · simp [he, mcell]
    | some p =>
      obtain ⟨_, hlt, hp⟩ := midx_lt kk mm 0 p.1 p.2 hxx
      have hlt' : p.1 < mm.length := by omega
      have hpk := (hp mm[p.1] (by simp [List.getElem?_eq_getElem hlt'])).1
      have hes : p.1 < es.size := by omega
      have hkey : (es[p.1]).key = .int .i64 kk := by
        have h1 : (es.toList.map (fun e => (e.key, e.val)))[p.1]? = (mm.map mcell)[p.1]? := by rw [he]
        rw [List.getElem?_map, List.getElem?_map, List.getElem?_eq_getElem hlt', List.getElem?_eq_getElem (by simpa using hes)] at h1
        simp only [Option.map_some, Option.some.injEq] at h1
        have h2 := congrArg Prod.fst h1
        simp only [mcell] at h2
        rw [hpk] at h2
        simpa using h2
      refine ⟨es.modify p.1 fun e => { e with key := .int .i64 kk, val := .bool v }, cl, ?_, ?_⟩
      · have hst : (Instr.keyThatStays (((es[p.1]?).map (·.key)).getD (.int .i64 kk)) (.int .i64 kk)).run P s.w = .ok (.int .i64 kk) s.w := by
          rw [Array.getElem?_eq_getElem hes]
          simp only [Option.map_some, Option.getD_some, hkey]
          unfold Instr.keyThatStays
          have : Instr.sameBits 10000 (.int .i64 kk) (.int .i64 kk) = true := by simp [Instr.sameBits]
          rw [if_pos this]; rfl
        simp only [Result.andThen, Option.map_some]
        rw [Sem.run_bind', hst]
        simp [Result.andThen, Go.MapKept.run_setObj_map _ hb]
      · have : (es.modify p.1 fun e => { e with key := Value.int .i64 kk, val := Value.bool v }).toList.map (fun e => (e.key, e.val)) = (es.toList.map fun e => (e.key, e.val)).set p.1 (mcell (kk, v)) := by
          rw [Array.toList_modify]
          apply List.ext_getElem?
          intro j
          simp only [List.getElem?_map, List.getElem?_modify, List.getElem?_set, List.length_map, Array.length_toList]
          by_cases hj : p.1 = j
          · subst hj; simp [hes, mcell]
          · simp [hj]
        rw [this, he, List.map_set]
  obtain ⟨es', cl', hr, he'⟩ := key
  have hset := Go.MapKept.heap_set (o' := .map es' cl') hb
  refine vd (w' := { s.w with heap := s.w.heap.setIfInBounds b (.map es' cl') }) ho hd hw (by simp [execOp, hop, hx, hy, hu, hr, Result.andThen]) (h ⟨{ s.w with heap := s.w.heap.setIfInBounds b (.map es' cl') }, s.g⟩ ⟨rfl, rfl, rfl, by simp, fun _ _ _ => rfl, fun b' hb' hm' => ⟨rfl, ?_⟩⟩ ⟨es', cl', hset.1, hc, he'⟩)
  refine hset.2 b' fun hne => ?_
  subst hne
  rw [hc] at hm'
  simp [memb] at hm'
end
theorem midx_some (m : MD) (k : Int) : ∀ i, (midx m k i).isSome = m.any (fun p => k == p.1) := by
 induction m with
 | nil => intro i; rfl
 | cons p m ih =>
  intro i
  unfold midx
  cases h : (k == p.1) with
  | true => simp [h]
  | false => simp [h, ih (i + 1)]
theorem mget_all {m : MD} (h : ∀ p ∈ m, p.2 = true) (k : Int) : mget m k = m.any (fun p => k == p.1) := by
 rw [← midx_some m k 0]
 unfold mget
 cases hx : midx m k 0 with
 | none => rfl
 | some p =>
  obtain ⟨h0, h1, h2⟩ := midx_lt k m 0 p.1 p.2 hx
  have hlt : p.1 < m.length := by omega
  have h3 := (h2 m[p.1] (by simp [List.getElem?_eq_getElem hlt])).2
  have h4 := h _ (List.getElem_mem hlt)
  simp only [Option.isSome_some]
  rw [← h3, h4]
theorem mset_new {m : MD} {k : Int} (h : m.any (fun p => k == p.1) = false) (v : Bool) : mset m k v = m ++ [(k, v)] := by
 rw [← midx_some m k 0] at h
 unfold mset
 cases hx : midx m k 0 with
 | none => rfl
 | some p => rw [hx] at h; cases h
end Go.Proofs.Ytlpbggnpiogioaa.V
set_option linter.unusedVariables false
set_option linter.unusedSimpArgs false
namespace Go.Proofs.Ytlpbggnpiogioaa.V
open Go
structure Pk (β : Type) where
 cs : List Value
 x : β
instance {β : Type} [Inhabited β] : Inhabited (Pk β) := ⟨⟨[], default⟩⟩
def Kd.pk (β : Type) (n : Nat) : Kd (Pk β) where
 n := n
 rd := fun _ cs p _ => cs = p.cs ∧ cs.length = n ∧ ∀ v ∈ cs, v.oneCell' = true
 ow := fun _ cs p os => (cs = p.cs ∧ cs.length = n ∧ ∀ v ∈ cs, v.oneCell' = true) ∧ os = []
 rd_len := fun h => h.2.1
 rd_one := fun h => h.2.2
 rd_frame := fun h _ => h
 rd_mono := fun h _ => h
 ow_frame := fun h _ => h
 ow_lt := fun h b hb => by rw [h.2] at hb; cases hb
 ow_rd := fun h => h.1
theorem fl_pk {β : Type} {n : Nat} : FlK (Kd.pk β n) := fun _ _ _ _ h _ => ⟨h, rfl⟩
theorem pk_of {β : Type} {K : Kd β} {w : World} : ∀ {xs : List β} {cells : List Value} {os : List Nat}, ElsO K w xs cells os →
    ∃ ps : List (Pk β × List Nat), ps.map (fun p => p.1.x) = xs ∧ (ps.map (·.2)).flatten = os ∧ (ps.map fun p => p.1.cs).flatten = cells ∧ ∀ p ∈ ps, K.ow w p.1.cs p.1.x p.2
  | [], cells, os, h => by obtain ⟨rfl, rfl⟩ := h; exact ⟨[], rfl, rfl, rfl, fun p hp => by cases hp⟩
  | x :: xs, cells, os, ⟨c1, c2, o1, o2, e1, e2, h1, h2⟩ => by
    obtain ⟨ps, hx, ho, hc, hp⟩ := pk_of h2
    refine ⟨(⟨c1, x⟩, o1) :: ps, by simp [hx], by simp [ho, e2], by simp [hc, e1], fun p hp' => ?_⟩
    rcases List.mem_cons.1 hp' with rfl | hp'
    · exact h1
    · exact hp p hp'
theorem pk_els {β : Type} {K : Kd β} {w : World} (w' : World) : ∀ (ps : List (Pk β × List Nat)), (∀ p ∈ ps, K.ow w p.1.cs p.1.x p.2) → ElsO (Kd.pk β K.n) w' (ps.map (·.1)) (ps.map fun p => p.1.cs).flatten []
 | [], _ => ⟨rfl, rfl⟩
 | p :: ps, h => ⟨p.1.cs, _, [], [], rfl, rfl, ⟨⟨rfl, K.rd_len (K.ow_rd (h p (by simp))), K.rd_one (K.ow_rd (h p (by simp)))⟩, rfl⟩, pk_els w' ps fun q hq => h q (by simp [hq])⟩
theorem pk_cells {β : Type} {n : Nat} {w : World} : ∀ {ps : List (Pk β)} {cells : List Value} {os : List Nat}, ElsO (Kd.pk β n) w ps cells os → cells = (ps.map (·.cs)).flatten ∧ os = []
 | [], cells, os, h => by obtain ⟨rfl, rfl⟩ := h; exact ⟨rfl, rfl⟩
 | p :: ps, cells, os, ⟨c1, c2, o1, o2, e1, e2, ⟨⟨h1, _⟩, h1'⟩, h2⟩ => by
  obtain ⟨hc, ho⟩ := pk_cells h2
  subst e1; subst e2; subst h1'; subst ho; subst hc; subst h1
  exact ⟨rfl, rfl⟩
theorem pk_back {β : Type} {K : Kd β} {w : World} : ∀ (ps : List (Pk β × List Nat)), (∀ p ∈ ps, K.ow w p.1.cs p.1.x p.2) → ElsO K w (ps.map fun p => p.1.x) (ps.map fun p => p.1.cs).flatten (ps.map (·.2)).flatten
 | [], _ => ⟨rfl, rfl⟩
 | p :: ps, h => ⟨p.1.cs, _, p.2, _, rfl, rfl, h p (by simp), pk_back ps fun q hq => h q (by simp [hq])⟩
theorem flat_sub {β : Type} (g : β → List Nat) {l m : List β} (h : l.Sublist m) : ((l.map g).flatten).Sublist ((m.map g).flatten) := by
 induction h with
 | slnil => exact .slnil
 | cons a h ih => simpa using ih.trans (List.sublist_append_right _ _)
 | cons_cons a h ih => simpa using (List.Sublist.refl (g a)).append ih
end Go.Proofs.Ytlpbggnpiogioaa.V
set_option linter.unusedVariables false
set_option linter.unusedSimpArgs false
namespace Go.Proofs.Ytlpbggnpiogioaa.V
open Go
def bcmpS (xs ys : List Int) : Int := Extern.BytealgCompare.cmp (str xs) (str ys)
def bcmp : List Int → List Int → Int
 | [], [] => 0
 | [], _ :: _ => -1
 | _ :: _, [] => 1
 | x :: xs, y :: ys => bif x == y then bcmp xs ys else bif decide (x < y) then -1 else 1
section
variable {P : Program} {f : Who} {N : Nat} {O ρ : Type} {m : Option O} {G : O → Option ρ} {R : ρ → Ending → World → Prop} {e : Env} {s : St} {k : List Item} {ops : Array Oper} {i d : Nat} {rest : List Nat} {o : Oper}
theorem add1 (a : Addr) (j : Nat) : (a.add 1).add j = a.add (j + 1) := by
 rw [Addr.add_add', Nat.add_comm]
theorem load_bytes {w : World} : ∀ (xs : List Int) (a : Addr) (acc : ByteArray), (∀ j u, (xs.map (Value.int .u8))[j]? = some u → w.cell? (a.add j) = some u) →
    (Extern.Bytes.loadBytes a xs.length acc).run P w = .ok (xs.foldl (fun r n => r.push (UInt8.ofNat n.toNat)) acc) w
  | [], a, acc, _ => by simp [Extern.Bytes.loadBytes]
  | x :: xs, a, acc, h => by
    have h0 := h 0 (.int .u8 x) rfl
    rw [V.add_zero] at h0
    have hl : (load a).run P w = .ok (.int .u8 x) w := by simp [load, Sem.run, h0]
    simp only [List.length_cons]
    unfold Extern.Bytes.loadBytes
    rw [Sem.run_bind', hl]
    simp only [Result.andThen, List.foldl_cons]
    exact load_bytes xs (a.add 1) _ fun j u hj => by rw [add1]; exact h (j + 1) u hj
theorem bytes_run {tg : TypeId} {v : Value} {xs : List Int} {C : List Nat} (hF : RdF (Kd.sl tg (Kd.int .u8)) s [v] xs C) : (Extern.Bytes.bytesOf v).run P s.w = .ok (str xs) s.w := by
 obtain ⟨v1, e1, A, cap, cells, rfl, hcap, hels, hc⟩ := hF
 obtain rfl : v = .slice A xs.length cap := by simpa using e1
 have hcells : cells = xs.map (.int .u8) := els_u8 hels
 cases A with
 | none =>
  have : xs = [] := by
   cases xs with
   | nil => rfl
   | cons x xs =>
    obtain ⟨ad, h, _⟩ := hc (by rw [hcells]; simp)
    cases h
  subst this
  simp [Extern.Bytes.bytesOf, str]
 | some a =>
  refine load_bytes xs a _ ?_
  rw [← hcells]
  by_cases hne : cells = []
  · rw [hne]; intro j u h; cases h
  · obtain ⟨ad, h, _, hcell⟩ := hc hne
    obtain rfl := Option.some.inj h
    exact hcell
theorem bcx {g : FuncId} {fn : Func} {X Y : Operand} {ts : Array TypeId} {t1 t2 : TypeId} {v u : Value} {xs ys : List Int} {C D : List Nat} (hX : RdF (Kd.sl t1 (Kd.int .u8)) s [v] xs C) (hY : RdF (Kd.sl t2 (Kd.int .u8)) s [u] ys D)
    (ho : ops[i]? = some o) (hd : o.dst = some d) (hN : Nat.blt d N = true) (hw : Region.wanted o (yv e ops) = true) (hop : o.op = .call { callee := .value (.func g), args := #[X, Y], argTypes := ts }) (hg : P.funcs[g]? = some fn) (hb : fn.body = none)
    (hn : (fn.name == "runtime.NumGoroutine") = false) (hnx : Extern.findNext fn = none) (hf : Extern.find fn = some Extern.BytealgCompare.compare) (hx : ev e X = v) (hy : ev e Y = u)
    (h : TM P f N m G R (.inRegion ops rest :: k) (upd e d (.int .i64 (bcmpS xs ys))) s.w) : TM P f N m G R (.inRegion ops (i :: rest) :: k) e s.w :=
  vl ho hd hN hw (ext_run hop hg hb hn hnx hf (by
    rw [show (#[X, Y] : Array Operand).map (ev e) = #[ev e X, ev e Y] from by simp, hx, hy]
    show Sem.run P (do let a ← Extern.Bytes.bytesOf v; let b ← Extern.Bytes.bytesOf u; pure (goInt (Extern.BytealgCompare.cmp a b))) s.w = _
    rw [Sem.run_bind', bytes_run hX]
    simp only [Result.andThen]
    rw [Sem.run_bind', bytes_run hY]
    rfl)) h
end
end Go.Proofs.Ytlpbggnpiogioaa.V
set_option linter.unusedVariables false
set_option linter.unusedSimpArgs false
namespace Go.Proofs.Ytlpbggnpiogioaa.V
open Go
def HoL {α β : Type} [Inhabited α] (te : TypeId) (K : Kd α) (A : Kd β) (q : Nat) (set : α → β → α) (s : St) (v : Value) (xs : List α) (ii : Int) (c : Nat) : Prop :=
 ∃ g cap cur c1 u0 c3 p1 p3, v = .slice (some ⟨g, 0, none⟩) xs.length cap ∧ Hr s.w g cur te ∧ xs.length ≤ cap ∧ cap ≤ maxLen ∧ cur.size = cap * K.n ∧
  cur.toList.take (xs.length * K.n) = c1 ++ (u0 ++ c3) ∧ u0.length = A.n ∧ c1.length = ii.toNat * K.n + q ∧ (g :: (p1 ++ p3)).Nodup ∧ (∀ b ∈ g :: (p1 ++ p3), s.g b = c ∧ b < s.w.heap.size) ∧ ii.toNat < xs.length ∧
  ∀ w' e2 y o2, A.ow w' e2 y o2 → Agr s.w w' (· ∈ p1 ++ p3) → ElsO K w' (xs.set ii.toNat (set (at_ xs ii) y)) (c1 ++ (e2 ++ c3)) (p1 ++ (o2 ++ p3))
theorem HoL.st {α β : Type} [Inhabited α] {te : TypeId} {K : Kd α} {A : Kd β} {q : Nat} {set : α → β → α} {s s' : St} {v : Value} {xs : List α} {ii : Int} {c : Nat} {S : List Nat} (h : HoL te K A q set s v xs ii c) (p : Stp S s s') (d : memb S c = false) : HoL te K A q set s' v xs ii c := by
 obtain ⟨g, cap, cur, c1, u0, c3, p1, p3, e1, e2, e3, e4, e5, e6, e7, e8, e9, e10, e11, e12⟩ := h
 have hs : ∀ b ∈ g :: (p1 ++ p3), s'.g b = s.g b ∧ s'.w.heap[b]? = s.w.heap[b]? := fun b hb => p.same b (e10 b hb).2 (by rw [(e10 b hb).1]; exact d)
 refine ⟨g, cap, cur, c1, u0, c3, p1, p3, e1, e2.eq (hs g (by simp)).2, e3, e4, e5, e6, e7, e8, e9, fun b hb => ⟨by rw [(hs b hb).1]; exact (e10 b hb).1, Nat.lt_of_lt_of_le (e10 b hb).2 p.size⟩, e11, fun w' e2 y o2 hy ha => e12 w' e2 y o2 hy fun b hb hl => ?_⟩
 rw [ha b hb (Nat.lt_of_lt_of_le hl p.size), (hs b (by simp at hb ⊢; rcases hb with hb | hb <;> simp [hb])).2]
theorem take_ {α β : Type} [Inhabited α] {K : Kd α} {A : Kd β} {q te : Nat} {get : α → β} {set : α → β → α} {s : St} {v u : Value} {xs : List α} {c : Nat} {ii : Int} {ad : Addr} {es : List Value} {C : List Nat} (a : Nat) (L : LensG K A q get set)
    (hO : OwF (Kd.sl te K) s [v] xs c) (h0 : 0 ≤ ii) (h1 : ii < xs.length) (hA : IxA v K.n ii ad) (hC : CeF s ad es C) (hu : es[q]? = some u) (hqn : Nat.blt q K.n = true) (hn : A.n = 1) (h40 : Nat.ble 40 c = true) :
    ∃ s' : St, s.w = s'.w ∧ Stp [c] s s' ∧ OwF A s' [u] (get (at_ xs ii)) a ∧ HoL te K A q set s' v xs ii c ∧ CeF s' ad es C := by
  have h40' := Nat.le_of_ble_eq_true h40
  obtain ⟨os, ⟨v1, e1, cells, o1, o2, rfl, hR, hE⟩, hnd, hcol⟩ := hO
  obtain rfl : v = v1 := by simpa using e1
  obtain ⟨Aa, l, cap, hv, rfl⟩ := hA
  have hi : ii.toNat < xs.length := by omega
  have hq : q < K.n := by simp [Nat.blt] at hqn; omega
  obtain ⟨hl, hR2⟩ := hR
  rcases hR2 with ⟨h2, _⟩ | ⟨g, cap', cur, h2, hg, hlc, hcm, hsz, htk, rfl⟩
  · rw [h2] at hv; cases hv
  · rw [h2] at hv
    simp only [Value.slice.injEq, Option.some.injEq] at hv
    obtain ⟨rfl, rfl, rfl⟩ := hv
    obtain ⟨p1, p2, p3, rfl, hK, hset⟩ := hE.at_ ii.toNat hi
    rw [at_eq xs ii hi]
    obtain ⟨r1, r2, r3, q1, q2, q3, hes, hq1, rfl, hg2, hput⟩ := L _ _ _ _ hK
    have hr2 : r2.length = A.n := A.rd_len (A.ow_rd hg2)
    have hmul : (ii.toNat + 1) * K.n ≤ xs.length * K.n := Nat.mul_le_mul_right _ hi
    rw [Nat.add_mul, Nat.one_mul] at hmul
    have hcl : cells.length = xs.length * K.n := hl
    have hlt : (cells.take (ii.toNat * K.n)).length = ii.toNat * K.n := by rw [List.length_take]; omega
    have e0 : cells = (cells.take (ii.toNat * K.n) ++ r1) ++ (r2 ++ (r3 ++ cells.drop ((ii.toNat + 1) * K.n))) := by
      have : cells = cells.take (ii.toNat * K.n) ++ ((r1 ++ (r2 ++ r3)) ++ cells.drop ((ii.toNat + 1) * K.n)) := by
        rw [← hes, Nat.add_mul, Nat.one_mul, ← List.drop_drop, List.take_append_drop, List.take_append_drop]
      conv => lhs; rw [this]
      simp
    have hc1l : (cells.take (ii.toNat * K.n) ++ r1).length = ii.toNat * K.n + q := by rw [List.length_append, hlt, hq1]
    -- the cell is the one that was loaded
    have hru : r2 = [u] := by
      obtain ⟨u', rfl⟩ := List.length_eq_one_iff.1 (hr2.trans hn)
      have hcell := hC.2 q u hu
      rw [Addr.add_add', Addr.add_mid, Nat.zero_add] at hcell
      have hc2 : cells[ii.toNat * K.n + q]? = some u' := by
        rw [e0, List.getElem?_append_right (by omega), hc1l, Nat.sub_self]; rfl
      rw [← htk, List.getElem?_take] at hc2
      split at hc2
      · have : s.w.cell? ⟨g, ii.toNat * K.n + q, none⟩ = cur[ii.toNat * K.n + q]? := hg.cell _
        rw [this, ← Array.getElem?_toList] at hcell
        rw [hcell] at hc2
        rw [Option.some.inj hc2]
      · cases hc2
    subst hru
    have hcnt : ∀ b, (g :: (p1 ++ (q1 ++ (q2 ++ q3)) ++ p3)).count b ≤ 1 := fun b => List.nodup_iff_count.1 hnd b
    have hgl : g < s.w.heap.size := hg.lt
    have hgq : g ∉ q2 := fun h => by
      have := hcnt g
      rw [List.count_cons_self] at this
      have h3 : 1 ≤ q2.count g := List.count_pos_iff.2 h
      simp only [List.count_append] at this
      omega
    have hout : ∀ b, b ∈ g :: ((p1 ++ q1) ++ (q3 ++ p3)) → b ∉ q2 := fun b hb hb2 => by
      have h3 : 1 ≤ q2.count b := List.count_pos_iff.2 hb2
      have h4 := hcnt b
      have h5 : 1 ≤ (g :: ((p1 ++ q1) ++ (q3 ++ p3))).count b := List.count_pos_iff.2 hb
      rw [List.count_cons] at h4 h5
      simp only [List.count_append] at h4 h5
      omega
    refine ⟨⟨s.w, fun b => open Classical in if b ∈ q2 then a else s.g b⟩, rfl, ⟨rfl, rfl, rfl, Nat.le_refl _, fun b hb hlo => ?_, fun b hb hm => ⟨?_, rfl⟩⟩, ⟨q2, hg2, ?_, fun b hb => by simp [hb]⟩, ?_, ?_⟩
    · have : b ∉ q2 := fun h => by
        have := hcol b (by simp [h])
        omega
      simp [this]
    · have : b ∉ q2 := fun h => by
        have := hcol b (by simp [h])
        rw [this] at hm; simp [memb] at hm
      simp [this]
    · rw [List.nodup_iff_count]
      intro b
      have h4 := hcnt b
      rw [List.count_cons] at h4
      simp only [List.count_append] at h4
      omega
    · refine ⟨g, cap', cur, _, [u], _, p1 ++ q1, q3 ++ p3, h2, hg, hlc, hcm, hsz, by rw [htk]; exact e0, hr2, hc1l, ?_, fun b hb => ⟨?_, ?_⟩, hi, fun w' e2 y o2 hy ha => ?_⟩
      · rw [List.nodup_iff_count]
        intro b
        have h4 := hcnt b
        rw [List.count_cons] at h4 ⊢
        simp only [List.count_append] at h4 ⊢
        omega
      · have := hout b hb
        simp only [this, if_false]
        refine hcol b ?_
        simp at hb ⊢
        rcases hb with rfl | hb | hb | hb | hb <;> simp [*]
      · simp at hb
        rcases hb with rfl | hb | hb | hb | hb
        · exact hgl
        · exact hE.lt b (by simp [hb])
        · exact hE.lt b (by simp [hb])
        · exact hE.lt b (by simp [hb])
        · exact hE.lt b (by simp [hb])
      · have h6 := hput w' y e2 o2 hy fun b hb hl => ha b (by simp at hb ⊢; rcases hb with hb | hb <;> simp [hb]) hl
        have h7 := hset w' _ _ _ h6 fun b hb hl => ha b (by simp at hb ⊢; rcases hb with hb | hb <;> simp [hb]) hl
        rw [← at_eq xs ii hi] at h7
        simpa using h7
    · refine ⟨?_, hC.2⟩
      have hb := hC.1
      rw [add_block] at hb ⊢
      have : (⟨g, 0, none⟩ : Addr).block ∉ q2 := hgq
      simp only [this, if_false]
      exact hb
section
variable {P : Program} {f : Who} {N : Nat} {O ρ : Type} {m : Option O} {G : O → Option ρ} {R : ρ → Ending → World → Prop} {e : Env} {s : St} {k : List Item} {ops : Array Oper} {i d : Nat} {rest : List Nat} {o : Oper}
theorem soh {α β : Type} [Inhabited α] {K : Kd α} {A : Kd β} {q : Nat} {set : α → β → α} {t te : TypeId} {x y : Operand} {v : Value} {vs : List Value} {xs : List α} {c d' : Nat} {ii : Int} {ad : Addr} {x' : β}
    (hH : HoL te K A q set s v xs ii c) (hA : IxA v K.n ii ad) (hX : OwF A s vs x' d') (hcd : Nat.beq c d' = false) (h10 : Nat.ble 40 d' = true) (hs : (P.info? t).map (·.size) = some A.n)
    (ho : ops[i]? = some o) (hd : o.dst = none) (hw : Region.wanted o (yv e ops) = true) (hop : o.op = .store t x y) (hx : ev e x = .pointer (some (ad.add q))) (hy : (ev e y).cells = vs.toArray)
    (h : ∀ s', Stp [c, d'] s s' → OwF (Kd.sl te K) s' [v] (xs.set ii.toNat (set (at_ xs ii) x')) c → TM P f N m G R (.inRegion ops rest :: k) e s'.w) : TM P f N m G R (.inRegion ops (i :: rest) :: k) e s.w := by
  have hcd' : c ≠ d' := fun h => by subst h; simp at hcd
  have hd10 := Nat.le_of_ble_eq_true h10
  obtain ⟨ox, hxo, hxn, hxc⟩ := hX
  have hvl : vs.length = A.n := A.rd_len (A.ow_rd hxo)
  have hv1 : ∀ u ∈ vs, u.oneCell' = true := A.rd_one (A.ow_rd hxo)
  obtain ⟨g, cap, cur, c1, u0, c3, p1, p3, rfl, hg, hlc, hcm, hsz, htk, hu0, hc1, hnd, hcol, hi, hmake⟩ := hH
  obtain ⟨Aa, l, cap2, hv, rfl⟩ := hA
  simp only [Value.slice.injEq, Option.some.injEq] at hv
  obtain ⟨rfl, rfl, rfl⟩ := hv
  have hcapm : xs.length * K.n ≤ cap * K.n := Nat.mul_le_mul_right _ hlc
  have hlen := congrArg List.length htk
  simp only [List.length_take, Array.length_toList, List.length_append] at hlen
  have hgc := (hcol g (by simp)).1
  have hgl := (hcol g (by simp)).2
  have hst := storeCells_hr P g (ii.toNat * K.n + q) te vs 0 cur s.w hg (by rw [hvl, hsz]; omega) hv1
  simp only [Nat.add_zero] at hst
  have had : ((⟨g, 0, none⟩ : Addr).add (ii.toNat * K.n)).add q = ⟨g, ii.toNat * K.n + q, none⟩ := by rw [Addr.add_add', Addr.add_mid, Nat.zero_add]
  rw [had] at hx
  have hrun : (Instr.storeAt t (.pointer (some ⟨g, ii.toNat * K.n + q, none⟩)) (ev e y)).run P s.w = .ok () (s.w.setRow g (cur.toList.take (ii.toNat * K.n + q) ++ vs ++ cur.toList.drop (ii.toNat * K.n + q + vs.length)).toArray) := by
    unfold Instr.storeAt
    rw [Sem.run_bind']
    simp only [Instr.sureAddr, Sem.run_pure, Result.andThen]
    unfold storeVar
    rw [Sem.run_bind', size_run hs]
    simp only [Result.andThen, hy]
    simp [hvl]
    simp [hvl] at hst
    exact hst
  have hndc := List.nodup_cons.1 hnd
  refine vd (w' := s.w.setRow g (cur.toList.take (ii.toNat * K.n + q) ++ vs ++ cur.toList.drop (ii.toNat * K.n + q + vs.length)).toArray) ho hd hw (by simp [execOp, hop, hx, hrun, Result.andThen]) (h ⟨_, fun b => if s.g b = d' then c else s.g b⟩ ⟨rfl, rfl, rfl, by simp, fun b hb hl => ?_, fun b hb hm => ?_⟩ ?_)
  · have : ¬ s.g b = d' := by omega
    simp [this]
  · simp only [memb, Bool.or_eq_false_iff] at hm
    have q1 : s.g b ≠ c := fun h => by rw [h] at hm; simp at hm
    have q2 : ¬ s.g b = d' := fun h => by rw [h] at hm; simp at hm
    refine ⟨by simp [q2], setRow_other s.w g b _ fun e => q1 (by rw [e]; exact hgc)⟩
  · have hoth : ∀ b, b ≠ g → (s.w.setRow g (cur.toList.take (ii.toNat * K.n + q) ++ vs ++ cur.toList.drop (ii.toNat * K.n + q + vs.length)).toArray).heap[b]? = s.w.heap[b]? := fun b hb => setRow_other s.w g b _ hb
    have hgx : g ∉ ox := fun h => hcd' (hgc.symm.trans (hxc g h))
    have hA' := A.ow_frame hxo (w' := s.w.setRow g (cur.toList.take (ii.toNat * K.n + q) ++ vs ++ cur.toList.drop (ii.toNat * K.n + q + vs.length)).toArray) fun b hb _ => hoth b fun h => hgx (h ▸ hb)
    have hnew := hmake _ vs x' ox hA' fun b hb _ => hoth b fun h => hndc.1 (by subst h; exact hb)
    have hpre : cur.toList.take (ii.toNat * K.n + q) = c1 := by
      have := congrArg (List.take (ii.toNat * K.n + q)) htk
      rw [List.take_take, Nat.min_eq_left (by omega), ← hc1, List.take_left' rfl] at this
      rw [← hc1]; exact this
    have hsuf : (cur.toList.take (xs.length * K.n)).drop (ii.toNat * K.n + q + vs.length) = c3 := by
      rw [htk, ← List.append_assoc]
      exact List.drop_left' (by rw [List.length_append, hc1, hu0, hvl])
    refine ⟨[g] ++ (p1 ++ (ox ++ p3)), ⟨_, rfl, _, [g], _, rfl, ⟨?_, .inr ⟨g, cap, _, by rw [List.length_set], hg.row3 _ _ (by rw [hvl, hsz]; omega), by simpa using hlc, hcm, ?_, ?_, rfl⟩⟩, hnew⟩, ?_, fun b hb => ?_⟩
    · simp only [List.length_set, List.length_append, hvl]
      omega
    · simp only [List.size_toArray, List.length_append, List.length_take, List.length_drop, Array.length_toList, hvl, hsz]
      omega
    · rw [List.length_set]
      have hla : (cur.toList.take (ii.toNat * K.n + q) ++ vs).length = ii.toNat * K.n + q + A.n := by
        rw [List.length_append, List.length_take, Array.length_toList, hvl, hsz]; omega
      rw [List.take_append, List.take_of_length_le (by omega), hla, hpre, List.append_assoc]
      congr 1
      congr 1
      rw [← hsuf, hvl, List.drop_take]
    · have hdj : ∀ b, b ∈ ox → b ∉ g :: (p1 ++ p3) := fun b hb hb2 => hcd' ((hcol b hb2).1.symm.trans (hxc b hb))
      rw [List.nodup_iff_count]
      intro b
      have c0 : (g :: (p1 ++ p3)).count b ≤ 1 := List.nodup_iff_count.1 hnd b
      have c1' : ox.count b ≤ 1 := List.nodup_iff_count.1 hxn b
      rw [List.count_cons] at c0
      simp only [List.singleton_append, List.count_cons, List.count_append] at c0 ⊢
      by_cases hb : b ∈ ox
      · have z0 : (g :: (p1 ++ p3)).count b = 0 := List.count_eq_zero.2 (hdj b hb)
        rw [List.count_cons] at z0
        simp only [List.count_append] at z0
        omega
      · have : ox.count b = 0 := List.count_eq_zero.2 hb
        omega
    · dsimp only
      simp only [List.singleton_append, List.mem_cons, List.mem_append] at hb
      rcases hb with rfl | hb | hb | hb
      · simp [hgc]
      · simp [(hcol b (by simp [hb])).1]
      · simp [hxc b hb]
      · simp [(hcol b (by simp [hb])).1]
theorem ixh {α β : Type} [Inhabited α] {te t : TypeId} {K : Kd α} {A : Kd β} {q : Nat} {set : α → β → α} {v : Value} {xs : List α} {c : Nat} {jj : Int} {kk : IntKind} {ii : Int} {X I : Operand} (hH : HoL te K A q set s v xs jj c) (hu : P.underlying t = some (.slice te)) (hs : (P.info? te).map (·.size) = some K.n)
    (ho : ops[i]? = some o) (hd : o.dst = some d) (hN : Nat.blt d N = true) (hw : Region.wanted o (yv e ops) = true) (hop : o.op = .indexAddr t X I) (hX : ev e X = v) (hI : ev e I = .int kk ii)
    (h : ∀ ad, 0 ≤ ii → ii < xs.length → IxA v K.n ii ad → TM P f N m G R (.inRegion ops rest :: k) (upd e d (.pointer (some ad))) s.w) :
    TM P f N (if 0 ≤ ii ∧ ii < xs.length then m else none) G R (.inRegion ops (i :: rest) :: k) e s.w := by
  refine mg fun hg => ?_
  obtain ⟨g, cap, cur, c1, u0, c3, p1, p3, rfl, _⟩ := hH
  refine vl (v := .pointer (some ((⟨g, 0, none⟩ : Addr).add (ii.toNat * K.n)))) ho hd hN hw ?_ (h _ hg.1 hg.2 ⟨_, _, cap, rfl, rfl⟩)
  have h1 := hg.1
  have h2 := hg.2
  simp [execOp, hop, hX, hI, Instr.indexAt, asIntOf, run_underlying hu, h1, h2, size_run hs, Result.andThen]
end
theorem RwF.sub {α : Type} {e : TypeId} {K : Kd α} {s : St} {v : Value} {xs : List α} {c : Nat} {C : List Nat} (h : RwF e K s v xs c C) {D : List Nat} (d : V.sub C D = true) : RwF e K s v xs c D := by
 obtain ⟨cells, os, h1, h2, h3⟩ := h
 exact ⟨cells, os, h1, h2, h3.mono fun b hb _ => sub_out d hb⟩
end Go.Proofs.Ytlpbggnpiogioaa.V
set_option linter.unusedVariables false
set_option linter.unusedSimpArgs false
namespace Go.Proofs.Ytlpbggnpiogioaa.V
open Go
theorem ElsR.set {α : Type} {K : Kd α} {w : World} {F : Nat → Prop} {xs : List α} {cells c' : List Value} {y : α} (h : ElsR K w F xs cells) (i : Nat) (hi : i < xs.length) (hy : K.rd w c' y F) : ElsR K w F (xs.set i y) (cells.take (i * K.n) ++ c' ++ cells.drop ((i + 1) * K.n)) := by
 rw [List.set_eq_take_append_cons_drop, if_pos hi, List.append_assoc]
 exact (h.take i).append ⟨c', _, rfl, hy, h.drop (i + 1)⟩
section
variable {P : Program} {f : Who} {N : Nat} {O ρ : Type} {m : Option O} {G : O → Option ρ} {R : ρ → Ending → World → Prop} {e : Env} {s : St} {k : List Item} {ops : Array Oper} {i d : Nat} {rest : List Nat} {o : Oper}
theorem apRR {α : Type} {K : Kd α} {t te : TypeId} {x y : Operand} {v u : Value} {xs ys : List α} {c c2 : Nat} {C D : List Nat} (hT : SlT P t te K.n) (hD : RwF te K s v xs c C) (hS : RwF te K s u ys c2 D) (hc : memb (C ++ D) c = false)
    (ho : ops[i]? = some o) (hd : o.dst = some d) (hN : Nat.blt d N = true) (hw : Region.wanted o (yv e ops) = true) (hop : o.op = .call { callee := .builtin .append, args := #[x, y], argTypes := #[t, t] }) (hx : ev e x = v) (hy : ev e y = u)
    (h : ∀ v' s', Stp [c] s s' → RwF te K s' v' (xs ++ ys) c (C ++ D) → TM P f N m G R (.inRegion ops rest :: k) (upd e d v') s'.w) :
    TM P f N (if xs.length + ys.length ≤ Lim then m else none) G R (.inRegion ops (i :: rest) :: k) e s.w := by
  refine mg fun hl => ?_
  obtain ⟨cells, os, hR, hcol, hE⟩ := hD
  obtain ⟨cells', os', hR2, hcol2, hE'⟩ := hS
  obtain ⟨v', w', hr, hR', hg, hb⟩ := append_core (P := P) (ty := o.type) hT hR (hR2.slv hE'.one) hl
  refine vl (v := v') (w' := w') ho hd hN hw (by simp [execOp, hop, resolve, invoke, builtin, hx, hy, hr, Result.andThen]) ?_
  have hp : ∃ s' : St, s'.w = w' ∧ Stp [c] s s' ∧ (∀ b, b < s.w.heap.size → s'.g b = s.g b) ∧ (∀ b, s.w.heap.size ≤ b → s'.g b = c) := by
    refine ⟨⟨w', fun b => if b < s.w.heap.size then s.g b else c⟩, rfl, ⟨hg.os, hg.tape, hg.output, hg.size, fun b hb _ => by simp [hb], fun b hb hm => ⟨by simp [hb], hg.block b hb fun h => ?_⟩⟩, fun b hb => by simp [hb], fun b hb => ?_⟩
    · have := hcol b (blk_own hR h.symm)
      rw [this] at hm; simp [memb] at hm
    · have : ¬ b < s.w.heap.size := by omega
      simp [this]
  obtain ⟨s', rfl, p, hold, hnew⟩ := hp
  have hsub : ∀ n, memb C n = true → memb (C ++ D) n = true := fun n hn => memb_iff.2 (List.mem_append_left _ (memb_iff.1 hn))
  have hsub' : ∀ n, memb D n = true → memb (C ++ D) n = true := fun n hn => memb_iff.2 (List.mem_append_right _ (memb_iff.1 hn))
  refine h v' s' p ⟨cells ++ cells', Value.blk v', by rw [List.length_append]; exact hR', fun b hb' => ?_, ?_⟩
  · rcases hb b hb' with h1 | h1
    · rw [hold b (hR.lt b h1)]; exact hcol b h1
    · exact hnew b h1
  · have h1 : ElsR K s.w (fun b => b < s.w.heap.size ∧ memb (C ++ D) (s.g b) = true) (xs ++ ys) (cells ++ cells') := (hE.mono fun b hb hl => ⟨hl, hsub _ hb⟩).append (hE'.mono fun b hb hl => ⟨hl, hsub' _ hb⟩)
    refine (h1.frame fun b hb hl => (p.same b hl ?_).2).mono fun b hb _ => by rw [hold b hb.1]; exact hb.2
    cases hm : memb [c] (s.g b) with
    | false => rfl
    | true =>
      have := memb_iff.1 hm
      simp at this
      rw [this] at hb
      rw [hb.2] at hc; cases hc
theorem sor {α : Type} [Inhabited α] {K : Kd α} {t te : TypeId} {x y : Operand} {v : Value} {vs : List Value} {xs : List α} {c : Nat} {C D : List Nat} {ii : Int} {ad : Addr} {x' : α}
    (hO : RwF te K s v xs c C) (hA : IxA v K.n ii ad) (h0 : 0 ≤ ii) (h1 : ii < xs.length) (hX : RdF K s vs x' D) (hc : memb (C ++ D) c = false) (hs : (P.info? t).map (·.size) = some K.n)
    (ho : ops[i]? = some o) (hd : o.dst = none) (hw : Region.wanted o (yv e ops) = true) (hop : o.op = .store t x y) (hx : ev e x = .pointer (some ad)) (hy : (ev e y).cells = vs.toArray)
    (h : ∀ s', Stp [c] s s' → RwF te K s' v (xs.set ii.toNat x') c (C ++ D) → TM P f N m G R (.inRegion ops rest :: k) e s'.w) : TM P f N m G R (.inRegion ops (i :: rest) :: k) e s.w := by
  obtain ⟨cells, os, hR, hcol, hE⟩ := hO
  have hvl : vs.length = K.n := K.rd_len hX
  have hv1 : ∀ u ∈ vs, u.oneCell' = true := K.rd_one hX
  obtain ⟨Aa, l, cap2, hv, rfl⟩ := hA
  have hi : ii.toNat < xs.length := by omega
  obtain ⟨hl, hR2⟩ := hR
  rcases hR2 with ⟨h2, _⟩ | ⟨g, cap, cur, h2, hg, hlc, hcm, hsz, htk, rfl⟩
  · rw [h2] at hv; cases hv
  · rw [h2] at hv
    simp only [Value.slice.injEq, Option.some.injEq] at hv
    obtain ⟨rfl, rfl, rfl⟩ := hv
    have hgc := hcol g (by simp)
    have hgl : g < s.w.heap.size := hg.lt
    have hmul : (ii.toNat + 1) * K.n ≤ xs.length * K.n := Nat.mul_le_mul_right _ hi
    rw [Nat.add_mul, Nat.one_mul] at hmul
    have hcapm : xs.length * K.n ≤ cap * K.n := Nat.mul_le_mul_right _ hlc
    have hst := storeCells_hr P g (ii.toNat * K.n) te vs 0 cur s.w hg (by rw [hvl, hsz]; omega) hv1
    simp only [Nat.add_zero] at hst
    have had : (⟨g, 0, none⟩ : Addr).add (ii.toNat * K.n) = ⟨g, ii.toNat * K.n, none⟩ := by rw [Addr.add_mid, Nat.zero_add]
    rw [had] at hx
    have hrun : (Instr.storeAt t (.pointer (some ⟨g, ii.toNat * K.n, none⟩)) (ev e y)).run P s.w = .ok () (s.w.setRow g (cur.toList.take (ii.toNat * K.n) ++ vs ++ cur.toList.drop (ii.toNat * K.n + vs.length)).toArray) := by
      unfold Instr.storeAt
      rw [Sem.run_bind']
      simp only [Instr.sureAddr, Sem.run_pure, Result.andThen]
      unfold storeVar
      rw [Sem.run_bind', size_run hs]
      simp only [Result.andThen, hy]
      simp [hvl]
      simp [hvl] at hst
      exact hst
    refine vd (w' := s.w.setRow g (cur.toList.take (ii.toNat * K.n) ++ vs ++ cur.toList.drop (ii.toNat * K.n + vs.length)).toArray) ho hd hw (by simp [execOp, hop, hx, hrun, Result.andThen]) (h ⟨_, s.g⟩ ⟨rfl, rfl, rfl, by simp, fun _ _ _ => rfl, fun b hb hm => ⟨rfl, ?_⟩⟩ ?_)
    · refine setRow_other s.w g b _ fun e => ?_
      rw [e, hgc] at hm; simp [memb] at hm
    · have hoth : ∀ b, b ≠ g → (s.w.setRow g (cur.toList.take (ii.toNat * K.n) ++ vs ++ cur.toList.drop (ii.toNat * K.n + vs.length)).toArray).heap[b]? = s.w.heap[b]? := fun b hb => setRow_other s.w g b _ hb
      have hsub : ∀ n, memb C n = true → memb (C ++ D) n = true := fun n hn => memb_iff.2 (List.mem_append_left _ (memb_iff.1 hn))
      have hsub' : ∀ n, memb D n = true → memb (C ++ D) n = true := fun n hn => memb_iff.2 (List.mem_append_right _ (memb_iff.1 hn))
      have hne : ∀ b, memb (C ++ D) (s.g b) = true → b ≠ g := fun b hb e => by rw [e, hgc] at hb; rw [hb] at hc; cases hc
      have hset := (hE.mono fun b hb _ => hsub _ hb).set ii.toNat hi (K.rd_mono hX fun b hb _ => hsub' _ hb)
      have hset' := hset.frame (w' := s.w.setRow g (cur.toList.take (ii.toNat * K.n) ++ vs ++ cur.toList.drop (ii.toNat * K.n + vs.length)).toArray) fun b hb _ => hoth b (hne b hb)
      refine ⟨_, [g], ⟨?_, .inr ⟨g, cap, _, by rw [List.length_set]; exact h2, hg.row3 _ _ (by rw [hvl, hsz]; omega), by simpa using hlc, hcm, ?_, ?_, rfl⟩⟩, hcol, hset'⟩
      · simp only [List.length_set, List.length_append, List.length_take, List.length_drop, hvl, hl, Nat.add_mul, Nat.one_mul]
        omega
      · simp only [List.size_toArray, List.length_append, List.length_take, List.length_drop, Array.length_toList, hvl, hsz]
        omega
      · rw [List.length_set, ← htk, hvl, Nat.add_mul, Nat.one_mul]
        have e2 : (cur.toList.take (xs.length * K.n)).take (ii.toNat * K.n) = cur.toList.take (ii.toNat * K.n) := by rw [List.take_take]; congr 1; omega
        have e3 : (cur.toList.take (xs.length * K.n)).drop (ii.toNat * K.n + K.n) = (cur.toList.drop (ii.toNat * K.n + K.n)).take (xs.length * K.n - (ii.toNat * K.n + K.n)) := by rw [List.drop_take]
        rw [e2, e3]
        have hla : (cur.toList.take (ii.toNat * K.n) ++ vs).length = ii.toNat * K.n + K.n := by
          rw [List.length_append, List.length_take, Array.length_toList, hvl, hsz]; omega
        rw [List.take_append, List.take_of_length_le (by omega), hla]
end
end Go.Proofs.Ytlpbggnpiogioaa.V
set_option linter.unusedVariables false
set_option linter.unusedSimpArgs false
namespace Go.Proofs.Ytlpbggnpiogioaa.V
open Go
section
variable {P : Program} {f : Who} {N : Nat} {O ρ : Type} {m : Option O} {G : O → Option ρ} {R : ρ → Ending → World → Prop} {e : Env} {s : St} {k : List Item} {ops : Array Oper} {i d : Nat} {rest : List Nat} {o : Oper}
end
end Go.Proofs.Ytlpbggnpiogioaa.V
set_option linter.unusedVariables false
set_option linter.unusedSimpArgs false
namespace Go.Proofs.Ytlpbggnpiogioaa.V
open Go
section
variable {P : Program} {f : Who} {N : Nat} {O ρ : Type} {m : Option O} {G : O → Option ρ} {R : ρ → Ending → World → Prop} {e : Env} {k : List Item} {ops : Array Oper}
variable {s : St} {i d : Nat} {rest : List Nat} {o : Oper}
end
end Go.Proofs.Ytlpbggnpiogioaa.V
set_option linter.unusedVariables false
set_option linter.unusedSimpArgs false
namespace Go.Proofs.Ytlpbggnpiogioaa.V
open Go
theorem rw_cells {α : Type} [Inhabited α] {K : Kd α} {te : TypeId} {s : St} {v : Value} {xs : List α} {c : Nat} {C : List Nat} {ii : Int} {ad : Addr} {es : List Value} (hO : RwF te K s v xs c C) (h0 : 0 ≤ ii) (h1 : ii < xs.length) (hA : IxA v K.n ii ad) (hel : es.length = K.n)
    (hC : ∀ j u, es[j]? = some u → s.w.cell? (ad.add j) = some u) : RdF K s es (at_ xs ii) C := by
  obtain ⟨cells, os, hR, hcol, hE⟩ := hO
  obtain ⟨Aa, l, cap2, hv, rfl⟩ := hA
  have hi : ii.toNat < xs.length := by omega
  obtain ⟨hl, hR2⟩ := hR
  rcases hR2 with ⟨h2, _⟩ | ⟨g, cap, cur, h2, hg, hlc, hcm, hsz, htk, rfl⟩
  · rw [h2] at hv; cases hv
  rw [h2] at hv
  simp only [Value.slice.injEq, Option.some.injEq] at hv
  obtain ⟨rfl, rfl, rfl⟩ := hv
  have hmul : (ii.toNat + 1) * K.n ≤ xs.length * K.n := Nat.mul_le_mul_right _ hi
  rw [Nat.add_mul, Nat.one_mul] at hmul
  have hK := hE.at_ ii.toNat hi
  have hchunk : (cells.drop (ii.toNat * K.n)).take K.n = es := by
    apply List.ext_getElem?
    intro j
    by_cases hj : j < K.n
    · have hcell := hC j es[j] (List.getElem?_eq_getElem (by omega))
      rw [Addr.add_add', Addr.add_mid, Nat.zero_add] at hcell
      have hw2 : s.w.cell? ⟨g, ii.toNat * K.n + j, none⟩ = cur[ii.toNat * K.n + j]? := hg.cell _
      rw [hw2, ← Array.getElem?_toList] at hcell
      rw [List.getElem?_take, if_pos hj, List.getElem?_drop, ← htk, List.getElem?_take, if_pos (by omega), hcell, List.getElem?_eq_getElem (by omega)]
    · rw [List.getElem?_eq_none (by simp; omega), List.getElem?_eq_none (by omega)]
  rw [hchunk] at hK
  rw [at_eq xs ii hi]
  exact hK
theorem rw_sharp {α : Type} [Inhabited α] {K : Kd α} {te : TypeId} {s : St} {v : Value} {xs : List α} {c : Nat} {C D E : List Nat} {ii : Int} {ad : Addr} {es : List Value} (hO : RwF te K s v xs c C) (h0 : 0 ≤ ii) (h1 : ii < xs.length) (hA : IxA v K.n ii ad) (hC : CeF s ad es D) (hX : RdF K s es (at_ xs ii) E) : RdF K s es (at_ xs ii) C :=
 rw_cells hO h0 h1 hA (K.rd_len hX) hC.2
theorem lsn {α : Type} [Inhabited α] {K : Kd α} {te : TypeId} {s : St} {v : Value} {xs : List α} {c : Nat} (c2 : Nat) (hO : OwF (Kd.sl te K) s [v] xs c) (h40 : Nat.ble 40 c = true) :
    ∃ s' : St, s.w = s'.w ∧ Stp [c] s s' ∧ RwF te K s' v xs c [c2] ∧ ∀ (ii : Int) (ad : Addr) (es : List Value) (D E : List Nat), 0 ≤ ii → ii < xs.length → IxA v K.n ii ad → CeF s ad es D → RdF K s es (at_ xs ii) E → RdF K s' es (at_ xs ii) [c2] := by
  have h40' := Nat.le_of_ble_eq_true h40
  obtain ⟨os, ⟨v1, e1, cells, o1, o2, rfl, hR, hE⟩, hnd, hcol⟩ := hO
  obtain rfl : v = v1 := by simpa using e1
  have key : ∃ s' : St, s.w = s'.w ∧ Stp [c] s s' ∧ RwF te K s' v xs c [c2] := by
    refine ⟨⟨s.w, fun b => open Classical in if b ∈ o2 then c2 else s.g b⟩, rfl, ⟨rfl, rfl, rfl, Nat.le_refl _, fun b hb hl => ?_, fun b hb hm => ⟨?_, rfl⟩⟩, cells, o1, hR, fun b hb => ?_, hE.rd.mono fun b hb _ => ?_⟩
    · have : b ∉ o2 := fun h => by have := hcol b (List.mem_append_right _ h); omega
      simp [this]
    · have : b ∉ o2 := fun h => by rw [hcol b (List.mem_append_right _ h)] at hm; simp [memb] at hm
      simp [this]
    · have : b ∉ o2 := fun h => (List.nodup_append.1 hnd).2.2 b hb b h rfl
      simp only [if_neg this]
      exact hcol b (List.mem_append_left _ hb)
    · simp [memb, hb]
  obtain ⟨s', hw, p, hrw⟩ := key
  refine ⟨s', hw, p, hrw, fun ii ad es D E h0 h1 hA hC hX => rw_cells hrw h0 h1 hA (K.rd_len hX) ?_⟩
  rw [← hw]; exact hC.2
abbrev RT {ρ : Type} (Q : ρ → Value → World → Prop) (r : ρ) (en : Ending) (w' : World) : Prop := ∃ v, en = .returned v ∧ Q r v w'
end Go.Proofs.Ytlpbggnpiogioaa.V
set_option linter.unusedVariables false
set_option linter.unusedSimpArgs false
namespace Go.Proofs.Ytlpbggnpiogioaa.V
open Go
def CutV (n L : Nat) (v : Value) (a b : Nat) (v' : Value) : Prop := ∃ A cap, v = .slice A L cap ∧ a ≤ b ∧ b ≤ cap ∧ v' = .slice (if cap = a then A else A.map (·.add (a * n))) (b - a) (cap - a)
def CapV (v : Value) (N : Nat) : Prop := ∃ A l cap, v = .slice A l cap ∧ N ≤ cap
section
variable {α : Type} {K : Kd α} {te : TypeId} {s : St} {v v' : Value} {xs : List α} {c : Nat}
theorem cut_e (hO : OwF (Kd.sl te K) s [v] xs c) {a b : Nat} (hab : a ≤ b) (hb : b ≤ xs.length) : ∃ v', CutV K.n xs.length v a b v' := by
 obtain ⟨os, ⟨v1, e1, cells, o1, o2, rfl, hR, hE⟩, hnd, hcol⟩ := hO
 obtain rfl : v = v1 := by simpa using e1
 rcases hR.2 with ⟨rfl, h2, _⟩ | ⟨g, cap, cur, rfl, _, hnc, _⟩
 · exact ⟨_, none, 0, by rw [h2], hab, by omega, rfl⟩
 · exact ⟨_, _, cap, rfl, hab, by omega, rfl⟩
theorem cut_m (hO : OwF (Kd.sl te K) s [v] xs c) {a b N : Nat} (hC : CapV v N) (hab : a ≤ b) (hb : b ≤ N) : ∃ v', CutV K.n xs.length v a b v' := by
 obtain ⟨os, ⟨v1, e1, cells, o1, o2, rfl, hR, hE⟩, hnd, hcol⟩ := hO
 obtain rfl : v = v1 := by simpa using e1
 obtain ⟨A, l, cap, e2, hN⟩ := hC
 rcases hR.2 with ⟨rfl, h2, _⟩ | ⟨g, cap', cur, rfl, _, hnc, _⟩
 · simp only [Value.slice.injEq] at e2
   exact ⟨_, none, 0, by rw [h2], hab, by omega, rfl⟩
 · simp only [Value.slice.injEq] at e2
   exact ⟨_, _, cap', rfl, hab, by omega, rfl⟩
theorem cap_e (hO : OwF (Kd.sl te K) s [v] xs c) : CapV v xs.length := by
 obtain ⟨os, ⟨v1, e1, cells, o1, o2, rfl, hR, hE⟩, hnd, hcol⟩ := hO
 obtain rfl : v = v1 := by simpa using e1
 rcases hR.2 with ⟨rfl, h2, _⟩ | ⟨g, cap, cur, rfl, _, hnc, _⟩
 · exact ⟨_, _, _, rfl, by omega⟩
 · exact ⟨_, _, _, rfl, hnc⟩
theorem cut_rdf (hO : OwF (Kd.sl te K) s [v] xs c) {a : Nat} (hC : CutV K.n xs.length v a xs.length v') : RdF (Kd.sl te K) s [v'] (xs.drop a) [c] := by
 obtain ⟨v1, e1, A, cap, cells, hv, hcap, hels, hc⟩ := hO.rd
 obtain rfl : v = v1 := by simpa using e1
 obtain ⟨A', cap', e2, hab, hb, rfl⟩ := hC
 rw [hv] at e2
 simp only [Value.slice.injEq, true_and] at e2
 obtain ⟨rfl, rfl⟩ := e2
 have := cut_rd (K := K) (F := fun b => memb [c] (s.g b) = true) ⟨A, cap, cells, rfl, hcap, hels, hc⟩ hab (Nat.le_refl _)
 rw [List.take_length] at this
 exact ⟨_, rfl, this⟩
theorem cut_ow (hK : FlK K) (hO : OwF (Kd.sl te K) s [v] xs c) {b : Nat} (hb : b ≤ xs.length) (hC : CutV K.n xs.length v 0 b v') : OwF (Kd.sl te K) s [v'] (xs.take b) c ∧ CapV v' xs.length := by
 obtain ⟨os, ⟨v1, e1, cells, o1, o2, rfl, hR, hE⟩, hnd, hcol⟩ := hO
 obtain rfl : v = v1 := by simpa using e1
 obtain ⟨A, cap', e2, _, hbc, rfl⟩ := hC
 have hE2 := hE.rd.take b
 have hlt : (xs.take b).length = b := by simp; omega
 have hA : ∀ B : Option Addr, (if cap' = 0 then B else Option.map (fun a : Addr => a.add (0 * K.n)) B) = B := fun B => by
  split
  · rfl
  · cases B <;> simp [add_zero]
 rw [hA, Nat.sub_zero, Nat.sub_zero]
 rcases hR.2 with ⟨e3, h2, rfl⟩ | ⟨g, cap, cur, e3, hg2, hnc, hcm, hcs, htake, rfl⟩
 · rw [e3] at e2
   simp only [Value.slice.injEq] at e2
   obtain ⟨rfl, _, rfl⟩ := e2
   have hb0 : b = 0 := by omega
   subst hb0
   exact ⟨ow_nil te K s c, ⟨_, _, _, rfl, by omega⟩⟩
 · rw [e3] at e2
   simp only [Value.slice.injEq, true_and] at e2
   obtain ⟨rfl, rfl⟩ := e2
   refine ⟨⟨[g] ++ [], ⟨_, rfl, cells.take (b * K.n), [g], [], rfl, ?_, hK.els _ hE2⟩, by simp, fun b' hb' => hcol b' (by simp at hb'; simp [hb'])⟩, ⟨_, _, _, rfl, hnc⟩⟩
   have hmul : b * K.n ≤ xs.length * K.n := Nat.mul_le_mul_right _ hb
   rw [hlt]
   refine ⟨by rw [List.length_take, hR.1]; omega, .inr ⟨g, cap, cur, rfl, hg2, by omega, hcm, hcs, ?_, rfl⟩⟩
   rw [← htake, List.take_take]
   congr 1
   omega
end
section
variable {P : Program} {f : Who} {N : Nat} {O ρ : Type} {m : Option O} {G : O → Option ρ} {R : ρ → Ending → World → Prop} {e : Env} {s : St} {k : List Item} {ops : Array Oper} {i d : Nat} {rest : List Nat} {o : Oper}
theorem cutRun {w : World} {t te n L : Nat} {v v' : Value} {a b : Nat} {lo hi : Option Value} (hC : CutV n L v a b v') (hu : P.underlying t = some (.slice te)) (hs : (P.info? te).map (·.size) = some n)
    (hlo : (lo = none ∧ a = 0) ∨ ∃ k, lo = some (.int k a)) (hhi : (hi = none ∧ b = L) ∨ ∃ k, hi = some (.int k b)) : (Instr.sliceAt t v lo hi none).run P w = .ok v' w := by
  obtain ⟨A, cap, rfl, hab, hb, rfl⟩ := hC
  exact cut_run hu hs hab hb hlo hhi
theorem slA_q {t te n L : Nat} {v v' : Value} {a : Int} {k1 : IntKind} {x p : Operand} (h0 : 0 ≤ a) (hC : CutV n L v a.toNat L v') (hu : P.underlying t = some (.slice te)) (hs : (P.info? te).map (·.size) = some n)
    (ho : ops[i]? = some o) (hd : o.dst = some d) (hN : Nat.blt d N = true) (hw : Region.wanted o (yv e ops) = true) (hop : o.op = .slice t x (some p) none none) (hx : ev e x = v) (hp : ev e p = .int k1 a) : Qv P N ops e s.w i d v' := by
  have hr := cutRun (P := P) (w := s.w) (lo := some (.int k1 a)) (hi := none) hC hu hs (.inr ⟨k1, by rw [Int.toNat_of_nonneg h0]⟩) (.inl ⟨rfl, rfl⟩)
  exact ⟨o, ho, hd, hN, by simp only [selB, hop], .inl ⟨hw, by simp [execOp, hop, hx, hp, hr, Result.andThen]⟩⟩
theorem slH_q {t te n L : Nat} {v v' : Value} {b : Int} {k1 : IntKind} {x p : Operand} (h0 : 0 ≤ b) (hC : CutV n L v 0 b.toNat v') (hu : P.underlying t = some (.slice te)) (hs : (P.info? te).map (·.size) = some n)
    (ho : ops[i]? = some o) (hd : o.dst = some d) (hN : Nat.blt d N = true) (hw : Region.wanted o (yv e ops) = true) (hop : o.op = .slice t x none (some p) none) (hx : ev e x = v) (hp : ev e p = .int k1 b) : Qv P N ops e s.w i d v' := by
  have hr := cutRun (P := P) (w := s.w) (lo := none) (hi := some (.int k1 b)) hC hu hs (.inl ⟨rfl, rfl⟩) (.inr ⟨k1, by rw [Int.toNat_of_nonneg h0]⟩)
  exact ⟨o, ho, hd, hN, by simp only [selB, hop], .inl ⟨hw, by simp [execOp, hop, hx, hp, hr, Result.andThen]⟩⟩
theorem slB_ {t te n L : Nat} {v v' : Value} {a b : Int} {k1 k2 : IntKind} {x p q : Operand} (h0 : 0 ≤ a) (h1 : 0 ≤ b) (hC : CutV n L v a.toNat b.toNat v') (hu : P.underlying t = some (.slice te)) (hs : (P.info? te).map (·.size) = some n)
    (ho : ops[i]? = some o) (hd : o.dst = some d) (hN : Nat.blt d N = true) (hw : Region.wanted o (yv e ops) = true) (hop : o.op = .slice t x (some p) (some q) none) (hx : ev e x = v) (hp : ev e p = .int k1 a) (hq : ev e q = .int k2 b)
    (h : TM P f N m G R (.inRegion ops rest :: k) (upd e d v') s.w) : TM P f N m G R (.inRegion ops (i :: rest) :: k) e s.w := by
  have hr := cutRun (P := P) (w := s.w) (lo := some (.int k1 a)) (hi := some (.int k2 b)) hC hu hs (.inr ⟨k1, by rw [Int.toNat_of_nonneg h0]⟩) (.inr ⟨k2, by rw [Int.toNat_of_nonneg h1]⟩)
  exact vl ho hd hN hw (by simp [execOp, hop, hx, hp, hq, hr, Result.andThen]) h
theorem sl3_ {α : Type} {K : Kd α} {t te : Nat} {v : Value} {xs : List α} {cc : Nat} {a b c : Int} {k1 k2 k3 : IntKind} {x p q r : Operand} (hO : OwF (Kd.sl te K) s [v] xs cc) (hu : P.underlying t = some (.slice te)) (hs : (P.info? te).map (·.size) = some K.n)
    (ho : ops[i]? = some o) (hd : o.dst = some d) (hN : Nat.blt d N = true) (hw : Region.wanted o (yv e ops) = true) (hop : o.op = .slice t x (some p) (some q) (some r)) (hx : ev e x = v) (hp : ev e p = .int k1 a) (hq : ev e q = .int k2 b) (hr : ev e r = .int k3 c)
    (h : ∀ v', TM P f N m G R (.inRegion ops rest :: k) (upd e d v') s.w) : TM P f N (if 0 ≤ a ∧ a ≤ b ∧ b ≤ c ∧ c ≤ (xs.length : Int) then m else none) G R (.inRegion ops (i :: rest) :: k) e s.w := by
  refine mg fun hg => ?_
  obtain ⟨A, l, cap, rfl, hcap⟩ := cap_e hO
  obtain ⟨a, rfl⟩ := Int.eq_ofNat_of_zero_le hg.1
  obtain ⟨b, rfl⟩ := Int.eq_ofNat_of_zero_le (show 0 ≤ b by omega)
  obtain ⟨c, rfl⟩ := Int.eq_ofNat_of_zero_le (show 0 ≤ c by omega)
  have hab : a ≤ b := by omega
  have hbc : b ≤ c := by omega
  have hcc : c ≤ cap := by omega
  have hb : (Instr.sliceBounds true l cap (some (.int k1 (a : Int))) (some (.int k2 (b : Int))) (some (.int k3 (c : Int)))).run P s.w = .ok (a, b, c) s.w := by
    simp [Instr.sliceBounds, Instr.sliceBound, asIntOf, Result.andThen, hab, hbc, hcc]
  have hrun : ∃ v', (Instr.sliceAt t (.slice A l cap) (some (.int k1 (a : Int))) (some (.int k2 (b : Int))) (some (.int k3 (c : Int)))).run P s.w = .ok v' s.w := by
    unfold Instr.sliceAt
    rw [Sem.run_bind', run_underlying hu]
    simp only [Result.andThen]
    unfold Instr.slice
    rw [Sem.run_bind', run_underlying hu]
    simp only [Result.andThen]
    rw [Sem.run_bind', hb]
    simp only [Result.andThen]
    rw [Sem.run_bind', size_run hs]
    simp [Result.andThen]
  obtain ⟨v', hv'⟩ := hrun
  exact vl (v := v') ho hd hN hw (by simp [execOp, hop, hx, hp, hq, hr, hv', Result.andThen]) (h v')
theorem clr_ {α : Type} {K : Kd α} {t te : TypeId} {y : Operand} {v u : Value} {xs : List α} {c a b : Nat} {z : Value} {x0 : α} (hK : FlK K) (hO : OwF (Kd.sl te K) s [v] xs c) (hC : CutV K.n xs.length v a b u) (ha : a ≤ xs.length) (hb : xs.length ≤ b)
    (hu : P.underlying t = some (.slice te)) (hz : (P.info? te).bind (·.zero) = some z) (hzs : Nat.beq z.cells.size K.n = true) (hn : Nat.ble 1 K.n = true) (h0 : ∀ w, K.ow w z.cells.toList x0 [])
    (ho : ops[i]? = some o) (hd : o.dst = none) (hw : Region.wanted o (yv e ops) = true) (hop : o.op = .call { callee := .builtin .clear, args := #[y], argTypes := #[t] }) (hy : ev e y = u)
    (h : ∀ s', Stp [c] s s' → OwF (Kd.sl te K) s' [v] (xs.take a ++ List.replicate (xs.length - a) x0) c → TM P f N m G R (.inRegion ops rest :: k) e s'.w) : TM P f N m G R (.inRegion ops (i :: rest) :: k) e s.w := by
  have hzs' := Nat.eq_of_beq_eq_true hzs
  have hn' := Nat.le_of_ble_eq_true hn
  have hrefl : Stp [c] s s := ⟨rfl, rfl, rfl, Nat.le_refl _, fun _ _ _ => rfl, fun _ _ _ => ⟨rfl, rfl⟩⟩
  have hO' := hO
  obtain ⟨os, ⟨v1, e1, cells, o1, o2, rfl, hR, hE⟩, hnd, hcol⟩ := hO
  obtain rfl : v = v1 := by simpa using e1
  obtain ⟨A, cap', e2, hab, hbc, rfl⟩ := hC
  have noop : a = b → (Builtin.clear_ #[t] o.type #[.slice (if cap' = a then A else A.map (·.add (a * K.n))) (b - a) (cap' - a)]).run P s.w = .ok (.tuple #[]) s.w := fun hab' => by
    subst hab'
    rw [Nat.sub_self]
    unfold Builtin.clear_
    generalize (if cap' = a then A else A.map (·.add (a * K.n))) = B
    cases B <;> simp [run_underlying hu, Result.andThen]
  have noop2 : a = b → TM P f N m G R (.inRegion ops (i :: rest) :: k) e s.w := fun hab' => by
    have hr := noop hab'
    refine TM.of (fun _ h => T_value0 (v := .tuple #[]) (w' := s.w) ho hd hw (by simp [execOp, hop, resolve, invoke, builtin, hy, hr, Result.andThen]) h) (h s hrefl ?_)
    have : a = xs.length := by omega
    subst this
    rw [List.take_length, Nat.sub_self]; simpa using hO'
  rcases hR.2 with ⟨e3, h2, _⟩ | ⟨g, cap, cur, e3, hg, hlc, hcm, hsz, htk, rfl⟩
  · rw [e3] at e2
    simp only [Value.slice.injEq] at e2
    exact noop2 (by omega)
  by_cases hab' : a = b
  · exact noop2 hab'
  rw [e3] at e2
  simp only [Value.slice.injEq, true_and] at e2
  obtain ⟨rfl, rfl⟩ := e2
  have hac : ¬ cap = a := by omega
  rw [if_neg hac] at hy
  simp only [Option.map_some, Addr.add_mid, Nat.zero_add] at hy
  have hzE : ∀ w l, ElsO K w (List.replicate l x0) (Builtin.zeroCells z.cells l).toList [] := fun w l => by rw [zero_made, hzs']; exact made_els hzs' hn' h0 w l
  have hzl : (Builtin.zeroCells z.cells (b - a)).toList.length = (b - a) * K.n := by rw [Array.length_toList, size_zeroCells, hzs']
  have hm1 : a * K.n ≤ b * K.n := Nat.mul_le_mul_right _ hab
  have hm2 : b * K.n ≤ cap * K.n := Nat.mul_le_mul_right _ hbc
  have hm3 : a * K.n ≤ xs.length * K.n := Nat.mul_le_mul_right _ ha
  have hm4 : xs.length * K.n ≤ b * K.n := Nat.mul_le_mul_right _ hb
  have hsub : (b - a) * K.n = b * K.n - a * K.n := Nat.sub_mul _ _ _
  have hst := storeCells_hr P g (a * K.n) te (Builtin.zeroCells z.cells (b - a)).toList 0 cur s.w hg (by rw [hzl, hsz]; omega) (hzE s.w (b - a)).rd.one
  simp only [Nat.add_zero, hzl] at hst
  have hrun : (Builtin.clear_ #[t] o.type #[.slice (some ⟨g, a * K.n, none⟩) (b - a) (cap - a)]).run P s.w = .ok (.tuple #[]) (s.w.setRow g (cur.toList.take (a * K.n) ++ (Builtin.zeroCells z.cells (b - a)).toList ++ cur.toList.drop (a * K.n + (b - a) * K.n)).toArray) := by
    obtain ⟨q, hq⟩ : ∃ q, b - a = q + 1 := ⟨b - a - 1, by omega⟩
    rw [hq] at hst ⊢
    simp [Builtin.clear_, run_underlying hu, zero_run hz, hst, Result.andThen]
  refine TM.of (fun _ h => T_value0 (v := .tuple #[]) (w' := s.w.setRow g (cur.toList.take (a * K.n) ++ (Builtin.zeroCells z.cells (b - a)).toList ++ cur.toList.drop (a * K.n + (b - a) * K.n)).toArray) ho hd hw (by simp [execOp, hop, resolve, invoke, builtin, hy, hrun, Result.andThen]) h) (h ⟨_, s.g⟩ ⟨rfl, rfl, rfl, by simp, fun _ _ _ => rfl, fun b' hb' hm => ⟨rfl, setRow_other s.w g b' _ fun e => ?_⟩⟩ ?_)
  · rw [e, hcol g (by simp)] at hm; simp [memb] at hm
  · have hcl : cells.length = xs.length * K.n := hR.1
    have hlen : (xs.take a ++ List.replicate (xs.length - a) x0).length = xs.length := by simp; omega
    have hE1 := ((hE.rd.take a).mono (F' := fun _ => True) fun _ _ _ => trivial).append ((hzE s.w (xs.length - a)).rd.mono (F' := fun _ => True) fun _ _ _ => trivial)
    have hE2 := hK.els (s.w.setRow g (cur.toList.take (a * K.n) ++ (Builtin.zeroCells z.cells (b - a)).toList ++ cur.toList.drop (a * K.n + (b - a) * K.n)).toArray) hE1
    refine ⟨[g] ++ [], ⟨v, rfl, _, [g], [], rfl, ⟨?_, .inr ⟨g, cap, _, by rw [hlen]; exact e3, (by have := hg.row3 (a * K.n) (Builtin.zeroCells z.cells (b - a)).toList (by rw [hzl, hsz]; omega); rw [hzl] at this; exact this), by rw [hlen]; exact hlc, hcm, ?_, ?_, rfl⟩⟩, hE2⟩, by simp, fun b' hb' => hcol b' (by simp at hb'; simp [hb'])⟩
    · have hz2 : (Builtin.zeroCells z.cells (xs.length - a)).toList.length = (xs.length - a) * K.n := by rw [Array.length_toList, size_zeroCells, hzs']
      rw [hlen, List.length_append, List.length_take, hz2, hcl, Nat.sub_mul]; omega
    · simp only [List.size_toArray, List.length_append, List.length_take, List.length_drop, Array.length_toList, hsz, size_zeroCells, hzs']; omega
    · rw [hlen]
      have e5 : (cells.take (a * K.n)) = cur.toList.take (a * K.n) := by rw [← htk, List.take_take]; congr 1; omega
      have e6 : (Builtin.zeroCells z.cells (b - a)).toList.take (xs.length * K.n - a * K.n) = (Builtin.zeroCells z.cells (xs.length - a)).toList := by
        apply List.ext_getElem
        · have hz2 : (Builtin.zeroCells z.cells (xs.length - a)).toList.length = (xs.length - a) * K.n := by rw [Array.length_toList, size_zeroCells, hzs']
          have hsub2 : (xs.length - a) * K.n = xs.length * K.n - a * K.n := Nat.sub_mul _ _ _
          rw [List.length_take, hzl, hz2, hsub, hsub2]; omega
        · intro j h1 h2
          simp [Builtin.zeroCells]
      rw [e5]
      have hla : (cur.toList.take (a * K.n)).length = a * K.n := by rw [List.length_take, Array.length_toList, hsz]; omega
      rw [List.append_assoc, List.take_append, hla, List.take_of_length_le (by rw [hla]; omega), List.take_append, hzl, e6, show xs.length * K.n - a * K.n - (b - a) * K.n = 0 by omega, List.take_zero, List.append_nil]
theorem apIn {α : Type} {K : Kd α} {t te : TypeId} {x y : Operand} {v u : Value} {xs ys : List α} {c M : Nat} {C : List Nat} (hK : FlK K) (hT : SlT P t te K.n) (hD : OwF (Kd.sl te K) s [v] xs c) (hM : CapV v M) (hS : RdF (Kd.sl te K) s [u] ys C)
    (ho : ops[i]? = some o) (hd : o.dst = some d) (hN : Nat.blt d N = true) (hw : Region.wanted o (yv e ops) = true) (hop : o.op = .call { callee := .builtin .append, args := #[x, y], argTypes := #[t, t] }) (hx : ev e x = v) (hy : ev e y = u)
    (h : ∀ v' s', Stp [c] s s' → OwF (Kd.sl te K) s' [v'] (xs ++ ys) c → CapV v' M → TM P f N m G R (.inRegion ops rest :: k) (upd e d v') s'.w) :
    TM P f N (if xs.length + ys.length ≤ M ∧ xs.length + ys.length ≤ Lim then m else none) G R (.inRegion ops (i :: rest) :: k) e s.w := by
  refine mg fun hl => ?_
  obtain ⟨hl1, hl2⟩ := hl
  obtain ⟨os, ⟨v1, e1, cells, o1, o2, rfl, hR, hE⟩, hnd, hcol⟩ := hD
  obtain rfl : v = v1 := by simpa using e1
  obtain ⟨u1, e2, hS⟩ := hS
  obtain rfl : u = u1 := by simpa using e2
  obtain ⟨cells', hSv, hE'⟩ := hS.slv
  obtain ⟨v', w', hr, hR', hg, hb⟩ := append_core (P := P) (ty := o.type) hT hR hSv hl2
  -- the room serves
  have hcap : CapV v' M := by
    obtain ⟨A, l, cap, e3, hMc⟩ := hM
    rcases hR.2 with ⟨e4, h2, _⟩ | ⟨g, cap2, cur, e4, hgg, hlc, hcm, hsz, htk, ho1⟩
    · rw [e4] at e3
      simp only [Value.slice.injEq] at e3
      have hM0 : M = 0 := by omega
      rcases hR'.2 with ⟨e5, _⟩ | ⟨g', cap', cur', e5, _, h5, _⟩
      · exact ⟨_, _, _, e5, by omega⟩
      · exact ⟨_, _, _, e5, by omega⟩
    · rw [e4] at e3
      simp only [Value.slice.injEq] at e3
      obtain ⟨_, _, rfl⟩ := e3
      obtain ⟨hu, z, by_, hi, hz, hn, hbb⟩ := hT
      obtain ⟨Ay, capy, rfl, hlen, hone, hc⟩ := hSv
      obtain ⟨ti, hti, hzz⟩ := Option.map_eq_some_iff.1 hi
      simp only [Prod.mk.injEq] at hzz
      cases Ay with
      | none =>
        have hnil : cells' = [] := by
          cases cells' with
          | nil => rfl
          | cons u us =>
            obtain ⟨ad, h, _⟩ := hc (by simp)
            cases h
        have hy0 : ys.length = 0 := by
          rw [hnil] at hlen
          rcases Nat.mul_eq_zero.1 (show ys.length * K.n = 0 from hlen.symm) with h | h
          · exact h
          · omega
        rw [hy0] at hr
        have hr2 := append_none_run (P := P) (w := s.w) t o.type te _ _ _ capy _ hu (by rw [hti]; simp [hzz.2.1]) hR
        rw [hr2] at hr
        cases hr
        exact ⟨_, _, _, e4, hMc⟩
      | some ad =>
        have hnews : ∀ j u, cells'[j]? = some u → s.w.cell? (ad.add j) = some u := fun j u hj => by
          obtain ⟨ad', e, h⟩ := hc (fun h => by rw [h] at hj; simp at hj)
          obtain rfl := Option.some.inj e
          exact h j u hj
        have hmul : (xs.length + ys.length) * K.n ≤ cap2 * K.n := Nat.mul_le_mul_right _ (by omega)
        rw [Nat.add_mul] at hmul
        have hcell : ∀ j, j < cells'.length → s.w.cell? ⟨g, 0 + xs.length * K.n + j, none⟩ = cur[xs.length * K.n + j]? := fun j hj => by rw [Nat.zero_add]; exact hgg.cell _
        have hr2 := run_append_room_cells (P := P) s.w t o.type te ti hu hti g 0 xs.length cap2 ad ys.length capy cells' (by rw [hzz.2.1]; exact hlen) hnews hone (by omega) (fun j hj => by
          rw [hzz.2.1, hcell j hj, Array.getElem?_eq_getElem (by rw [hsz]; omega)]; rfl) (fun j hj => by rw [Nat.zero_add, hzz.2.1]; exact hgg.free _ (by rw [hsz]; omega))
        rw [e4, hr2] at hr
        cases hr
        exact ⟨_, _, _, rfl, hMc⟩
  refine vl (v := v') (w' := w') ho hd hN hw (by simp [execOp, hop, resolve, invoke, builtin, hx, hy, hr, Result.andThen]) ?_
  have hp : ∃ s' : St, s'.w = w' ∧ Stp [c] s s' ∧ (∀ b, b < s.w.heap.size → s'.g b = s.g b) ∧ (∀ b, s.w.heap.size ≤ b → s'.g b = c) := by
    refine ⟨⟨w', fun b => if b < s.w.heap.size then s.g b else c⟩, rfl, ⟨hg.os, hg.tape, hg.output, hg.size, fun b hb _ => by simp [hb], fun b hb hm => ⟨by simp [hb], hg.block b hb fun h => ?_⟩⟩, fun b hb => by simp [hb], fun b hb => ?_⟩
    · have := hcol b (List.mem_append_left _ (blk_own hR h.symm))
      rw [this] at hm; simp [memb] at hm
    · have : ¬ b < s.w.heap.size := by omega
      simp [this]
  obtain ⟨s', rfl, p, hold, hnew⟩ := hp
  refine h v' s' p ⟨Value.blk v' ++ [], ⟨v', rfl, cells ++ cells', Value.blk v', [], rfl, by rw [List.length_append]; exact hR', hK.els _ ((hE.rd.mono (F' := fun _ => True) fun _ _ _ => trivial).append (hE'.mono (F' := fun _ => True) fun _ _ _ => trivial))⟩, ?_, fun b hb' => ?_⟩ hcap
  · have hvn : (Value.blk v').Nodup := by unfold Value.blk; split <;> simp
    simpa using hvn
  · rw [List.append_nil] at hb'
    rcases hb b hb' with h1 | h1
    · rw [hold b (hR.lt b h1)]; exact hcol b (List.mem_append_left _ h1)
    · exact hnew b h1
end
end Go.Proofs.Ytlpbggnpiogioaa.V
set_option linter.unusedVariables false
set_option linter.unusedSimpArgs false
set_option linter.unusedSectionVars false
namespace Go.Proofs.Ytlpbggnpiogioaa.V
open Go
section
variable {α : Type} [Inhabited α]
noncomputable def dlM (z : α) (a0 : List α) (a1 : Int) (a2 : Int) : Option (List α) :=
 (if 0 ≤ a1 ∧ a1 ≤ a2 ∧ a2 ≤ (a0.length : Int) ∧ (a0.length : Int) ≤ (a0.length : Int) then (if (a1 == a2) = true then (some a0) else (if 0 ≤ a1 ∧ a1 ≤ (a0.length : Int) then (if 0 ≤ a2 ∧ a2 ≤ (a0.length : Int) then (if (a0.take (a1).toNat).length + (a0.drop (a2).toNat).length ≤ a0.length ∧ (a0.take (a1).toNat).length + (a0.drop (a2).toNat).length ≤ Lim then (if 0 ≤ (((a0.take (a1).toNat) ++ (a0.drop (a2).toNat)).length : Int) ∧ (((a0.take (a1).toNat) ++ (a0.drop (a2).toNat)).length : Int) = (((a0.take (a1).toNat) ++ (a0.drop (a2).toNat)).length : Int) ∧ (((a0.take (a1).toNat) ++ (a0.drop (a2).toNat)).length : Int) ≤ (a0.length : Int) ∧ (a0.length : Int) ≤ (a0.length : Int) then (some (((a0.take (a1).toNat) ++ (a0.drop (a2).toNat)).take ((((a0.take (a1).toNat) ++ (a0.drop (a2).toNat)).length : Int)).toNat ++ List.replicate (((a0.take (a1).toNat) ++ (a0.drop (a2).toNat)).length - ((((a0.take (a1).toNat) ++ (a0.drop (a2).toNat)).length : Int)).toNat) z)) else none) else none) else none) else none)) else none)
def dlF {β : Type} (a0 : List β) (a1 a2 : Int) : Option (List β) := if 0 ≤ a1 ∧ a1 ≤ a2 ∧ a2 ≤ (a0.length : Int) ∧ a0.length ≤ Lim then some (a0.take a1.toNat ++ a0.drop a2.toNat) else none
theorem dlM_eq (z : α) (a0 : List α) (a1 a2 : Int) (h0 : 0 ≤ a1) (h1 : a1 ≤ a2) (h2 : a2 ≤ (a0.length : Int)) (hl : a0.length ≤ Lim) : dlM z a0 a1 a2 = some (a0.take a1.toNat ++ a0.drop a2.toNat) := by
 unfold dlM
 rw [if_pos ⟨h0, h1, h2, Int.le_refl _⟩]
 by_cases h : a1 = a2
 · subst h
   rw [if_pos (by simp), List.take_append_drop]
 · have hlen : (a0.take a1.toNat ++ a0.drop a2.toNat).length ≤ a0.length := by simp; omega
   rw [if_neg (by simpa using h), if_pos ⟨h0, by omega⟩, if_pos ⟨by omega, h2⟩, if_pos (by rw [← List.length_append]; omega), if_pos ⟨by omega, rfl, by omega, Int.le_refl _⟩, Int.toNat_natCast, List.take_length, Nat.sub_self, List.replicate_zero, List.append_nil]
end
section
variable {β : Type} [Inhabited β] {K : Kd β} {te : TypeId}
def PkB (K : Kd β) (s : St) (ps : List (Pk β × List Nat)) (c : Nat) : Prop := (∀ p ∈ ps, K.ow s.w p.1.cs p.1.x p.2) ∧ ((ps.map (·.2)).flatten).Nodup ∧ ∀ b ∈ (ps.map (·.2)).flatten, s.g b = c
theorem mem_fl {ps : List (Pk β × List Nat)} {p : Pk β × List Nat} (h : p ∈ ps) {b : Nat} (hb : b ∈ p.2) : b ∈ (ps.map (·.2)).flatten := List.mem_flatten.2 ⟨p.2, List.mem_map.2 ⟨p, h, rfl⟩, hb⟩
theorem PkB.st {s s' : St} {S : List Nat} {ps : List (Pk β × List Nat)} {c : Nat} (h : PkB K s ps c) (p : Stp S s s') (d : memb S c = false) : PkB K s' ps c := by
 refine ⟨fun q hq => K.ow_frame (h.1 q hq) fun b hb hl => (p.same b hl (by rw [h.2.2 b (mem_fl hq hb)]; exact d)).2, h.2.1, fun b hb => ?_⟩
 obtain ⟨l, hl, hbl⟩ := List.mem_flatten.1 hb
 obtain ⟨q, hq, rfl⟩ := List.mem_map.1 hl
 rw [(p.same b (K.ow_lt (h.1 q hq) b hbl) (by rw [h.2.2 b hb]; exact d)).1, h.2.2 b hb]
theorem pk_fw {w w' : World} {v : Value} {ps qs : List (Pk β × List Nat)} {o1 o2 : List Nat} (hn : (o1 ++ o2).Nodup) (ho : (ps.map (·.2)).flatten = o2) (hlt : ∀ b ∈ o2, b < w.heap.size) (hsl : qs.Sublist ps) (hst : ∀ p ∈ ps, K.ow w' p.1.cs p.1.x p.2)
    (hfw : FW (Kd.sl te (Kd.pk β K.n)) o1 w w' [v] (qs.map (·.1))) : FW (Kd.sl te K) (o1 ++ o2) w w' [v] (qs.map fun p => p.1.x) := by
  obtain ⟨os', ⟨v', e5, cells', p1, p2, rfl, hrow5, hels5⟩, hnd5, hsub5⟩ := hfw
  obtain rfl : v = v' := by simpa using e5
  obtain ⟨hcs5, hp2⟩ := pk_cells hels5
  subst hp2
  have hos2 : ((qs.map (·.2)).flatten).Sublist o2 := by rw [← ho]; exact flat_sub _ hsl
  refine ⟨p1 ++ (qs.map (·.2)).flatten, ⟨v, rfl, cells', p1, _, rfl, ?_, ?_⟩, ?_, fun b hb => ?_⟩
  · rw [List.length_map] at hrow5 ⊢; exact hrow5
  · rw [hcs5, List.map_map]; exact pk_back qs fun p hp => hst p (hsl.subset hp)
  · refine List.nodup_append.2 ⟨by simpa using hnd5, hos2.nodup (List.nodup_append.1 hn).2.1, fun a ha b hb hab => ?_⟩
    subst hab
    have hb2 := hos2.subset hb
    rcases hsub5 a (by simpa using ha) with h | h
    · exact (List.nodup_append.1 hn).2.2 a h a hb2 rfl
    · have := hlt a hb2
      omega
  · rcases List.mem_append.1 hb with hb | hb
    · rcases hsub5 b (by simpa using hb) with h | h
      · exact .inl (List.mem_append_left _ h)
      · exact .inr h
    · exact .inl (List.mem_append_right _ (hos2.subset hb))
theorem dlW {P : Program} {f : Nat} {D : List (Pk β) → Int → Int → Option (List (Pk β))}
    (hc : ∀ (a0 : List (Pk β)) (a1 a2 : Int) (w : World) (F : Nat → Prop) (w0 : Value) (os : List Nat) (h0 : (Kd.sl te (Kd.pk β K.n)).ow w [w0] a0 os) (hn : os.Nodup) (hF : ∀ b, F b → b ∉ os) (r : List (Pk β)) (m : D a0 a1 a2 = some r),
      Calls P f #[w0, .int .i64 a1, .int .i64 a2] w fun en w' => ∃ v, en = .returned v ∧ FW (Kd.sl te (Kd.pk β K.n)) os w w' [v] r ∧ Ky os w w')
    (hD : ∀ (a0 : List (Pk β)) (a1 a2 : Int), 0 ≤ a1 → a1 ≤ a2 → a2 ≤ (a0.length : Int) → a0.length ≤ Lim → D a0 a1 a2 = some (a0.take a1.toNat ++ a0.drop a2.toNat))
    (a0 : List β) (a1 a2 : Int) (w : World) (w0 : Value) (os : List Nat) (h0 : (Kd.sl te K).ow w [w0] a0 os) (hn : os.Nodup) (r : List β) (m : dlF a0 a1 a2 = some r) :
    Calls P f #[w0, .int .i64 a1, .int .i64 a2] w fun en w' => ∃ v, en = .returned v ∧ FW (Kd.sl te K) os w w' [v] r ∧ Ky os w w' := by
  obtain ⟨v, e1, cells, o1, o2, rfl, hrow, hels⟩ := h0
  obtain rfl : w0 = v := by simpa using e1
  obtain ⟨ps, hx, ho, hcs, hp⟩ := pk_of hels
  have hl : (ps.map (·.1)).length = a0.length := by rw [← hx]; simp
  have hn1 : o1.Nodup := (List.nodup_append.1 hn).1
  have hpk : (Kd.sl te (Kd.pk β K.n)).ow w [w0] (ps.map (·.1)) o1 := ⟨_, rfl, cells, o1, [], by simp, by rw [hl]; exact hrow, by rw [← hcs]; exact pk_els w ps hp⟩
  unfold dlF at m
  split at m
  · rename_i hg
    simp only [Option.some.injEq] at m
    subst m
    have hm := hD (ps.map (·.1)) a1 a2 hg.1 hg.2.1 (by rw [hl]; exact hg.2.2.1) (by rw [hl]; exact hg.2.2.2)
    have key := hc (ps.map (·.1)) a1 a2 w (fun b => b ∈ o2) w0 o1 hpk hn1 (fun b hb hm => (List.nodup_append.1 hn).2.2 b hm b hb rfl) _ hm
    refine key.mono fun en w' ⟨v, he, hfw, ky⟩ => ⟨v, he, ?_, ⟨ky.os, ky.tape, ky.output, ky.size, fun b hb hm => ky.same b hb fun h => hm (List.mem_append_left _ h)⟩⟩
    have hst : ∀ p ∈ ps, K.ow w' p.1.cs p.1.x p.2 := fun p hpm => K.ow_frame (hp p hpm) fun b hb hl => ky.same b hl fun hm => (List.nodup_append.1 hn).2.2 b hm b (by rw [← ho]; exact mem_fl hpm hb) rfl
    have hsl : (ps.take a1.toNat ++ ps.drop a2.toNat).Sublist ps := by
      have h1 : (ps.drop a2.toNat).Sublist (ps.drop a1.toNat) := by
        have : ps.drop a2.toNat = (ps.drop a1.toNat).drop (a2.toNat - a1.toNat) := by rw [List.drop_drop]; congr 1; omega
        rw [this]; exact List.drop_sublist _ _
      have h2 := (List.Sublist.refl (ps.take a1.toNat)).append h1
      rwa [List.take_append_drop] at h2
    have := pk_fw hn ho (fun b hb => hels.lt b hb) hsl hst (by rw [List.map_append, List.map_take, List.map_drop]; exact hfw)
    rw [List.map_append, List.map_take, List.map_drop, hx] at this
    exact this
  · cases m
end
end Go.Proofs.Ytlpbggnpiogioaa.V
set_option linter.unusedVariables false
set_option linter.unusedSimpArgs false
namespace Go.Proofs.Ytlpbggnpiogioaa.V
open Go
def cov : List Nat → List Nat → List Nat → Bool
 | [], _, _ => true
 | c :: D, E, C => (memb E c || memb C c) && cov D E C
theorem cov_out {D E C : List Nat} (h : cov D E C = true) {n : Nat} (hn : memb D n = true) : memb E n = true ∨ memb C n = true := by
 induction D with
 | nil => cases hn
 | cons c D ih =>
  simp only [cov, Bool.and_eq_true, Bool.or_eq_true] at h
  simp only [memb, Bool.or_eq_true] at hn
  rcases hn with hn | hn
  · have := Nat.eq_of_beq_eq_true hn
    subst this; exact h.1
  · exact ih h.2 hn
structure Rc (E : List Nat) (q : Nat) (s s' : St) : Prop where
 w : s.w = s'.w
 inn : ∀ b, memb E (s.g b) = true → s'.g b = q
 out : ∀ b, memb E (s.g b) = false → s'.g b = s.g b
theorem rc_all (s : St) (E : List Nat) (q : Nat) (h : E.all (Nat.ble 40 ·) = true) : ∃ s', s.w = s'.w ∧ Stp E s s' ∧ Rc E q s s' := by
 refine ⟨⟨s.w, fun b => if memb E (s.g b) = true then q else s.g b⟩, rfl, ⟨rfl, rfl, rfl, Nat.le_refl _, fun b hb hl => ?_, fun b hb hm => ⟨by simp [hm], rfl⟩⟩, ⟨rfl, fun b hb => by simp [hb], fun b hb => by simp [hb]⟩⟩
 have : ¬ memb E (s.g b) = true := fun hm => by
  have := Nat.le_of_ble_eq_true (List.all_eq_true.1 h _ (memb_iff.1 hm))
  omega
 simp [this]
theorem RdF.rc {α : Type} {K : Kd α} {s s' : St} {cs : List Value} {x : α} {D E C : List Nat} {q : Nat} (h : RdF K s cs x D) (r : Rc E q s s') (hq : memb C q = true) (hc : cov D E C = true) : RdF K s' cs x C := by
 unfold RdF at h ⊢
 rw [← r.w]
 refine K.rd_mono h fun b hb _ => ?_
 rcases cov_out hc hb with h1 | h1
 · rw [r.inn b h1]; exact hq
 · cases hm : memb E (s.g b) with
   | true => rw [r.inn b hm]; exact hq
   | false => rw [r.out b hm]; exact h1
end Go.Proofs.Ytlpbggnpiogioaa.V
set_option linter.unusedVariables false
set_option linter.unusedSimpArgs false
namespace Go.Proofs.Ytlpbggnpiogioaa.V
open Go
theorem ZN.bl {F : Nat → Prop} {ps : List (List Nat × Nat)} {s : St} (z : ZN F ps s) {b c : Nat} {t : TypeId} {cs : List Value} (hm : ([b], c) ∈ ps) (h : BlW s.w b t cs) : BlF s b t cs c := ⟨h, z.pt _ hm b (by simp)⟩
section
variable {P : Program} {N : Nat} {e : Env} {s : St} {ops : Array Oper} {i d : Nat} {o : Oper}
end
end Go.Proofs.Ytlpbggnpiogioaa.V
set_option linter.unusedVariables false
set_option linter.unusedSimpArgs false
set_option linter.unusedSectionVars false
namespace Go.Proofs.Ytlpbggnpiogioaa.V
open Go
end Go.Proofs.Ytlpbggnpiogioaa.V
set_option linter.unusedVariables false
set_option linter.unusedSimpArgs false
namespace Go.Proofs.Ytlpbggnpiogioaa.V
open Go
structure Wg (w w' : World) : Prop where
 os : w'.os = w.os
 tape : w'.tape = w.tape
 output : w'.output = w.output
 size : w.heap.size ≤ w'.heap.size
structure LpZ where
 l : Nat
 D : Nat
 lp : Loop
structure LoopF (Z : LpZ) (c : Nat) (st : LoopState) (s : St) : Prop where
 lh : s.w.heap[Z.l]? = some (.loop { Z.lp with state := st })
 dh : s.w.heap[Z.D]? = some (.deferred (some []))
 lc : s.g Z.l = c
 dc : s.g Z.D = c
 ne : Z.l ≠ Z.D
 pe : Z.lp.pending = none
theorem LoopF.st {Z : LpZ} {c : Nat} {st : LoopState} {s s' : St} {S : List Nat} (h : LoopF Z c st s) (p : Stp S s s') (d : memb S c = false) : LoopF Z c st s' := by
 have h1 := p.same Z.l (Array.getElem?_eq_some_iff.1 h.lh).1 (by rw [h.lc]; exact d)
 have h2 := p.same Z.D (Array.getElem?_eq_some_iff.1 h.dh).1 (by rw [h.dc]; exact d)
 exact ⟨h1.2.trans h.lh, h2.2.trans h.dh, h1.1.trans h.lc, h2.1.trans h.dc, h.ne, h.pe⟩
theorem LoopF.set {Z : LpZ} {c : Nat} {st : LoopState} {s : St} (h : LoopF Z c st s) (st' : LoopState) : ∃ s' : St, s'.w = s.w.putObj Z.l (.loop { Z.lp with state := st' }) ∧ Stp [c] s s' ∧ LoopF Z c st' s' := by
 refine ⟨⟨s.w.putObj Z.l (.loop { Z.lp with state := st' }), s.g⟩, rfl, ⟨rfl, rfl, rfl, by simp, fun _ _ _ => rfl, fun b hb hm => ⟨rfl, ?_⟩⟩, ⟨World.putObj_heap_same (Array.getElem?_eq_some_iff.1 h.lh).1, ?_, h.lc, h.dc, h.ne, h.pe⟩⟩
 · refine World.putObj_heap_other fun e => ?_
   subst e; rw [h.lc] at hm; simp [memb] at hm
 · exact (World.putObj_heap_other (Ne.symm h.ne)).trans h.dh
def JF {σ : Type} (J : σ → World → Prop) (s : St) (y : σ) : Prop := J y s.w
theorem Stp.ky {s s' : St} (p : Stp [] s s') : Ky [] s.w s'.w := ⟨p.os, p.tape, p.output, p.size, fun b hb _ => (p.same b hb rfl).2⟩
theorem JF.st {σ : Type} {J : σ → World → Prop} {s s' : St} {y : σ} (h : JF J s y) (hJ : ∀ y w w', J y w → Ky [] w w' → J y w') (p : Stp [] s s') : JF J s' y := hJ _ _ _ h p.ky
section
variable {P : Program} {f : Who} {N : Nat} {O ρ : Type} {m : Option O} {G : O → Option ρ} {R : ρ → Ending → World → Prop} {e : Env} {s : St} {w : World} {k : List Item} {ops : Array Oper} {i d : Nat} {rest : List Nat} {o : Oper}
end
end Go.Proofs.Ytlpbggnpiogioaa.V
set_option linter.unusedVariables false
set_option linter.unusedSimpArgs false
namespace Go.Proofs.Ytlpbggnpiogioaa.V
open Go
theorem Hr.mark {P : Program} {w : World} {g : Nat} {cur : Array Value} {e : TypeId} (h : Hr w g cur e) : (markStringish ⟨g, 0, none⟩).run P w = .ok () (w.freeze ⟨g, cur.size, none⟩ 1) ∧ Hr (w.freeze ⟨g, cur.size, none⟩ 1) g cur e ∧ (∀ b, b ≠ g → (w.freeze ⟨g, cur.size, none⟩ 1).heap[b]? = w.heap[b]?) ∧ (w.freeze ⟨g, cur.size, none⟩ 1).heap.size = w.heap.size := by
 obtain ⟨⟨lo, hi⟩, h, h2⟩ := h
 have hsh : w.shape? g = some (e, cur.size) := by unfold World.shape?; rw [h]
 refine ⟨?_, ⟨(if lo == hi then (cur.size, cur.size + 1) else (min lo cur.size, max hi (cur.size + 1))), ?_, ?_⟩, fun b hb => ?_, ?_⟩
 · simp [markStringish, hsh, Result.andThen]
 · simp only [World.freeze, Nat.one_ne_zero, if_false]
   rw [Array.getElem?_modify, if_pos rfl, h]; rfl
 · right
   split
   · exact Nat.le_refl _
   · rcases h2 with h2 | h2
     · obtain ⟨rfl, rfl⟩ := Prod.mk.inj h2
       rename_i hh; simp at hh
     · simp only at h2 ⊢; omega
 · simp only [World.freeze, Nat.one_ne_zero, if_false]
   rw [Array.getElem?_modify, if_neg (fun e => hb e.symm)]
 · simp [World.freeze]
section
variable {P : Program} {f : Who} {N : Nat} {O ρ : Type} {m : Option O} {G : O → Option ρ} {R : ρ → Ending → World → Prop} {e : Env} {s : St} {k : List Item} {ops : Array Oper} {i d : Nat} {rest : List Nat} {o : Oper}
end
end Go.Proofs.Ytlpbggnpiogioaa.V
set_option linter.unusedVariables false
set_option linter.unusedSimpArgs false
namespace Go.Proofs.Ytlpbggnpiogioaa.V
open Go
def SitF (s : St) (b : Nat) (a : ByteArray) (off : Nat) (c : Nat) : Prop := s.w.heap[b]? = some (.stringIter a off) ∧ s.g b = c
theorem SitF.st {s s' : St} {S : List Nat} {b c : Nat} {a : ByteArray} {off : Nat} (h : SitF s b a off c) (p : Stp S s s') (d : memb S c = false) : SitF s' b a off c := by
 have hb : b < s.w.heap.size := (Array.getElem?_eq_some_iff.1 h.1).1
 have := p.same b hb (by rw [h.2]; exact d)
 exact ⟨by rw [this.2]; exact h.1, by rw [this.1]; exact h.2⟩
theorem FRF.kp {α : Type} {K : Kd α} {F : Nat → Prop} {s0 s s' : St} {cs : List Value} {x : α} (h : FRF K F s0.w s.w cs x) (z : ∀ b, F b → s0.g b = 0) (p : Kp s0 s) (p' : Kp s0 s') : FRF K F s0.w s'.w cs x :=
 K.rd_mono (K.rd_frame h fun b hb _ => by rw [p'.same b hb.2 (by rw [z b hb.1]; omega), p.same b hb.2 (by rw [z b hb.1]; omega)]) fun b hb _ => hb
theorem FRF.rd {α : Type} {K : Kd α} {F : Nat → Prop} {s0 s : St} {cs : List Value} {x : α} (h : FRF K F s0.w s.w cs x) (z : ∀ b, F b → s0.g b = 0) (p : Kp s0 s) : RdF K s cs x [0] :=
 K.rd_mono h fun b hb _ => by rw [p.col b hb.2 (by rw [z b hb.1]; omega), z b hb.1]; rfl
section
variable {P : Program} {f : Who} {N : Nat} {O ρ : Type} {m : Option O} {G : O → Option ρ} {R : ρ → Ending → World → Prop} {e : Env} {s : St} {k : List Item} {ops : Array Oper} {i d : Nat} {rest : List Nat} {o : Oper}
end
end Go.Proofs.Ytlpbggnpiogioaa.V
set_option linter.unusedVariables false
set_option linter.unusedSimpArgs false
namespace Go.Proofs.Ytlpbggnpiogioaa.V
open Go
end Go.Proofs.Ytlpbggnpiogioaa.V
set_option linter.unusedVariables false
set_option linter.unusedSimpArgs false
set_option linter.unusedSectionVars false
namespace Go.Proofs.Ytlpbggnpiogioaa.V
open Go
section
variable {α : Type} [Inhabited α]
noncomputable def insM.b1 (a1 : Int) (a3 : (α → α → Option Int)) (x2 : (List α) × Int) (x6 : (List α) × Int) : Option (((List α) × Int) ⊕ ((List α) × Int ⊕ (List α))) :=
 ((if (decide (x6.2 > a1)) = true then (if 0 ≤ x6.2 ∧ x6.2 < (x6.1.length : Int) then (if 0 ≤ (IntKind.wrap .i64 (x6.2 - (1 : Int))) ∧ (IntKind.wrap .i64 (x6.2 - (1 : Int))) < (x6.1.length : Int) then ((a3 (at_ x6.1 x6.2) (at_ x6.1 (IntKind.wrap .i64 (x6.2 - (1 : Int))))).bind fun r31 => (some (decide (r31 < (0 : Int))))) else none) else none) else (some false)).bind fun y14 => (if y14 = true then (if 0 ≤ (IntKind.wrap .i64 (x6.2 - (1 : Int))) ∧ (IntKind.wrap .i64 (x6.2 - (1 : Int))) < (x6.1.length : Int) then (if 0 ≤ x6.2 ∧ x6.2 < (x6.1.length : Int) then (if 0 ≤ x6.2 ∧ x6.2 < (x6.1.length : Int) then (if 0 ≤ (IntKind.wrap .i64 (x6.2 - (1 : Int))) ∧ (IntKind.wrap .i64 (x6.2 - (1 : Int))) < ((x6.1.set (x6.2).toNat (at_ x6.1 (IntKind.wrap .i64 (x6.2 - (1 : Int))))).length : Int) then ((some ((x6.1.set (x6.2).toNat (at_ x6.1 (IntKind.wrap .i64 (x6.2 - (1 : Int))))).set ((IntKind.wrap .i64 (x6.2 - (1 : Int)))).toNat (at_ x6.1 x6.2))).bind fun y84 => (some (Sum.inl (y84, (IntKind.wrap .i64 (x6.2 - (1 : Int))))))) else none) else none) else none) else none) else ((some (Sum.inl (x6.1, (IntKind.wrap .i64 (x2.2 + (1 : Int)))))).bind fun o => some (Sum.inr o))))
noncomputable def insM.b0 (a1 : Int) (a2 : Int) (a3 : (α → α → Option Int)) (x2 : (List α) × Int) : Option (((List α) × Int) ⊕ (List α)) :=
 (if (decide (x2.2 < a2)) = true then (iter (insM.b1 a1 a3 x2) (x2.1, x2.2)) else ((some x2.1).bind fun o => some (Sum.inr o)))
noncomputable def insM.f (a0 : (List α)) (a1 : Int) (a2 : Int) (a3 : (α → α → Option Int)) : Option ((List α)) :=
 (iter (insM.b0 a1 a2 a3) (a0, (IntKind.wrap .i64 (a1 + (1 : Int)))))
noncomputable def swpM.b0 (a1 : Int) (a2 : Int) (a3 : Int) (x2 : (List α) × Int) : Option (((List α) × Int) ⊕ (List α)) :=
 (if (decide (x2.2 < a3)) = true then (if 0 ≤ (IntKind.wrap .i64 (a2 + x2.2)) ∧ (IntKind.wrap .i64 (a2 + x2.2)) < (x2.1.length : Int) then (if 0 ≤ (IntKind.wrap .i64 (a1 + x2.2)) ∧ (IntKind.wrap .i64 (a1 + x2.2)) < (x2.1.length : Int) then (if 0 ≤ (IntKind.wrap .i64 (a1 + x2.2)) ∧ (IntKind.wrap .i64 (a1 + x2.2)) < (x2.1.length : Int) then (if 0 ≤ (IntKind.wrap .i64 (a2 + x2.2)) ∧ (IntKind.wrap .i64 (a2 + x2.2)) < ((x2.1.set ((IntKind.wrap .i64 (a1 + x2.2))).toNat (at_ x2.1 (IntKind.wrap .i64 (a2 + x2.2)))).length : Int) then ((some ((x2.1.set ((IntKind.wrap .i64 (a1 + x2.2))).toNat (at_ x2.1 (IntKind.wrap .i64 (a2 + x2.2)))).set ((IntKind.wrap .i64 (a2 + x2.2))).toNat (at_ x2.1 (IntKind.wrap .i64 (a1 + x2.2))))).bind fun y47 => (some (Sum.inl (y47, (IntKind.wrap .i64 (x2.2 + (1 : Int))))))) else none) else none) else none) else none) else ((some x2.1).bind fun o => some (Sum.inr o)))
noncomputable def swpM.f (a0 : (List α)) (a1 : Int) (a2 : Int) (a3 : Int) (a4 : (α → α → Option Int)) : Option ((List α)) :=
 (iter (swpM.b0 a1 a2 a3) (a0, (0 : Int)))
noncomputable def rotM.b0 (a2 : Int) (a4 : (α → α → Option Int)) (x2 : (List α) × Int × Int) : Option (((List α) × Int × Int) ⊕ (List α)) :=
 (if (x2.2.1 != x2.2.2) = true then ((if (decide (x2.2.1 > x2.2.2)) = true then ((swpM.f x2.1 (IntKind.wrap .i64 (a2 - x2.2.1)) a2 x2.2.2 a4).bind fun r8 => (some (r8, (IntKind.wrap .i64 (x2.2.1 - x2.2.2)), x2.2.2))) else ((swpM.f x2.1 (IntKind.wrap .i64 (a2 - x2.2.1)) (IntKind.wrap .i64 ((IntKind.wrap .i64 (a2 + x2.2.2)) - x2.2.1)) x2.2.1 a4).bind fun r12 => (some (r12, x2.2.1, (IntKind.wrap .i64 (x2.2.2 - x2.2.1)))))).bind fun y6 => (some (Sum.inl (y6.1, y6.2.1, y6.2.2)))) else (((swpM.f x2.1 (IntKind.wrap .i64 (a2 - x2.2.1)) a2 x2.2.1 a4).bind fun r18 => (some r18)).bind fun o => some (Sum.inr o)))
noncomputable def rotM.f (a0 : (List α)) (a1 : Int) (a2 : Int) (a3 : Int) (a4 : (α → α → Option Int)) : Option ((List α)) :=
 (iter (rotM.b0 a2 a4) (a0, (IntKind.wrap .i64 (a2 - a1)), (IntKind.wrap .i64 (a3 - a2))))
noncomputable def symM.b4 (a0 : (List α)) (a1 : Int) (a2 : Int) (a3 : Int) (a4 : (α → α → Option Int)) (R : ((List α) → Int → Int → Int → (α → α → Option Int) → Option ((List α)))) (x145 : Int × Int) : Option ((Int × Int) ⊕ (List α)) :=
 (if (decide (x145.1 < x145.2)) = true then (if 0 ≤ (IntKind.wrap .i64 ((IntKind.wrap .i64 ((IntKind.wrap .i64 ((IntKind.wrap .i64 (ishr .u64 (IntKind.wrap .u64 (IntKind.wrap .i64 (a1 + a3))) (1 : Int))) + a2)) - (1 : Int))) - (IntKind.wrap .i64 (ishr .u64 (IntKind.wrap .u64 (IntKind.wrap .i64 (x145.1 + x145.2))) (1 : Int))))) ∧ (IntKind.wrap .i64 ((IntKind.wrap .i64 ((IntKind.wrap .i64 ((IntKind.wrap .i64 (ishr .u64 (IntKind.wrap .u64 (IntKind.wrap .i64 (a1 + a3))) (1 : Int))) + a2)) - (1 : Int))) - (IntKind.wrap .i64 (ishr .u64 (IntKind.wrap .u64 (IntKind.wrap .i64 (x145.1 + x145.2))) (1 : Int))))) < (a0.length : Int) then (if 0 ≤ (IntKind.wrap .i64 (ishr .u64 (IntKind.wrap .u64 (IntKind.wrap .i64 (x145.1 + x145.2))) (1 : Int))) ∧ (IntKind.wrap .i64 (ishr .u64 (IntKind.wrap .u64 (IntKind.wrap .i64 (x145.1 + x145.2))) (1 : Int))) < (a0.length : Int) then ((a4 (at_ a0 (IntKind.wrap .i64 ((IntKind.wrap .i64 ((IntKind.wrap .i64 ((IntKind.wrap .i64 (ishr .u64 (IntKind.wrap .u64 (IntKind.wrap .i64 (a1 + a3))) (1 : Int))) + a2)) - (1 : Int))) - (IntKind.wrap .i64 (ishr .u64 (IntKind.wrap .u64 (IntKind.wrap .i64 (x145.1 + x145.2))) (1 : Int)))))) (at_ a0 (IntKind.wrap .i64 (ishr .u64 (IntKind.wrap .u64 (IntKind.wrap .i64 (x145.1 + x145.2))) (1 : Int))))).bind fun r166 => ((if (!(decide (r166 < (0 : Int)))) = true then (some ((IntKind.wrap .i64 ((IntKind.wrap .i64 (ishr .u64 (IntKind.wrap .u64 (IntKind.wrap .i64 (x145.1 + x145.2))) (1 : Int))) + (1 : Int))), x145.2)) else (some (x145.1, (IntKind.wrap .i64 (ishr .u64 (IntKind.wrap .u64 (IntKind.wrap .i64 (x145.1 + x145.2))) (1 : Int)))))).bind fun y168 => (some (Sum.inl (y168.1, y168.2))))) else none) else none) else (((if ((decide (x145.1 < a2)) && (decide (a2 < (IntKind.wrap .i64 ((IntKind.wrap .i64 ((IntKind.wrap .i64 (ishr .u64 (IntKind.wrap .u64 (IntKind.wrap .i64 (a1 + a3))) (1 : Int))) + a2)) - x145.1))))) = true then ((rotM.f a0 x145.1 a2 (IntKind.wrap .i64 ((IntKind.wrap .i64 ((IntKind.wrap .i64 (ishr .u64 (IntKind.wrap .u64 (IntKind.wrap .i64 (a1 + a3))) (1 : Int))) + a2)) - x145.1)) a4).bind fun r178 => (some r178)) else (some a0)).bind fun y176 => ((if ((decide (a1 < x145.1)) && (decide (x145.1 < (IntKind.wrap .i64 (ishr .u64 (IntKind.wrap .u64 (IntKind.wrap .i64 (a1 + a3))) (1 : Int)))))) = true then ((R y176 a1 x145.1 (IntKind.wrap .i64 (ishr .u64 (IntKind.wrap .u64 (IntKind.wrap .i64 (a1 + a3))) (1 : Int))) a4).bind fun r187 => (some r187)) else (some y176)).bind fun y185 => (if ((decide ((IntKind.wrap .i64 (ishr .u64 (IntKind.wrap .u64 (IntKind.wrap .i64 (a1 + a3))) (1 : Int))) < (IntKind.wrap .i64 ((IntKind.wrap .i64 ((IntKind.wrap .i64 (ishr .u64 (IntKind.wrap .u64 (IntKind.wrap .i64 (a1 + a3))) (1 : Int))) + a2)) - x145.1)))) && (decide ((IntKind.wrap .i64 ((IntKind.wrap .i64 ((IntKind.wrap .i64 (ishr .u64 (IntKind.wrap .u64 (IntKind.wrap .i64 (a1 + a3))) (1 : Int))) + a2)) - x145.1)) < a3))) = true then ((R y185 (IntKind.wrap .i64 (ishr .u64 (IntKind.wrap .u64 (IntKind.wrap .i64 (a1 + a3))) (1 : Int))) (IntKind.wrap .i64 ((IntKind.wrap .i64 ((IntKind.wrap .i64 (ishr .u64 (IntKind.wrap .u64 (IntKind.wrap .i64 (a1 + a3))) (1 : Int))) + a2)) - x145.1)) a3 a4).bind fun r195 => (some r195)) else (some y185)))).bind fun o => some (Sum.inr o)))
noncomputable def symM.b3 (x73 : Int × Int) (x101 : (List α) × Int) : Option (((List α) × Int) ⊕ (List α)) :=
 (if (decide (x101.2 > x73.1)) = true then (if 0 ≤ (IntKind.wrap .i64 (x101.2 - (1 : Int))) ∧ (IntKind.wrap .i64 (x101.2 - (1 : Int))) < (x101.1.length : Int) then (if 0 ≤ x101.2 ∧ x101.2 < (x101.1.length : Int) then (if 0 ≤ x101.2 ∧ x101.2 < (x101.1.length : Int) then (if 0 ≤ (IntKind.wrap .i64 (x101.2 - (1 : Int))) ∧ (IntKind.wrap .i64 (x101.2 - (1 : Int))) < ((x101.1.set (x101.2).toNat (at_ x101.1 (IntKind.wrap .i64 (x101.2 - (1 : Int))))).length : Int) then ((some ((x101.1.set (x101.2).toNat (at_ x101.1 (IntKind.wrap .i64 (x101.2 - (1 : Int))))).set ((IntKind.wrap .i64 (x101.2 - (1 : Int)))).toNat (at_ x101.1 x101.2))).bind fun y140 => (some (Sum.inl (y140, (IntKind.wrap .i64 (x101.2 - (1 : Int))))))) else none) else none) else none) else none) else ((some x101.1).bind fun o => some (Sum.inr o)))
noncomputable def symM.b2 (a0 : (List α)) (a2 : Int) (a4 : (α → α → Option Int)) (x73 : Int × Int) : Option ((Int × Int) ⊕ (List α)) :=
 (if (decide (x73.1 < x73.2)) = true then (if 0 ≤ a2 ∧ a2 < (a0.length : Int) then (if 0 ≤ (IntKind.wrap .i64 (ishr .u64 (IntKind.wrap .u64 (IntKind.wrap .i64 (x73.1 + x73.2))) (1 : Int))) ∧ (IntKind.wrap .i64 (ishr .u64 (IntKind.wrap .u64 (IntKind.wrap .i64 (x73.1 + x73.2))) (1 : Int))) < (a0.length : Int) then ((a4 (at_ a0 a2) (at_ a0 (IntKind.wrap .i64 (ishr .u64 (IntKind.wrap .u64 (IntKind.wrap .i64 (x73.1 + x73.2))) (1 : Int))))).bind fun r92 => ((if (!(decide (r92 < (0 : Int)))) = true then (some ((IntKind.wrap .i64 ((IntKind.wrap .i64 (ishr .u64 (IntKind.wrap .u64 (IntKind.wrap .i64 (x73.1 + x73.2))) (1 : Int))) + (1 : Int))), x73.2)) else (some (x73.1, (IntKind.wrap .i64 (ishr .u64 (IntKind.wrap .u64 (IntKind.wrap .i64 (x73.1 + x73.2))) (1 : Int)))))).bind fun y94 => (some (Sum.inl (y94.1, y94.2))))) else none) else none) else ((iter (symM.b3 x73) (a0, a2)).bind fun o => some (Sum.inr o)))
noncomputable def symM.b1 (x3 : Int × Int) (x31 : (List α) × Int) : Option (((List α) × Int) ⊕ (List α)) :=
 (if (decide (x31.2 < (IntKind.wrap .i64 (x3.1 - (1 : Int))))) = true then (if 0 ≤ (IntKind.wrap .i64 (x31.2 + (1 : Int))) ∧ (IntKind.wrap .i64 (x31.2 + (1 : Int))) < (x31.1.length : Int) then (if 0 ≤ x31.2 ∧ x31.2 < (x31.1.length : Int) then (if 0 ≤ x31.2 ∧ x31.2 < (x31.1.length : Int) then (if 0 ≤ (IntKind.wrap .i64 (x31.2 + (1 : Int))) ∧ (IntKind.wrap .i64 (x31.2 + (1 : Int))) < ((x31.1.set (x31.2).toNat (at_ x31.1 (IntKind.wrap .i64 (x31.2 + (1 : Int))))).length : Int) then ((some ((x31.1.set (x31.2).toNat (at_ x31.1 (IntKind.wrap .i64 (x31.2 + (1 : Int))))).set ((IntKind.wrap .i64 (x31.2 + (1 : Int)))).toNat (at_ x31.1 x31.2))).bind fun y70 => (some (Sum.inl (y70, (IntKind.wrap .i64 (x31.2 + (1 : Int))))))) else none) else none) else none) else none) else ((some x31.1).bind fun o => some (Sum.inr o)))
noncomputable def symM.b0 (a0 : (List α)) (a1 : Int) (a4 : (α → α → Option Int)) (x3 : Int × Int) : Option ((Int × Int) ⊕ (List α)) :=
 (if (decide (x3.1 < x3.2)) = true then (if 0 ≤ (IntKind.wrap .i64 (ishr .u64 (IntKind.wrap .u64 (IntKind.wrap .i64 (x3.1 + x3.2))) (1 : Int))) ∧ (IntKind.wrap .i64 (ishr .u64 (IntKind.wrap .u64 (IntKind.wrap .i64 (x3.1 + x3.2))) (1 : Int))) < (a0.length : Int) then (if 0 ≤ a1 ∧ a1 < (a0.length : Int) then ((a4 (at_ a0 (IntKind.wrap .i64 (ishr .u64 (IntKind.wrap .u64 (IntKind.wrap .i64 (x3.1 + x3.2))) (1 : Int)))) (at_ a0 a1)).bind fun r22 => ((if (decide (r22 < (0 : Int))) = true then (some ((IntKind.wrap .i64 ((IntKind.wrap .i64 (ishr .u64 (IntKind.wrap .u64 (IntKind.wrap .i64 (x3.1 + x3.2))) (1 : Int))) + (1 : Int))), x3.2)) else (some (x3.1, (IntKind.wrap .i64 (ishr .u64 (IntKind.wrap .u64 (IntKind.wrap .i64 (x3.1 + x3.2))) (1 : Int)))))).bind fun y24 => (some (Sum.inl (y24.1, y24.2))))) else none) else none) else ((iter (symM.b1 x3) (a0, a1)).bind fun o => some (Sum.inr o)))
noncomputable def symM.h (R : ((List α) → Int → Int → Int → (α → α → Option Int) → Option ((List α)))) (a0 : (List α)) (a1 : Int) (a2 : Int) (a3 : Int) (a4 : (α → α → Option Int)) : Option ((List α)) :=
 (if ((IntKind.wrap .i64 (a2 - a1)) == (1 : Int)) = true then (iter (symM.b0 a0 a1 a4) (a2, a3)) else (if ((IntKind.wrap .i64 (a3 - a2)) == (1 : Int)) = true then (iter (symM.b2 a0 a2 a4) (a1, a2)) else ((if (decide (a2 > (IntKind.wrap .i64 (ishr .u64 (IntKind.wrap .u64 (IntKind.wrap .i64 (a1 + a3))) (1 : Int))))) = true then (some ((IntKind.wrap .i64 ((IntKind.wrap .i64 ((IntKind.wrap .i64 (ishr .u64 (IntKind.wrap .u64 (IntKind.wrap .i64 (a1 + a3))) (1 : Int))) + a2)) - a3)), (IntKind.wrap .i64 (ishr .u64 (IntKind.wrap .u64 (IntKind.wrap .i64 (a1 + a3))) (1 : Int))))) else (some (a1, a2))).bind fun y142 => (iter (symM.b4 a0 a1 a2 a3 a4 R) (y142.1, y142.2)))))
noncomputable def symM.g : Nat → ((List α) → Int → Int → Int → (α → α → Option Int) → Option ((List α)))
 | 0 => fun _ _ _ _ _ => none
 | n + 1 => symM.h (symM.g n)
noncomputable def symM.f (a0 : (List α)) (a1 : Int) (a2 : Int) (a3 : Int) (a4 : (α → α → Option Int)) : Option ((List α)) := symM.g 1000 a0 a1 a2 a3 a4
noncomputable def stbM.b2 (a1 : Int) (a2 : (α → α → Option Int)) (x13 : (List α) × Int) (x18 : (List α) × Int × Int) : Option (((List α) × Int × Int) ⊕ ((List α) × Int ⊕ (List α))) :=
 (if (decide (x18.2.2 ≤ a1)) = true then ((symM.f x18.1 x18.2.1 (IntKind.wrap .i64 (x18.2.1 + x13.2)) x18.2.2 a2).bind fun r22 => (some (Sum.inl (r22, x18.2.2, (IntKind.wrap .i64 (x18.2.2 + (IntKind.wrap .i64 ((2 : Int) * x13.2)))))))) else (((if (decide ((IntKind.wrap .i64 (x18.2.1 + x13.2)) < a1)) = true then ((symM.f x18.1 x18.2.1 (IntKind.wrap .i64 (x18.2.1 + x13.2)) a1 a2).bind fun r28 => (some r28)) else (some x18.1)).bind fun y26 => (some (Sum.inl (y26, (IntKind.wrap .i64 (x13.2 * (2 : Int))))))).bind fun o => some (Sum.inr o)))
noncomputable def stbM.b1 (a1 : Int) (a2 : (α → α → Option Int)) (x13 : (List α) × Int) : Option (((List α) × Int) ⊕ (List α)) :=
 (if (decide (x13.2 < a1)) = true then (iter (stbM.b2 a1 a2 x13) (x13.1, (0 : Int), (IntKind.wrap .i64 ((2 : Int) * x13.2)))) else ((some x13.1).bind fun o => some (Sum.inr o)))
noncomputable def stbM.b0 (a1 : Int) (a2 : (α → α → Option Int)) (x2 : (List α) × Int × Int) : Option (((List α) × Int × Int) ⊕ (List α)) :=
 (if (decide (x2.2.2 ≤ a1)) = true then ((insM.f x2.1 x2.2.1 x2.2.2 a2).bind fun r6 => (some (Sum.inl (r6, x2.2.2, (IntKind.wrap .i64 (x2.2.2 + (20 : Int))))))) else (((insM.f x2.1 x2.2.1 a1 a2).bind fun r10 => (iter (stbM.b1 a1 a2) (r10, (20 : Int)))).bind fun o => some (Sum.inr o)))
noncomputable def stbM.f (a0 : (List α)) (a1 : Int) (a2 : (α → α → Option Int)) : Option ((List α)) :=
 (iter (stbM.b0 a1 a2) (a0, (0 : Int), (20 : Int)))
end
end Go.Proofs.Ytlpbggnpiogioaa.V
set_option linter.unusedVariables false
set_option linter.unusedSimpArgs false
set_option linter.unusedSectionVars false
namespace Go.Proofs.Ytlpbggnpiogioaa.V
open Go
section
variable {α : Type} [Inhabited α]
structure Cr (c : α → α → Option Int) (lt : α → α → Bool) (S : α → Prop) : Prop where
 cmp : ∀ x y, S x → S y → ∃ n : Int, c x y = some n ∧ decide (n < 0) = lt x y
 asym : ∀ x y, S x → S y → lt x y = true → lt y x = false
 neg : ∀ x y z, S x → S y → S z → lt x y = false → lt y z = false → lt x z = false
def TL (lt : α → α → Bool) (ix : α → Nat) (x y : α) : Prop := lt x y = true ∨ (lt y x = false ∧ ix x < ix y)
variable {c : α → α → Option Int} {lt : α → α → Bool} {ix : α → Nat} {S : α → Prop}
theorem TL.trans (h : Cr c lt S) {x y z : α} (hx : S x) (hy : S y) (hz : S z) (h1 : TL lt ix x y) (h2 : TL lt ix y z) : TL lt ix x z := by
 have tf : ∀ {b : Bool}, ¬ b = true → b = false := fun {b} h => by cases b <;> simp_all
 by_cases hxz : lt x z = true
 · exact .inl hxz
 · have hxz := tf hxz
   rcases h1 with h1 | ⟨h1, i1⟩ <;> rcases h2 with h2 | ⟨h2, i2⟩
   · have := h.neg x z y hx hz hy hxz (h.asym y z hy hz h2); rw [h1] at this; cases this
   · have := h.neg x z y hx hz hy hxz h2; rw [h1] at this; cases this
   · have := h.neg y x z hy hx hz h1 hxz; rw [h2] at this; cases this
   · exact .inr ⟨h.neg z y x hz hy hx h2 h1, by omega⟩
end
end Go.Proofs.Ytlpbggnpiogioaa.V
set_option linter.unusedVariables false
set_option linter.unusedSimpArgs false
set_option linter.unusedSectionVars false
namespace Go.Proofs.Ytlpbggnpiogioaa.V
open Go
section
variable {α : Type} [Inhabited α]
variable {c : α → α → Option Int} {lt : α → α → Bool} {ix : α → Nat} {S : α → Prop}
end
end Go.Proofs.Ytlpbggnpiogioaa.V
set_option linter.unusedVariables false
set_option linter.unusedSimpArgs false
set_option linter.unusedSectionVars false
namespace Go.Proofs.Ytlpbggnpiogioaa.V
open Go
section
variable {α : Type} [Inhabited α]
variable {c : α → α → Option Int} {lt : α → α → Bool} {ix : α → Nat} {S : α → Prop}
end
end Go.Proofs.Ytlpbggnpiogioaa.V
set_option linter.unusedVariables false
set_option linter.unusedSimpArgs false
set_option linter.unusedSectionVars false
namespace Go.Proofs.Ytlpbggnpiogioaa.V
open Go
section
variable {α : Type} [Inhabited α]
variable {c : α → α → Option Int} {lt : α → α → Bool} {ix : α → Nat} {S : α → Prop}
structure GB (lt : α → α → Bool) (ix : α → Nat) (S : α → Prop) (Bs : List (List α)) : Prop where
 srt : ∀ B ∈ Bs, B.Pairwise (TL lt ix)
 mem : ∀ B ∈ Bs, ∀ x ∈ B, S x
 ord : Bs.Pairwise (fun B C => ∀ x ∈ B, ∀ y ∈ C, ix x < ix y)
end
end Go.Proofs.Ytlpbggnpiogioaa.V
set_option linter.unusedVariables false
set_option linter.unusedSimpArgs false
set_option linter.unusedSectionVars false
namespace Go.Proofs.Ytlpbggnpiogioaa.V
open Go
section
variable {α : Type} [Inhabited α] {c : α → α → Option Int} {lt : α → α → Bool} {ix : α → Nat} {S : α → Prop}
end
end Go.Proofs.Ytlpbggnpiogioaa.V
set_option linter.unusedVariables false
set_option linter.unusedSimpArgs false
namespace Go.Proofs.Ytlpbggnpiogioaa.V
open Go
def ErF {α : Type} (K : Kd α) (s : St) (v : Value) (xs : List α) (C : List Nat) : Prop :=
 ∃ A cap cells, v = .slice A xs.length cap ∧ xs.length ≤ cap ∧ ElsR K s.w (fun b => memb C (s.g b) = true) xs cells ∧ (cells ≠ [] → ∃ ad, A = some ad ∧ ∀ j u, cells[j]? = some u → s.w.cell? (ad.add j) = some u)
theorem RwF.er {α : Type} {K : Kd α} {te : TypeId} {s : St} {v : Value} {xs : List α} {c : Nat} {C : List Nat} (h : RwF te K s v xs c C) : ErF K s v xs C := by
 obtain ⟨cells, os, hR, hcol, hE⟩ := h
 obtain ⟨A, cap, rfl, hc, hcell⟩ := hR.cells
 refine ⟨A, cap, cells, rfl, hc, hE, fun hne => ?_⟩
 obtain ⟨g, e1, _, h⟩ := hcell hne
 exact ⟨_, e1, h⟩
theorem RdF.er {α : Type} {K : Kd α} {te : TypeId} {s : St} {v : Value} {xs : List α} {C : List Nat} (h : RdF (Kd.sl te K) s [v] xs C) : ErF K s v xs C := by
 obtain ⟨v1, e1, A, cap, cells, hv, hc, hE, hcell⟩ := h
 obtain rfl : v = v1 := by simpa using e1
 refine ⟨A, cap, cells, hv, hc, hE, fun hne => ?_⟩
 obtain ⟨ad, e1, _, h⟩ := hcell hne
 exact ⟨ad, e1, h⟩
theorem ErF.cut {α : Type} {K : Kd α} {s : St} {A : Option Addr} {cap : Nat} {xs : List α} {C : List Nat} (h : ErF K s (.slice A xs.length cap) xs C) {a b : Nat} (hab : a ≤ b) (hb : b ≤ xs.length) :
    ErF K s (.slice (if cap = a then A else A.map (·.add (a * K.n))) (b - a) (cap - a)) ((xs.take b).drop a) C := by
  obtain ⟨A', cap', cells, e, hcap, hels, hc⟩ := h
  simp only [Value.slice.injEq, true_and] at e
  obtain ⟨rfl, rfl⟩ := e
  have hl : ((xs.take b).drop a).length = b - a := by simp; omega
  refine ⟨_, cap - a, (cells.take (b * K.n)).drop (a * K.n), by rw [hl], by rw [hl]; omega, (hels.take b).drop a, fun hne => ?_⟩
  have hcl := hels.len
  have hne' : cells ≠ [] := fun h => hne (by simp [h])
  obtain ⟨ad, rfl, hcell⟩ := hc hne'
  have hlt : a < cap := by
    rcases Nat.lt_or_ge a b with h | h
    · omega
    · exfalso; apply hne
      have : a = b := by omega
      subst this
      simp
  rw [if_neg (by omega)]
  refine ⟨ad.add (a * K.n), rfl, fun j u hj => ?_⟩
  rw [Addr.add_add']
  rw [List.getElem?_drop, List.getElem?_take] at hj
  split at hj
  · exact hcell _ _ hj
  · cases hj
section
variable {P : Program} {f : Who} {N : Nat} {O ρ : Type} {m : Option O} {G : O → Option ρ} {R : ρ → Ending → World → Prop} {e : Env} {s : St} {k : List Item} {ops : Array Oper} {i d : Nat} {rest : List Nat} {o : Oper}
theorem apRE {α : Type} {K : Kd α} {t te : TypeId} {x y : Operand} {v u : Value} {xs ys : List α} {c : Nat} {C D : List Nat} (hT : SlT P t te K.n) (hD : RwF te K s v xs c C) (hS : ErF K s u ys D) (hc : memb (C ++ D) c = false)
    (ho : ops[i]? = some o) (hd : o.dst = some d) (hN : Nat.blt d N = true) (hw : Region.wanted o (yv e ops) = true) (hop : o.op = .call { callee := .builtin .append, args := #[x, y], argTypes := #[t, t] }) (hx : ev e x = v) (hy : ev e y = u)
    (h : ∀ v' s', Stp [c] s s' → RwF te K s' v' (xs ++ ys) c (C ++ D) → TM P f N m G R (.inRegion ops rest :: k) (upd e d v') s'.w) :
    TM P f N (if xs.length + ys.length ≤ Lim then m else none) G R (.inRegion ops (i :: rest) :: k) e s.w := by
  refine mg fun hl => ?_
  obtain ⟨cells, os, hR, hcol, hE⟩ := hD
  obtain ⟨A, cap, cells', hu, hcap, hE', hcl⟩ := hS
  have hSv : SlV s.w u ys.length K.n cells' := by
    refine ⟨A, cap, hu, hE'.len, hE'.one, fun hne => ?_⟩
    obtain ⟨ad, e1, h2⟩ := hcl hne
    exact ⟨ad, e1, h2⟩
  obtain ⟨v', w', hr, hR', hg, hb⟩ := append_core (P := P) (ty := o.type) hT hR hSv hl
  refine vl (v := v') (w' := w') ho hd hN hw (by simp [execOp, hop, resolve, invoke, builtin, hx, hy, hr, Result.andThen]) ?_
  have hp : ∃ s' : St, s'.w = w' ∧ Stp [c] s s' ∧ (∀ b, b < s.w.heap.size → s'.g b = s.g b) ∧ (∀ b, s.w.heap.size ≤ b → s'.g b = c) := by
    refine ⟨⟨w', fun b => if b < s.w.heap.size then s.g b else c⟩, rfl, ⟨hg.os, hg.tape, hg.output, hg.size, fun b hb _ => by simp [hb], fun b hb hm => ⟨by simp [hb], hg.block b hb fun h => ?_⟩⟩, fun b hb => by simp [hb], fun b hb => ?_⟩
    · have := hcol b (blk_own hR h.symm)
      rw [this] at hm; simp [memb] at hm
    · have : ¬ b < s.w.heap.size := by omega
      simp [this]
  obtain ⟨s', rfl, p, hold, hnew⟩ := hp
  have hsub : ∀ n, memb C n = true → memb (C ++ D) n = true := fun n hn => memb_iff.2 (List.mem_append_left _ (memb_iff.1 hn))
  have hsub' : ∀ n, memb D n = true → memb (C ++ D) n = true := fun n hn => memb_iff.2 (List.mem_append_right _ (memb_iff.1 hn))
  refine h v' s' p ⟨cells ++ cells', Value.blk v', by rw [List.length_append]; exact hR', fun b hb' => ?_, ?_⟩
  · rcases hb b hb' with h1 | h1
    · rw [hold b (hR.lt b h1)]; exact hcol b h1
    · exact hnew b h1
  · have h1 : ElsR K s.w (fun b => b < s.w.heap.size ∧ memb (C ++ D) (s.g b) = true) (xs ++ ys) (cells ++ cells') := (hE.mono fun b hb hl => ⟨hl, hsub _ hb⟩).append (hE'.mono fun b hb hl => ⟨hl, hsub' _ hb⟩)
    refine (h1.frame fun b hb hl => (p.same b hl ?_).2).mono fun b hb _ => by rw [hold b hb.1]; exact hb.2
    cases hm : memb [c] (s.g b) with
    | false => rfl
    | true =>
      have := memb_iff.1 hm
      simp at this
      rw [this] at hb
      rw [hb.2] at hc; cases hc
end
end Go.Proofs.Ytlpbggnpiogioaa.V
set_option linter.unusedVariables false
set_option linter.unusedSimpArgs false
namespace Go.Proofs.Ytlpbggnpiogioaa.V
open Go
def SxF {α : Type} (te : TypeId) (K : Kd α) (s : St) (v : Value) (xs : List α) (n : Nat) (c : Nat) : Prop :=
 ∃ cells o1 o2, RowAt s.w te K.n v xs.length cells o1 ∧ ElsO K s.w (xs.drop n) (cells.drop (n * K.n)) o2 ∧ (o1 ++ o2).Nodup ∧ ∀ b ∈ o1 ++ o2, s.g b = c
theorem SxF.st {α : Type} {te : TypeId} {K : Kd α} {s s' : St} {v : Value} {xs : List α} {n c : Nat} {S : List Nat} (h : SxF te K s v xs n c) (p : Stp S s s') (d : memb S c = false) : SxF te K s' v xs n c := by
 obtain ⟨cells, o1, o2, hR, hE, hn, hc⟩ := h
 have hs : ∀ b ∈ o1 ++ o2, b < s.w.heap.size → s'.g b = s.g b ∧ s'.w.heap[b]? = s.w.heap[b]? := fun b hb hl => p.same b hl (by rw [hc b hb]; exact d)
 have hlt : ∀ b ∈ o1 ++ o2, b < s.w.heap.size := fun b hb => by
  rcases List.mem_append.1 hb with hb | hb
  · exact hR.lt b hb
  · exact hE.lt b hb
 refine ⟨cells, o1, o2, hR.frame fun b hb hl => (hs b (List.mem_append_left _ hb) hl).2, hE.frame fun b hb hl => (hs b (List.mem_append_right _ hb) hl).2, hn, fun b hb => ?_⟩
 rw [(hs b hb (hlt b hb)).1]; exact hc b hb
section
variable {P : Program} {f : Who} {N : Nat} {O ρ : Type} {m : Option O} {G : O → Option ρ} {R : ρ → Ending → World → Prop} {e : Env} {s : St} {k : List Item} {ops : Array Oper} {i d : Nat} {rest : List Nat} {o : Oper}
end
end Go.Proofs.Ytlpbggnpiogioaa.V
set_option linter.unusedVariables false
set_option linter.unusedSimpArgs false
namespace Go.Proofs.Ytlpbggnpiogioaa.V
open Go
def HoG {α : Type} (te : TypeId) (K : Kd α) (s : St) (v : Value) (xs : List α) (ii : Int) (c c2 : Nat) : Prop :=
 ∃ g cap cur p1 p3, v = .slice (some ⟨g, 0, none⟩) xs.length cap ∧ Hr s.w g cur te ∧ xs.length ≤ cap ∧ cap ≤ maxLen ∧ cur.size = cap * K.n ∧ s.g g = c ∧ ii.toNat < xs.length ∧ (p1 ++ p3).Nodup ∧ (∀ b ∈ p1 ++ p3, s.g b = c2) ∧
  ElsO K s.w (xs.take ii.toNat) (cur.toList.take (ii.toNat * K.n)) p1 ∧ ElsO K s.w (xs.drop (ii.toNat + 1)) ((cur.toList.take (xs.length * K.n)).drop ((ii.toNat + 1) * K.n)) p3
def HoR {α β : Type} (te : TypeId) (K : Kd α) (A : Kd β) (s : St) (v u : Value) (xs : List α) (y : β) (c : Nat) (C : List Nat) : Prop :=
 ∃ cells os, RowAt s.w te K.n v xs.length cells os ∧ (∀ b ∈ os, s.g b = c) ∧ ∀ w' o2, A.ow w' [u] y o2 → Agr s.w w' (fun b => memb C (s.g b) = true) → ElsR K w' (fun b => (b < s.w.heap.size ∧ memb C (s.g b) = true) ∨ b ∈ o2) xs cells
theorem HoG.st {α : Type} {te : TypeId} {K : Kd α} {s s' : St} {v : Value} {xs : List α} {ii : Int} {c c2 : Nat} {S : List Nat} (h : HoG te K s v xs ii c c2) (p : Stp S s s') (d : dj [c, c2] S = true) : HoG te K s' v xs ii c c2 := by
 obtain ⟨g, cap, cur, p1, p3, e1, e2, e3, e4, e5, e6, e7, e8, e9, e10, e11⟩ := h
 have d1 : memb S c = false := dj_out d (by simp [memb])
 have d2 : memb S c2 = false := dj_out d (by simp [memb])
 have hg := p.same g e2.lt (by rw [e6]; exact d1)
 have hs : ∀ b ∈ p1 ++ p3, b < s.w.heap.size → s'.g b = s.g b ∧ s'.w.heap[b]? = s.w.heap[b]? := fun b hb hl => p.same b hl (by rw [e9 b hb]; exact d2)
 have hlt : ∀ b ∈ p1 ++ p3, b < s.w.heap.size := fun b hb => by
  rcases List.mem_append.1 hb with hb | hb
  · exact e10.lt b hb
  · exact e11.lt b hb
 exact ⟨g, cap, cur, p1, p3, e1, e2.eq hg.2, e3, e4, e5, by rw [hg.1]; exact e6, e7, e8, fun b hb => by rw [(hs b hb (hlt b hb)).1]; exact e9 b hb, e10.frame fun b hb hl => (hs b (List.mem_append_left _ hb) hl).2, e11.frame fun b hb hl => (hs b (List.mem_append_right _ hb) hl).2⟩
theorem HoR.st {α β : Type} {te : TypeId} {K : Kd α} {A : Kd β} {s s' : St} {v u : Value} {xs : List α} {y : β} {c : Nat} {C S : List Nat} (h : HoR te K A s v u xs y c C) (p : Stp S s s') (d : memb S c = false) (d2 : dj C S = true) : HoR te K A s' v u xs y c C := by
 obtain ⟨cells, os, hR, hc, hE⟩ := h
 have hs : ∀ b, b < s.w.heap.size → memb C (s.g b) = true → s'.g b = s.g b ∧ s'.w.heap[b]? = s.w.heap[b]? := fun b hl hb => p.same b hl (dj_out d2 hb)
 refine ⟨cells, os, hR.frame fun b hb hl => (p.same b hl (by rw [hc b hb]; exact d)).2, fun b hb => ?_, fun w' o2 hy ha => ?_⟩
 · rw [(p.same b (hR.lt b hb) (by rw [hc b hb]; exact d)).1]; exact hc b hb
 · refine (hE w' o2 hy fun b hb hl => ?_).mono fun b hb _ => ?_
   · rw [ha b (by show memb C (s'.g b) = true; rw [(hs b hl hb).1]; exact hb) (Nat.lt_of_lt_of_le hl p.size), (hs b hl hb).2]
   · rcases hb with hb | hb
     · exact .inl ⟨Nat.lt_of_lt_of_le hb.1 p.size, by rw [(hs b hb.1 hb.2).1]; exact hb.2⟩
     · exact .inr hb
theorem HoR.rw {α β : Type} {te : TypeId} {K : Kd α} {A : Kd β} {s : St} {v u : Value} {xs : List α} {y : β} {c a : Nat} {C : List Nat} (h : HoR te K A s v u xs y c C) (hy : OwF A s [u] y a) : RwF te K s v xs c (C ++ [a]) := by
 obtain ⟨cells, os, hR, hc, hE⟩ := h
 obtain ⟨o2, ho, _, hc2⟩ := hy
 refine ⟨cells, os, hR, hc, (hE s.w o2 ho fun _ _ _ => rfl).mono fun b hb _ => ?_⟩
 rcases hb with hb | hb
 · exact memb_iff.2 (List.mem_append_left _ (memb_iff.1 hb.2))
 · rw [hc2 b hb]; exact memb_iff.2 (by simp)
section
variable {P : Program} {f : Who} {N : Nat} {O ρ : Type} {m : Option O} {G : O → Option ρ} {R : ρ → Ending → World → Prop} {e : Env} {s : St} {k : List Item} {ops : Array Oper} {i d : Nat} {rest : List Nat} {o : Oper}
end
end Go.Proofs.Ytlpbggnpiogioaa.V
set_option linter.unusedVariables false
set_option linter.unusedSimpArgs false
namespace Go.Proofs.Ytlpbggnpiogioaa.V
open Go
def lkp : List (Nat × Nat) → Nat → Nat
 | [], _ => 1
 | p :: M, c => if Nat.beq p.1 c = true then p.2 else lkp M c
def lkr (cn : Nat) : List (Nat × Nat) → Nat → Nat
 | [], _ => cn
 | p :: M, k => if Nat.beq p.2 k = true then p.1 else lkr cn M k
def phi (D : List Nat) (M : List (Nat × Nat)) (c : Nat) : Nat := if memb D c = true then 0 else lkp M c
def vw (D : List Nat) (M : List (Nat × Nat)) (s : St) : St := ⟨s.w, fun b => phi D M (s.g b)⟩
noncomputable def bk (M : List (Nat × Nat)) (cn : Nat) (s s' : St) : St := ⟨s'.w, fun b => if b < s.w.heap.size then s.g b else lkr cn M (s'.g b)⟩
def okM (D : List Nat) : List (Nat × Nat) → Bool
 | [] => true
 | p :: M => Nat.ble 2 p.2 && Nat.ble p.2 39 && Nat.ble 2 p.1 && !memb D p.1 && !memb (M.map (·.1)) p.1 && !memb (M.map (·.2)) p.2 && okM D M
theorem lkp_lt {D : List Nat} {M : List (Nat × Nat)} (h : okM D M = true) (c : Nat) : 1 ≤ lkp M c ∧ lkp M c < 40 := by
 induction M with
 | nil => exact ⟨Nat.le_refl _, by unfold lkp; omega⟩
 | cons p M ih =>
  simp only [okM, Bool.and_eq_true] at h
  obtain ⟨⟨⟨⟨⟨⟨h1, h2⟩, _⟩, _⟩, _⟩, _⟩, h3⟩ := h
  have h1 := Nat.le_of_ble_eq_true h1
  have h2 := Nat.le_of_ble_eq_true h2
  unfold lkp
  split
  · omega
  · exact ih h3
theorem phi_lt {D : List Nat} {M : List (Nat × Nat)} (h : okM D M = true) (c : Nat) : phi D M c < 40 := by
 unfold phi
 split
 · omega
 · exact (lkp_lt h c).2
theorem phi_0 {D : List Nat} {M : List (Nat × Nat)} (h : okM D M = true) {c : Nat} (h0 : phi D M c = 0) : memb D c = true := by
 unfold phi at h0
 split at h0
 · assumption
 · have := (lkp_lt h c).1; omega
theorem lkp_mem {D : List Nat} {M : List (Nat × Nat)} (h : okM D M = true) {c k : Nat} (hm : (c, k) ∈ M) : lkp M c = k ∧ (∀ c', lkp M c' = k → c' = c) ∧ ∀ cn, lkr cn M k = c := by
 induction M with
 | nil => cases hm
 | cons p M ih =>
  simp only [okM, Bool.and_eq_true, Bool.not_eq_true'] at h
  obtain ⟨⟨⟨⟨⟨⟨h1, h2⟩, h4⟩, h5⟩, h6⟩, h7⟩, h3⟩ := h
  have k1 := Nat.le_of_ble_eq_true h1
  rcases List.mem_cons.1 hm with e | hm
  · subst e
    refine ⟨by unfold lkp; rw [if_pos (Nat.beq_refl c)], fun c' hc => ?_, fun cn => by unfold lkr; rw [if_pos (Nat.beq_refl k)]⟩
    unfold lkp at hc
    split at hc
    · rename_i e; exact (Nat.eq_of_beq_eq_true e).symm
    · exfalso
      have hk : ∀ (M : List (Nat × Nat)) (c' : Nat), lkp M c' = k → k = 1 ∨ k ∈ M.map (·.2) := by
       intro M
       induction M with
       | nil => intro c' h; exact .inl h.symm
       | cons q M ih2 =>
        intro c' h
        unfold lkp at h
        split at h
        · right; simp [h]
        · rcases ih2 c' h with h | h
          · exact .inl h
          · right; simp at h ⊢; exact .inr h
      rcases hk M c' hc with h | h
      · simp only at k1; omega
      · rw [memb_iff.2 h] at h7; cases h7
  · obtain ⟨i1, i2, i3⟩ := ih h3 hm
    have n1 : Nat.beq p.1 c ≠ true := fun e => by
     have e := Nat.eq_of_beq_eq_true e
     have : c ∈ M.map (·.1) := List.mem_map.2 ⟨_, hm, rfl⟩
     rw [← e] at this
     rw [memb_iff.2 this] at h6; cases h6
    have n2 : Nat.beq p.2 k ≠ true := fun e => by
     have e := Nat.eq_of_beq_eq_true e
     have : k ∈ M.map (·.2) := List.mem_map.2 ⟨_, hm, rfl⟩
     rw [← e] at this
     rw [memb_iff.2 this] at h7; cases h7
    refine ⟨by unfold lkp; rw [if_neg n1]; exact i1, fun c' hc => ?_, fun cn => by unfold lkr; rw [if_neg n2]; exact i3 cn⟩
    unfold lkp at hc
    split at hc
    · exact absurd (by rw [hc]; exact Nat.beq_refl k) n2
    · exact i2 c' hc
theorem okM_mem {D : List Nat} {M : List (Nat × Nat)} (h : okM D M = true) {c k : Nat} (hm : (c, k) ∈ M) : memb D c = false ∧ 2 ≤ c ∧ 2 ≤ k ∧ k < 40 := by
 induction M with
 | nil => cases hm
 | cons p M ih =>
  simp only [okM, Bool.and_eq_true, Bool.not_eq_true'] at h
  obtain ⟨⟨⟨⟨⟨⟨h1, h2⟩, h4⟩, h5⟩, h6⟩, h7⟩, h3⟩ := h
  rcases List.mem_cons.1 hm with e | hm
  · subst e
    have h1 := Nat.le_of_ble_eq_true h1
    have h2 := Nat.le_of_ble_eq_true h2
    have h4 := Nat.le_of_ble_eq_true h4
    exact ⟨h5, h4, h1, by simp only at h2; omega⟩
  · exact ih h3 hm
section
variable {D C : List Nat} {M : List (Nat × Nat)} {s s' : St} {c k cn : Nat} {α : Type} {K : Kd α} {te : TypeId}
theorem vw_lt (h : okM D M = true) : ∀ b, (vw D M s).g b < 40 := fun b => phi_lt h _
theorem vw_phi (h : okM D M = true) (hm : (c, k) ∈ M) : phi D M c = k := by
 unfold phi
 rw [if_neg (by rw [(okM_mem h hm).1]; decide)]
 exact (lkp_mem h hm).1
theorem vw_0 (hs : sub C D = true) {n : Nat} (hn : memb C n = true) : memb [0] (phi D M n) = true := by
 unfold phi
 rw [if_pos (sub_out hs hn)]; rfl
theorem OwF.vw {cs : List Value} {x : α} (hf : OwF K s cs x c) (h : okM D M = true) (hm : (c, k) ∈ M) : OwF K (vw D M s) cs x k := by
 obtain ⟨os, ho, hn, hc⟩ := hf
 exact ⟨os, ho, hn, fun b hb => by show phi D M (s.g b) = k; rw [hc b hb]; exact vw_phi h hm⟩
theorem RwF.vw {v : Value} {xs : List α} (hf : RwF te K s v xs c C) (h : okM D M = true) (hm : (c, k) ∈ M) (hs : V.sub C D = true) : RwF te K (vw D M s) v xs k [0] := by
 obtain ⟨cells, os, hR, hc, hE⟩ := hf
 exact ⟨cells, os, hR, fun b hb => by show phi D M (s.g b) = k; rw [hc b hb]; exact vw_phi h hm, hE.mono fun b hb _ => vw_0 hs hb⟩
theorem RdF.vw {cs : List Value} {x : α} (hf : RdF K s cs x C) (hs : V.sub C D = true) : RdF K (vw D M s) cs x [0] := K.rd_mono hf fun b hb _ => vw_0 hs hb
theorem BlF.vw {b : Nat} {t : TypeId} {cs : List Value} (hf : BlF s b t cs c) (h : okM D M = true) (hm : (c, k) ∈ M) : BlF (vw D M s) b t cs k := ⟨hf.1, by show phi D M (s.g b) = k; rw [hf.2]; exact vw_phi h hm⟩
theorem MpF.vw {b : Nat} {m : MD} (hf : MpF s b m c) (h : okM D M = true) (hm : (c, k) ∈ M) : MpF (vw D M s) b m k := by
 obtain ⟨es, clock, h1, h2, h3⟩ := hf
 exact ⟨es, clock, h1, by show phi D M (s.g b) = k; rw [h2]; exact vw_phi h hm, h3⟩
theorem bk_g (h : okM D M = true) (hm : (c, k) ∈ M) (p : Kp (vw D M s) s') {b : Nat} (hb : s'.g b = k) : (bk M cn s s').g b = c := by
 show (if b < s.w.heap.size then s.g b else lkr cn M (s'.g b)) = c
 split
 · rename_i hl
   have := p.col b hl (vw_lt h b)
   rw [hb] at this
   have h2 : phi D M (s.g b) = k := this.symm
   have h3 := (okM_mem h hm)
   unfold phi at h2
   split at h2
   · omega
   · exact (lkp_mem h hm).2.1 _ h2
 · rw [hb]; exact (lkp_mem h hm).2.2 cn
theorem lkr_big (h : okM D M = true) {n : Nat} (hn : n = 0 ∨ 40 ≤ n) : lkr cn M n = cn := by
 induction M with
 | nil => rfl
 | cons p M ih =>
  simp only [okM, Bool.and_eq_true, Bool.not_eq_true'] at h
  obtain ⟨⟨⟨⟨⟨⟨h1, h2⟩, h4⟩, h5⟩, h6⟩, h7⟩, h3⟩ := h
  have h1 := Nat.le_of_ble_eq_true h1
  have h2 := Nat.le_of_ble_eq_true h2
  unfold lkr
  rw [if_neg (fun e => by have := Nat.eq_of_beq_eq_true e; omega)]
  exact ih h3
theorem bk_r (h : okM D M = true) (p : Kp (vw D M s) s') {b : Nat} (hb : s'.g b = 0 ∨ 40 ≤ s'.g b) : memb (cn :: D) ((bk M cn s s').g b) = true := by
 show memb (cn :: D) (if b < s.w.heap.size then s.g b else lkr cn M (s'.g b)) = true
 split
 · rename_i hl
   have h1 := p.col b hl (vw_lt h b)
   have h2 := vw_lt (s := s) h b
   have h3 : phi D M (s.g b) = 0 := by
    have : s'.g b = phi D M (s.g b) := h1
    have : phi D M (s.g b) < 40 := h2
    omega
   simp only [memb, phi_0 h h3, Bool.or_true]
 · rw [lkr_big h hb]; simp [memb]
theorem RdF.bk {cs : List Value} {x : α} (hf : RdF K s' cs x C) (h : okM D M = true) (hC : okC C = true) (p : Kp (V.vw D M s) s') : RdF K (V.bk M cn s s') cs x (cn :: D) :=
 K.rd_mono hf fun b hb _ => bk_r h p (okC_out hC hb)
theorem RwF.bk {v : Value} {xs : List α} (hf : RwF te K s' v xs k C) (h : okM D M = true) (hm : (c, k) ∈ M) (hC : okC C = true) (p : Kp (V.vw D M s) s') : RwF te K (V.bk M cn s s') v xs c (cn :: D) := by
 obtain ⟨cells, os, hR, hc, hE⟩ := hf
 exact ⟨cells, os, hR, fun b hb => bk_g h hm p (hc b hb), hE.mono fun b hb _ => bk_r h p (okC_out hC hb)⟩
theorem bk_st (h : okM D M = true) (p : Kp (vw D M s) s') : Stp (M.map (·.1)) s (bk M cn s s') := by
  refine ⟨p.os, p.tape, p.output, p.size, fun b hb _ => if_pos hb, fun b hb hm => ⟨if_pos hb, p.same b hb ?_⟩⟩
  show phi D M (s.g b) < 2
  unfold phi
  split
  · omega
  · have : ∀ (M : List (Nat × Nat)) (c : Nat), memb (M.map (·.1)) c = false → lkp M c = 1 := by
      intro M
      induction M with
      | nil => intro c _; rfl
      | cons q M ih =>
        intro c hc
        simp only [List.map_cons, memb, Bool.or_eq_false_iff] at hc
        unfold lkp
        rw [if_neg (by rw [hc.1]; decide)]
        exact ih c hc.2
    rw [this M _ hm]; omega
theorem OwF.bk {cs : List Value} {x : α} (hf : OwF K s' cs x k) (h : okM D M = true) (hm : (c, k) ∈ M) (p : Kp (V.vw D M s) s') : OwF K (V.bk M cn s s') cs x c := by
 obtain ⟨os, ho, hn, hc⟩ := hf
 exact ⟨os, ho, hn, fun b hb => bk_g h hm p (hc b hb)⟩
theorem BlF.bk {b : Nat} {t : TypeId} {cs : List Value} (hf : BlF s' b t cs k) (h : okM D M = true) (hm : (c, k) ∈ M) (p : Kp (V.vw D M s) s') : BlF (V.bk M cn s s') b t cs c := ⟨hf.1, bk_g h hm p hf.2⟩
theorem MpF.bk {b : Nat} {m : MD} (hf : MpF s' b m k) (h : okM D M = true) (hm : (c, k) ∈ M) (p : Kp (V.vw D M s) s') : MpF (V.bk M cn s s') b m c := by
 obtain ⟨es, clock, h1, h2, h3⟩ := hf
 exact ⟨es, clock, h1, bk_g h hm p h2, h3⟩
end
theorem RwF.rce {α : Type} {te : TypeId} {K : Kd α} {s s' : St} {v : Value} {xs : List α} {c q : Nat} {D E C : List Nat} (h : RwF te K s v xs c D) (r : Rc E q s s') (he : memb E c = false) (hq : memb C q = true) (hc : cov D E C = true) : RwF te K s' v xs c C := by
 obtain ⟨cells, os, hR, hcol, hE⟩ := h
 have hw : s'.w = s.w := r.w.symm
 refine ⟨cells, os, by rw [hw]; exact hR, fun b hb => ?_, ?_⟩
 · rw [r.out b (by rw [hcol b hb]; exact he)]; exact hcol b hb
 · rw [hw]
   refine hE.mono fun b hb _ => ?_
   rcases cov_out hc hb with h1 | h1
   · rw [r.inn b h1]; exact hq
   · cases hm : memb E (s.g b) with
     | true => rw [r.inn b hm]; exact hq
     | false => rw [r.out b hm]; exact h1
end Go.Proofs.Ytlpbggnpiogioaa.V
set_option linter.unusedVariables false
set_option linter.unusedSimpArgs false
namespace Go.Proofs.Ytlpbggnpiogioaa.V
open Go
def opRd {α : Type} (K : Kd α) (w : World) (v : Value) (o : Option α) (F : Nat → Prop) : Prop :=
 (v = .pointer none ∧ o = none) ∨ ∃ x ad es, v = .pointer (some ad) ∧ o = some x ∧ K.rd w es x F ∧ es ≠ [] ∧ F ad.block ∧ ∀ j u, es[j]? = some u → w.cell? (ad.add j) = some u
def Kd.op {α : Type} (K : Kd α) : Kd (Option α) where
 n := 1
 rd := fun w cs o F => ∃ v, cs = [v] ∧ opRd K w v o F
 ow := fun w cs o os => cs = [.pointer none] ∧ o = none ∧ os = []
 rd_len := fun ⟨v, e, _⟩ => by simp [e]
 rd_one := fun {w cs x F} ⟨v, e, h⟩ u hu => by
  subst e; simp at hu; subst hu
  rcases h with ⟨rfl, _⟩ | ⟨_, _, _, rfl, _⟩ <;> rfl
 rd_frame := fun {w w' cs x F} ⟨v, e, h⟩ ha => ⟨v, e, by
  rcases h with h | ⟨x, ad, es, e1, e2, h1, h2, h3, h4⟩
  · exact .inl h
  · exact .inr ⟨x, ad, es, e1, e2, K.rd_frame h1 ha, h2, h3, fun j u hj => ha.cell (by rw [add_block]; exact h3) (h4 j u hj)⟩⟩
 rd_mono := fun {w cs x F F'} ⟨v, e, h⟩ hm => ⟨v, e, by
  rcases h with h | ⟨x, ad, es, e1, e2, h1, h2, h3, h4⟩
  · exact .inl h
  · refine .inr ⟨x, ad, es, e1, e2, K.rd_mono h1 hm, h2, hm _ h3 ?_, h4⟩
    obtain ⟨u, us, rfl⟩ := List.exists_cons_of_ne_nil h2
    have := World.block_lt_of_cell? w (ad.add 0) (h4 0 u rfl)
    rwa [add_block] at this⟩
 ow_frame := fun h _ => h
 ow_lt := fun h b hb => by rw [h.2.2] at hb; cases hb
 ow_rd := fun {w cs x os} h => ⟨_, h.1, .inl ⟨rfl, h.2.1⟩⟩
theorem rdp_nil {α : Type} (K : Kd α) (s : St) (C : List Nat) : RdF (Kd.op K) s [.pointer none] none C := ⟨_, rfl, .inl ⟨rfl, rfl⟩⟩
theorem op_some {α : Type} {K : Kd α} {s : St} {ad : Addr} {es : List Value} {x : α} {C D : List Nat} (E : List Nat) (hR : RdF K s es x C) (hC : CeF s ad es D) (h1 : sub C E = true) (h2 : sub D E = true) (hn : Nat.ble 1 es.length = true) :
    RdF (Kd.op K) s [.pointer (some ad)] (some x) E :=
  ⟨_, rfl, .inr ⟨x, ad, es, rfl, rfl, hR.sub h1, (by intro h; subst h; cases hn), sub_out h2 hC.1, hC.2⟩⟩
theorem op_open {α : Type} [Inhabited α] {K : Kd α} {s : St} {v : Value} {o : Option α} {C : List Nat} (h : RdF (Kd.op K) s [v] o C) (hs : o.isSome = true) :
    ∃ ad es, v = .pointer (some ad) ∧ RdF K s es (o.getD default) C ∧ CeF s ad es C := by
  obtain ⟨v1, e1, h⟩ := h
  obtain rfl : v = v1 := by simpa using e1
  rcases h with ⟨_, rfl⟩ | ⟨x, ad, es, e1, rfl, h1, h2, h3, h4⟩
  · cases hs
  · exact ⟨ad, es, e1, h1, h3, h4⟩
section
variable {P : Program} {α : Type} {N : Nat} {e : Env} {s : St} {ops : Array Oper} {i d : Nat} {o : Oper}
theorem op_neq {t te : TypeId} {K : Kd α} {v : Value} {x : Option α} {C : List Nat} {w : World} (h : RdF (Kd.op K) s [v] x C) (hu : P.underlying t = some (.pointer te)) : (Op.equal t v (.pointer none)).run P w = .ok (!x.isSome) w := by
 obtain ⟨v1, e1, h⟩ := h
 obtain rfl : v = v1 := by simpa using e1
 unfold Op.equal Op.maxDepth Op.equalIn
 rw [Sem.run_bind', run_underlying hu]
 rcases h with ⟨rfl, rfl⟩ | ⟨x, ad, es, rfl, rfl, _⟩ <;> simp [Result.andThen]
theorem opn_q {t t2 te : TypeId} {K : Kd α} {v : Value} {x : Option α} {C : List Nat} {y : Operand} (h : RdF (Kd.op K) s [v] x C) (hu : P.underlying t = some (.pointer te))
    (ho : ops[i]? = some o) (hd : o.dst = some d) (hN : Nat.blt d N = true) (hw : Region.wanted o (yv e ops) = true) (hop : o.op = .binOp .neq t y (.const (.pointer none)) t2) (hy : ev e y = v) : Qv P N ops e s.w i d (.bool x.isSome) :=
  ⟨o, ho, hd, hN, by simp only [selB, hop], .inl ⟨hw, (by
    have h2 : ev e (.const (.pointer none)) = .pointer none := rfl
    have h3 := op_neq (P := P) (w := s.w) h hu
    obtain ⟨v1, e1, h⟩ := h
    obtain rfl : v = v1 := by simpa using e1
    simp only [execOp, hop, h2, hy]
    rcases h with ⟨rfl, rfl⟩ | ⟨x, ad, es, rfl, rfl, _⟩ <;> simp [binOp, eqGuard, h3, Result.andThen])⟩⟩
theorem nck_q {v : Value} {ad : Addr} {x : Operand} (e1 : v = .pointer (some ad))
    (ho : ops[i]? = some o) (hd : o.dst = some d) (hN : Nat.blt d N = true) (hw : Region.wanted o (yv e ops) = true) (hop : o.op = .nilCheck x) (hx : ev e x = v) : Qv P N ops e s.w i d (.pointer (some ad)) :=
  ⟨o, ho, hd, hN, by simp only [selB, hop], .inl ⟨hw, (by subst e1; simp [execOp, hop, hx])⟩⟩
theorem lnm_q {t kt et b c : Nat} {mm : MD} {x : Operand} (hB : MpF s b mm c) (hm : P.underlying t = some (.map kt et))
    (ho : ops[i]? = some o) (hd : o.dst = some d) (hN : Nat.blt d N = true) (hw : Region.wanted o (yv e ops) = true) (hop : o.op = .call { callee := .builtin .len, args := #[x], argTypes := #[t] }) (hx : ev e x = .map (some b)) : Qv P N ops e s.w i d (.int .i64 (mm.length : Int)) :=
  ⟨o, ho, hd, hN, by simp only [selB, hop], .inl ⟨hw, (by
    obtain ⟨es, cl, hb, hc, he⟩ := hB
    have hl : es.size = mm.length := by have := congrArg List.length he; simpa using this
    simp [execOp, hop, resolve, invoke, builtin, Builtin.len_, hx, run_underlying hm, Go.MapKept.run_getObj_map hb, goInt, hl, Result.andThen])⟩⟩
end
section
variable {P : Program} {f : Who} {N : Nat} {O ρ : Type} {m : Option O} {G : O → Option ρ} {R : ρ → Ending → World → Prop} {e : Env} {s : St} {k : List Item} {ops : Array Oper} {i d : Nat} {rest : List Nat} {o : Oper} {α : Type}
end
section
variable {P : Program} {f : Who} {N : Nat} {O ρ : Type} {G : O → Option ρ} {R : ρ → Ending → World → Prop} {k : List Item} {e : Env} {ops : Array Oper}
theorem clV {α : Type} {x : Option α} {km : α → Option O} {i d : Nat} {rest : List Nat} {o : Oper} {g : FuncId} {fn : Func} {c : Code} {args : Array Operand} {ts : Array TypeId} {vs : List Value} {s : St} {V : α → Value} (cc : Nat) (t0 : E5 (ops[i]?) (some o) (o.dst) (some d) (Nat.blt d N) (true) (Region.wanted o (yv e ops)) (true) (o.op) (.call { callee := .value (.func g), args := args, argTypes := ts })) (hg : P.funcs[g]? = some fn) (t6 : E3 (fn.body) (some c) ((fn.name == "runtime.NumGoroutine")) (false) (args.toList.map (ev e)) (vs)) (hc : ∀ a, x = some a → Calls P g vs.toArray s.w fun en w' => ∃ v, en = .returned v ∧ v = V a ∧ Ky [] s.w w')
  (h : ∀ a s', Stp [] s s' → Nw s s' cc → TM P f N (km a) G R (.inRegion ops rest :: k) (upd e d (V a)) s'.w) : TM P f N (x.bind km) G R (.inRegion ops (i :: rest) :: k) e s.w :=
 cl (e5_ t0).1 (e5_ t0).2.1 (e5_ t0).2.2.1 (e5_ t0).2.2.2.1 (e5_ t0).2.2.2.2 hg (e3_ t6).1 (e3_ t6).2.1 (e3_ t6).2.2 hc fun a v w' _ hq => by
  obtain ⟨rfl, ky⟩ := hq
  obtain ⟨s', rfl, p, n⟩ := nwx s w' cc ky
  exact h a s' p n
theorem clO {α : Type} {x : Option α} {km : α → Option O} {i d : Nat} {rest : List Nat} {o : Oper} {g : FuncId} {fn : Func} {c : Code} {args : Array Operand} {ts : Array TypeId} {vs : List Value} {s : St} {β : Type} {K : Kd β} {X : α → β} (cc : Nat) (t0 : E5 (ops[i]?) (some o) (o.dst) (some d) (Nat.blt d N) (true) (Region.wanted o (yv e ops)) (true) (o.op) (.call { callee := .value (.func g), args := args, argTypes := ts })) (hg : P.funcs[g]? = some fn) (t6 : E3 (fn.body) (some c) ((fn.name == "runtime.NumGoroutine")) (false) (args.toList.map (ev e)) (vs)) (hc : ∀ a, x = some a → Calls P g vs.toArray s.w fun en w' => ∃ v, en = .returned v ∧ FO K s.w w' [v] (X a) ∧ Ky [] s.w w')
  (h : ∀ a v s', Stp [] s s' → OwF K s' [v] (X a) cc → TM P f N (km a) G R (.inRegion ops rest :: k) (upd e d v) s'.w) : TM P f N (x.bind km) G R (.inRegion ops (i :: rest) :: k) e s.w :=
 cl (e5_ t0).1 (e5_ t0).2.1 (e5_ t0).2.2.1 (e5_ t0).2.2.2.1 (e5_ t0).2.2.2.2 hg (e3_ t6).1 (e3_ t6).2.1 (e3_ t6).2.2 hc fun a v w' _ hq => by
  obtain ⟨f, ky⟩ := hq
  obtain ⟨s', rfl, p, n⟩ := nwx s w' cc ky
  exact h a v s' p (f.c n)
end
end Go.Proofs.Ytlpbggnpiogioaa.V
