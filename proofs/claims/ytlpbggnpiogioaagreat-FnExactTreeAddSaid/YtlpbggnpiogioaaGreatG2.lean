import Derived.Test.YtlpbggnpiogioaaGreatG1
import Derived.Laws.FloatArith
import Derived.MapKept
import Derived.Carry
import Derived.RangeFuncRecord
import Derived.Lib.ConvBytes
import Derived.Lib.Overlaps
set_option linter.unusedVariables false
set_option linter.unusedSimpArgs false
namespace Go.Proofs.YtlpbggnpiogioaaGreat.V
open Go
def CallV (P : Program) (fv : Value) (args : List Value) (w : World) (R : Ending → World → Prop) : Prop :=
 ∃ g fn c fs cs, fv = .func (.func g) (List.toArray fs) (List.toArray cs) ∧ P.funcs[g]? = some fn ∧ fn.body = some c ∧ (fn.name == "runtime.NumGoroutine") = false ∧ Calls P g (List.toArray (fs ++ (args ++ cs))) w R
theorem Ky.trans {w w' w'' : World} (h : Ky [] w w') (h2 : Ky [] w' w'') : Ky [] w w'' :=
 ⟨h2.os.trans h.os, h2.tape.trans h.tape, h2.output.trans h.output, Nat.le_trans h.size h2.size, fun b hb _ => (h2.same b (Nat.lt_of_lt_of_le hb h.size) (by simp)).trans (h.same b hb (by simp))⟩
theorem RdF.top {α : Type} {K : Kd α} {s : St} {cs : List Value} {x : α} {C : List Nat} (h : RdF K s cs x C) : K.rd s.w cs x (fun _ => True) := K.rd_mono h fun _ _ _ => trivial
theorem RdF.ky {α : Type} {K : Kd α} {s : St} {cs : List Value} {x : α} {C : List Nat} {w' : World} (h : RdF K s cs x C) (k : Ky [] s.w w') : K.rd w' cs x (fun _ => True) :=
 K.rd_mono (K.rd_frame (K.rd_mono h fun b hb hl => (⟨hl, hb⟩ : b < s.w.heap.size ∧ memb C (s.g b) = true)) fun b hb _ => k.same b hb.1 (by simp)) fun _ _ _ => trivial
theorem BlF.ky {s : St} {b c : Nat} {t : TypeId} {cs : List Value} {w' : World} (h : BlF s b t cs c) (k : Ky [] s.w w') : BlW w' b t cs := by
 have hl : b < s.w.heap.size := (Array.getElem?_eq_some_iff.1 h.1).1
 unfold BlW; rw [k.same b hl (by simp)]; exact h.1
theorem Z0.b0 {F : Nat → Prop} {s : St} (z : Z0 F s) {b : Nat} {t : TypeId} {cs : List Value} (h : BlW s.w b t cs) (hF : F b) : BlF s b t cs 0 := ⟨h, (z.z b).1 hF⟩
theorem Z1.b0 {F : Nat → Prop} {os : List Nat} {s : St} (z : Z1 F os s) {b : Nat} {t : TypeId} {cs : List Value} (h : BlW s.w b t cs) (hF : F b) : BlF s b t cs 0 := ⟨h, (z.z b).1 hF⟩
section
variable {P : Program} {f : Who} {N : Nat} {O ρ : Type} {m : Option O} {G : O → Option ρ} {R : ρ → Ending → World → Prop} {e : Env} {w : World} {k : List Item} {ops : Array Oper}
theorem clv {α : Type} {x : Option α} {km : α → Option O} {i d : Nat} {rest : List Nat} {o : Oper} {y : Operand} {fv : Value} {args : Array Operand} {ts : Array TypeId} {vs : List Value} {Q : α → Value → World → Prop}
    (ho : ops[i]? = some o) (hd : o.dst = some d) (hN : Nat.blt d N = true) (hw : Region.wanted o (yv e ops) = true)
    (hop : o.op = .call { callee := .value y, args := args, argTypes := ts }) (hy : ev e y = fv) (hargs : args.toList.map (ev e) = vs)
    (hc : ∀ a, x = some a → CallV P fv vs w fun en w' => ∃ v, en = .returned v ∧ Q a v w')
    (h : ∀ a v w', x = some a → Q a v w' → TM P f N (km a) G R (.inRegion ops rest :: k) (upd e d v) w') : TM P f N (x.bind km) G R (.inRegion ops (i :: rest) :: k) e w := by
  intro oo hoo r hr
  obtain ⟨a, ha, hkm⟩ := Option.bind_eq_some_iff.1 hoo
  obtain ⟨g, fn, c, fs, cs, rfl', hg, hb, hn, hcalls⟩ := hc a ha
  have hn' : ¬ fn.name = "runtime.NumGoroutine" := by simpa using hn
  have hm : args.map (ev e) = vs.toArray := by rw [← hargs, ← Array.toList_map]
  have hrun : (execOp (ev e) o).run P w = .ok (.enter g (List.toArray (fs ++ (vs ++ cs)))) w := by
    simp [execOp, hop, resolve, hy, rfl', Deferred.ofValue, invoke, callFunc, hg, hb, hn', hm]
  refine T.call_core (E := fun v => upd e d v) ho hw (fun a' ha' v => by rw [hd]; exact ha'.put d hN v) hrun hcalls ?_
  rintro en w' ⟨v, rfl, hQ⟩
  exact ⟨v, rfl, h a v w' ha hQ oo hkm r hr⟩
theorem mkf {i d g : Nat} {rest : List Nat} {o : Oper} {first cap : Array Operand} {fs cs : List Value} (ho : ops[i]? = some o) (hd : o.dst = some d) (hN : Nat.blt d N = true) (hw : Region.wanted o (yv e ops) = true) (hop : o.op = .makeFunc (.func g) first cap)
    (hf : first.toList.map (ev e) = fs) (hc : cap.toList.map (ev e) = cs)
    (h : TM P f N m G R (.inRegion ops rest :: k) (upd e d (.func (.func g) (List.toArray fs) (List.toArray cs))) w) : TM P f N m G R (.inRegion ops (i :: rest) :: k) e w :=
  vl ho hd hN hw (by
    have h1 : first.map (ev e) = fs.toArray := by rw [← hf, ← Array.toList_map]
    have h2 : cap.map (ev e) = cs.toArray := by rw [← hc, ← Array.toList_map]
    simp [execOp, hop, Instr.makeFunc, h1, h2]) h
theorem mx {i d : Nat} {rest : List Nat} {o : Oper} {x y : Operand} {ts : Array TypeId} {k1 k2 : IntKind} {a b : Int} (ho : ops[i]? = some o) (hd : o.dst = some d) (hN : Nat.blt d N = true) (hw : Region.wanted o (yv e ops) = true) (hop : o.op = .call { callee := .builtin .max, args := #[x, y], argTypes := ts }) (hx : ev e x = .int k1 a) (hy : ev e y = .int k2 b)
    (h : TM P f N m G R (.inRegion ops rest :: k) (upd e d (.int k1 (if b > a then b else a))) w) : TM P f N m G R (.inRegion ops (i :: rest) :: k) e w :=
  vl ho hd hN hw (by simp [execOp, hop, resolve, invoke, builtin, Builtin.max_, Builtin.max2, hx, hy, Result.andThen]) h
end
end Go.Proofs.YtlpbggnpiogioaaGreat.V
set_option linter.unusedVariables false
set_option linter.unusedSimpArgs false
namespace Go.Proofs.YtlpbggnpiogioaaGreat.V
open Go
section
variable {α β : Type} {A : Kd α} {B : Kd β} {s : St} {c1 c2 : List Value} {x : α} {y : β} {d : Nat}
theorem ow_l (h : ∀ w, A.ow w c1 x []) (h2 : OwF B s c2 y d) : OwF (Kd.pair A B) s (c1 ++ c2) (x, y) d := by
 obtain ⟨os, ho, hn, hc⟩ := h2
 exact ⟨os, ⟨c1, c2, [], os, rfl, rfl, h _, ho⟩, hn, hc⟩
theorem ow_r (h : OwF A s c1 x d) (h2 : ∀ w, B.ow w c2 y []) : OwF (Kd.pair A B) s (c1 ++ c2) (x, y) d := by
 obtain ⟨os, ho, hn, hc⟩ := h
 exact ⟨os, ⟨c1, c2, os, [], rfl, by simp, ho, h2 _⟩, hn, hc⟩
theorem ow_2 {d' : Nat} (h : OwF A s c1 x d) (h2 : OwF B s c2 y d') (hd : Nat.beq d d' = false) (h10 : Nat.ble 40 d' = true) : ∃ s' : St, s.w = s'.w ∧ Stp [d'] s s' ∧ OwF (Kd.pair A B) s' (c1 ++ c2) (x, y) d := by
 have hdd : d ≠ d' := fun h => by subst h; simp at hd
 obtain ⟨os, ho, hn, hc⟩ := h
 obtain ⟨ps, po, pn, pc⟩ := h2
 refine ⟨⟨s.w, fun b => if s.g b = d' then d else s.g b⟩, rfl, ⟨rfl, rfl, rfl, Nat.le_refl _, fun b hb hl => ?_, fun b hb hm => ⟨?_, rfl⟩⟩, os ++ ps, ⟨c1, c2, os, ps, rfl, rfl, ho, po⟩, ?_, fun b hb => ?_⟩
 · have := Nat.le_of_ble_eq_true h10
   have : ¬ s.g b = d' := by omega
   simp [this]
 · have : ¬ s.g b = d' := fun h => by rw [h] at hm; simp [memb] at hm
   simp [this]
 · refine List.nodup_append.2 ⟨hn, pn, fun a ha b hb hab => ?_⟩
   subst hab
   exact hdd ((hc a ha).symm.trans (pc a hb))
 · rcases List.mem_append.1 hb with hb | hb
   · have := hc b hb
     by_cases h : s.g b = d' <;> simp [this]
   · simp [pc b hb]
end
theorem Yc (k : IntKind) (x : Int) : ∀ w, (Kd.int k).ow w [.int k x] x [] := fun _ => ⟨rfl, rfl⟩
theorem fz_bool (x : Bool) : ∀ w, Kd.bool.ow w [.bool x] x [] := fun _ => ⟨rfl, rfl⟩
theorem fz_flt {v : Value} {x : Nat} (h : FL v x) : ∀ w, Kd.flt.ow w [v] x [] := fun _ => ⟨⟨v, rfl, h⟩, rfl⟩
theorem fz_nil {α : Type} (e : TypeId) (K : Kd α) : ∀ w, (Kd.sl e K).ow w [.slice none 0 0] [] [] := fun _ => ⟨_, rfl, [], [], [], rfl, ⟨by simp, .inl ⟨rfl, rfl, rfl⟩⟩, ⟨rfl, rfl⟩⟩
theorem fz_pair {α β : Type} {A : Kd α} {B : Kd β} {c1 c2 : List Value} {x : α} {y : β} (h : ∀ w, A.ow w c1 x []) (h2 : ∀ w, B.ow w c2 y []) : ∀ w, (Kd.pair A B).ow w (c1 ++ c2) (x, y) [] := fun w => ⟨c1, c2, [], [], rfl, rfl, h w, h2 w⟩
theorem fz_iso {α γ : Type} {A : Kd α} {c1 : List Value} (g : γ → α) (z : γ) (h : ∀ w, A.ow w c1 (g z) []) : ∀ w, (Kd.iso A g).ow w c1 z [] := h
theorem Xz {α γ : Type} {A : Kd α} {s : St} {c1 : List Value} {d : Nat} (g : γ → α) (z : γ) (h : OwF A s c1 (g z) d) : OwF (Kd.iso A g) s c1 z d := h
theorem ow_z {α : Type} {A : Kd α} {c1 : List Value} {x : α} (s : St) (d : Nat) (h : ∀ w, A.ow w c1 x []) : OwF A s c1 x d := ⟨[], h _, List.nodup_nil, fun _ h => nomatch h⟩
def Lens {α β : Type} (K : Kd α) (A : Kd β) (q : Nat) (get : α → β) (set : α → β → α) : Prop :=
 ∀ w es x os, K.ow w es x os → ∃ u o1 o2 o3, es[q]? = some u ∧ os = o1 ++ (o2 ++ o3) ∧ A.ow w [u] (get x) o2 ∧
  ∀ w' y o2', A.ow w' [u] y o2' → Agr w w' (· ∈ o1 ++ o3) → K.ow w' es (set x y) (o1 ++ (o2' ++ o3))
theorem ln_sl {α : Type} {e : TypeId} {K : Kd α} : Lens (Kd.sl e K) (Kd.sl e K) 0 (fun x => x) (fun _ y => y) := fun w es x os h => by
 obtain ⟨v, rfl, h⟩ := h
 exact ⟨v, [], os, [], rfl, by simp, ⟨v, rfl, h⟩, fun w' y o2' hy _ => by simpa using hy⟩
theorem ln_left {α β γ : Type} {K : Kd α} {B : Kd γ} {A : Kd β} {q : Nat} {get : α → β} {set : α → β → α} (h : Lens K A q get set) : Lens (Kd.pair K B) A q (fun p => get p.1) (fun p y => (set p.1 y, p.2)) := fun w es x os hx => by
 obtain ⟨c1, c2, p1, p2, rfl, rfl, h1, h2⟩ := hx
 obtain ⟨u, o1, o2, o3, e1, rfl, e3, e4⟩ := h w c1 x.1 p1 h1
 refine ⟨u, o1, o2, o3 ++ p2, ?_, by simp, e3, fun w' y o2' hy ha => ⟨c1, c2, o1 ++ (o2' ++ o3), p2, rfl, by simp, e4 w' y o2' hy fun b hb => ha b (by simp at hb ⊢; rcases hb with hb | hb <;> simp [hb]), B.ow_frame h2 fun b hb => ha b (by simp [hb])⟩⟩
 rw [List.getElem?_append_left (List.getElem?_eq_some_iff.1 e1).1]; exact e1
theorem ln_right {α β γ : Type} {K : Kd α} {B : Kd γ} {A : Kd β} {q : Nat} {get : α → β} {set : α → β → α} (h : Lens K A q get set) : Lens (Kd.pair B K) A (B.n + q) (fun p => get p.2) (fun p y => (p.1, set p.2 y)) := fun w es x os hx => by
 obtain ⟨c1, c2, p1, p2, rfl, rfl, h1, h2⟩ := hx
 obtain ⟨u, o1, o2, o3, e1, rfl, e3, e4⟩ := h w c2 x.2 p2 h2
 have hl := B.rd_len (B.ow_rd h1)
 refine ⟨u, p1 ++ o1, o2, o3, ?_, by simp, e3, fun w' y o2' hy ha => ⟨c1, c2, p1, o1 ++ (o2' ++ o3), rfl, by simp, B.ow_frame h1 fun b hb => ha b (by simp [hb]), e4 w' y o2' hy fun b hb => ha b (by simp at hb ⊢; rcases hb with hb | hb <;> simp [hb])⟩⟩
 rw [List.getElem?_append_right (by omega), hl, Nat.add_sub_cancel_left]; exact e1
theorem ln_iso {α β γ : Type} {K : Kd α} {A : Kd β} {q : Nat} {get : α → β} {set : α → β → α} (g : γ → α) (get' : γ → β) (set' : γ → β → γ) (h : Lens K A q get set) (hg : ∀ x, get (g x) = get' x) (hs : ∀ x y, set (g x) y = g (set' x y)) : Lens (Kd.iso K g) A q get' set' := fun w es x os hx => by
 obtain ⟨u, o1, o2, o3, e1, e2, e3, e4⟩ := h w es (g x) os hx
 refine ⟨u, o1, o2, o3, e1, e2, by rw [← hg]; exact e3, fun w' y o2' hy ha => ?_⟩
 have := e4 w' y o2' hy ha
 rw [hs] at this
 exact this
theorem focus {α β : Type} [Inhabited α] {K : Kd α} {A : Kd β} {q te : Nat} {get : α → β} {set : α → β → α} {s : St} {v u : Value} {xs : List α} {c : Nat} {ii : Int} {ad : Addr} {es : List Value} {C : List Nat} (L : Lens K A q get set) (hO : OwF (Kd.sl te K) s [v] xs c) (h0 : 0 ≤ ii) (h1 : ii < xs.length) (hA : IxA v K.n ii ad) (hC : CeF s ad es C) (hu : es[q]? = some u) (hqn : Nat.blt q K.n = true) :
    ∃ o2, A.ow s.w [u] (get (at_ xs ii)) o2 ∧ o2.Nodup ∧ (∀ b ∈ o2, s.g b = c) ∧ ∀ (w' : World) (y : β) (col : Nat), Ky o2 s.w w' → FW A o2 s.w w' [u] y →
      ∃ s' : St, s'.w = w' ∧ Stp [c] s s' ∧ OwF (Kd.sl te K) s' [v] (xs.set ii.toNat (set (at_ xs ii) y)) c := by
  obtain ⟨os, ⟨v1, e1, cells, o1, o2, rfl, hR, hE⟩, hnd, hcol⟩ := hO
  obtain rfl : v = v1 := by simpa using e1
  obtain ⟨Aa, l, cap, hv, rfl⟩ := hA
  have hi : ii.toNat < xs.length := by omega
  have hq : q < K.n := by simp [Nat.blt] at hqn; omega
  obtain ⟨hl, hR2⟩ := hR
  rcases hR2 with ⟨h2, _⟩ | ⟨g, cap', cur, h2, hg, hlc, hcm, hsz, htk, rfl⟩
  · rw [h2] at hv; cases hv
  · rw [h2] at hv
    simp only [Value.slice.injEq, Option.some.injEq] at hv
    obtain ⟨rfl, rfl, rfl⟩ := hv
    obtain ⟨p1, p2, p3, rfl, hK, hset⟩ := hE.at_ ii.toNat hi
    rw [at_eq xs ii hi]
    obtain ⟨u', r1, r2, r3, e1, rfl, e3, e4⟩ := L _ _ _ _ hK
    have hmul : (ii.toNat + 1) * K.n ≤ xs.length * K.n := Nat.mul_le_mul_right _ hi
    rw [Nat.add_mul] at hmul
    -- the cell is the one that was loaded
    have huu : u' = u := by
      have hcell := hC.2 q u hu
      rw [Addr.add_add', Addr.add_mid, Nat.zero_add] at hcell
      have hc2 : cells[ii.toNat * K.n + q]? = some u' := by
        rw [List.getElem?_take, if_pos hq, List.getElem?_drop] at e1
        exact e1
      rw [← htk, List.getElem?_take] at hc2
      split at hc2
      · have : s.w.cell? ⟨g, ii.toNat * K.n + q, none⟩ = cur[ii.toNat * K.n + q]? := hg.cell _
        rw [this, ← Array.getElem?_toList] at hcell
        rw [hcell] at hc2
        exact (Option.some.inj hc2).symm
      · cases hc2
    subst huu
    have hnd' := List.nodup_cons.1 (show (g :: (p1 ++ (r1 ++ (r2 ++ r3)) ++ p3)).Nodup from hnd)
    have hgn := hnd'.1
    have hn2 := hnd'.2
    have hgc := hcol g (by simp)
    refine ⟨r2, e3, ?_, fun b hb => hcol b (by simp [hb]), fun w' y col ky hfw => ?_⟩
    · have h3 := (List.nodup_append.1 hn2).1
      have h4 := (List.nodup_append.1 h3).2.1
      have h5 := (List.nodup_append.1 h4).2.1
      exact (List.nodup_append.1 h5).1
    · obtain ⟨o2', hy, hyn, hyf⟩ := hfw
      have hlt : ∀ b ∈ p1 ++ (r1 ++ (r2 ++ r3)) ++ p3, b < s.w.heap.size := fun b hb => hE.lt b hb
      have hgl : g < s.w.heap.size := hg.lt
      have hperm : (p1 ++ (r1 ++ (r2 ++ r3)) ++ p3).Nodup := hn2
      have hout : ∀ b, b ∈ p1 ++ r1 ++ r3 ++ p3 → b ∉ r2 := fun b hb hb2 => by
        have hc1 : (p1 ++ (r1 ++ (r2 ++ r3)) ++ p3).count b ≤ 1 := List.nodup_iff_count.1 hperm b
        have hc2 : 1 ≤ r2.count b := List.count_pos_iff.2 hb2
        have hc3 : 1 ≤ (p1 ++ r1 ++ r3 ++ p3).count b := List.count_pos_iff.2 hb
        simp only [List.count_append] at hc1 hc3
        omega
      have hsame : ∀ b, b ∈ p1 ++ r1 ++ r3 ++ p3 → w'.heap[b]? = s.w.heap[b]? := fun b hb => ky.same b (hlt b (by simp at hb ⊢; rcases hb with hb | hb | hb | hb <;> simp [hb])) (hout b hb)
      have hK' := e4 w' y o2' hy fun b hb _ => hsame b (by simp at hb ⊢; rcases hb with hb | hb <;> simp [hb])
      have hnew := hset w' _ _ _ hK' fun b hb _ => hsame b (by simp at hb ⊢; rcases hb with hb | hb <;> simp [hb])
      have hcells : cells.take (ii.toNat * K.n) ++ ((cells.drop (ii.toNat * K.n)).take K.n) ++ cells.drop ((ii.toNat + 1) * K.n) = cells := by
        rw [Nat.add_mul, Nat.one_mul, ← List.drop_drop, List.append_assoc, List.take_append_drop, List.take_append_drop]
      rw [hcells] at hnew
      have hgr2 : g ∉ r2 := fun h => hgn (by simp [h])
      refine ⟨⟨w', fun b => open Classical in if b < s.w.heap.size then s.g b else if b ∈ o2' then c else col⟩, rfl, ⟨ky.os, ky.tape, ky.output, ky.size, fun b hb _ => by simp [hb], fun b hb hm => ⟨by simp [hb], ky.same b hb fun h => ?_⟩⟩, [g] ++ (p1 ++ (r1 ++ (o2' ++ r3)) ++ p3), ⟨v, rfl, cells, [g], _, rfl, ⟨by rw [List.length_set]; exact hl, .inr ⟨g, cap', cur, by rw [List.length_set]; exact h2, hg.eq (ky.same g hgl hgr2), by simpa using hlc, hcm, hsz, by rw [List.length_set]; exact htk, rfl⟩⟩, hnew⟩, ?_, fun b hb => ?_⟩
      · have := hcol b (by simp [h])
        rw [this] at hm; simp [memb] at hm
      · rw [List.nodup_iff_count]
        intro b
        have c0 : (g :: (p1 ++ (r1 ++ (r2 ++ r3)) ++ p3)).count b ≤ 1 := List.nodup_iff_count.1 hnd b
        have c1 : o2'.count b ≤ 1 := List.nodup_iff_count.1 hyn b
        rw [List.count_cons] at c0
        simp only [List.singleton_append, List.count_cons, List.count_append] at c0 ⊢
        by_cases hb : b ∈ o2'
        · rcases hyf b hb with h | h
          · have : 1 ≤ r2.count b := List.count_pos_iff.2 h
            omega
          · have : ∀ l : List Nat, (∀ x ∈ l, x < s.w.heap.size) → l.count b = 0 := fun l hl => List.count_eq_zero.2 fun hm => by have := hl b hm; omega
            have q1 := this p1 fun x hx => hlt x (by simp [hx])
            have q2 := this r1 fun x hx => hlt x (by simp [hx])
            have q3 := this r3 fun x hx => hlt x (by simp [hx])
            have q4 := this p3 fun x hx => hlt x (by simp [hx])
            have q5 : (g == b) = false := by simp; omega
            rw [q1, q2, q3, q4, q5]
            simp; omega
        · have : o2'.count b = 0 := List.count_eq_zero.2 hb
          omega
      · dsimp only
        simp only [List.singleton_append, List.mem_cons, List.mem_append] at hb
        by_cases hl2 : b < s.w.heap.size
        · rw [if_pos hl2]
          rcases hb with rfl | (hb | hb | hb | hb) | hb
          · exact hgc
          · exact hcol b (by simp [hb])
          · exact hcol b (by simp [hb])
          · rcases hyf b hb with h | h
            · exact hcol b (by simp [h])
            · omega
          · exact hcol b (by simp [hb])
          · exact hcol b (by simp [hb])
        · rw [if_neg hl2]
          rcases hb with rfl | (hb | hb | hb | hb) | hb
          · exact absurd hgl hl2
          · exact absurd (hlt b (by simp [hb])) hl2
          · exact absurd (hlt b (by simp [hb])) hl2
          · rw [if_pos hb]
          · exact absurd (hlt b (by simp [hb])) hl2
          · exact absurd (hlt b (by simp [hb])) hl2
section
variable {P : Program} {f : Who} {N : Nat} {O ρ : Type} {m : Option O} {G : O → Option ρ} {R : ρ → Ending → World → Prop} {e : Env} {s : St} {k : List Item} {ops : Array Oper} {i d : Nat} {rest : List Nat} {o : Oper}
theorem nb {α : Type} {v : α} {km : α → Option O} {todo : List Item} {w : World} (h : ∀ y, y = v → TM P f N (km y) G R todo e w) : TM P f N ((some v).bind km) G R todo e w := h v rfl
theorem som {α : Type} [Inhabited α] {K : Kd α} {t te : TypeId} {x y : Operand} {v : Value} {vs : List Value} {xs : List α} {c d' : Nat} {ii : Int} {ad : Addr} {x' : α} (hO : OwF (Kd.sl te K) s [v] xs c) (hA : IxA v K.n ii ad) (h0 : 0 ≤ ii) (h1 : ii < xs.length) (hX : OwF K s vs x' d') (hcd : Nat.beq c d' = false) (h10 : Nat.ble 40 d' = true) (hs : (P.info? t).map (·.size) = some K.n)
    (ho : ops[i]? = some o) (hd : o.dst = none) (hw : Region.wanted o (yv e ops) = true) (hop : o.op = .store t x y) (hx : ev e x = .pointer (some ad)) (hy : (ev e y).cells = vs.toArray)
    (h : ∀ s', Stp [c, d'] s s' → OwF (Kd.sl te K) s' [v] (xs.set ii.toNat x') c → TM P f N m G R (.inRegion ops rest :: k) e s'.w) : TM P f N m G R (.inRegion ops (i :: rest) :: k) e s.w := by
  have hcd' : c ≠ d' := fun h => by subst h; simp at hcd
  obtain ⟨os, ⟨v1, e1, cells, o1, o2, rfl, hR, hE⟩, hnd, hcol⟩ := hO
  obtain rfl : v = v1 := by simpa using e1
  obtain ⟨ox, hxo, hxn, hxc⟩ := hX
  have hvl : vs.length = K.n := K.rd_len (K.ow_rd hxo)
  have hv1 : ∀ u ∈ vs, u.oneCell' = true := K.rd_one (K.ow_rd hxo)
  obtain ⟨Aa, l, cap, hv, rfl⟩ := hA
  have hi : ii.toNat < xs.length := by omega
  obtain ⟨hl, hR2⟩ := hR
  rcases hR2 with ⟨h2, _⟩ | ⟨g, cap', cur, h2, hg, hlc, hcm, hsz, htk, rfl⟩
  · rw [h2] at hv; cases hv
  · rw [h2] at hv
    simp only [Value.slice.injEq, Option.some.injEq] at hv
    obtain ⟨rfl, rfl, rfl⟩ := hv
    obtain ⟨p1, p2, p3, rfl, hK, hset⟩ := hE.at_ ii.toNat hi
    have hmul : (ii.toNat + 1) * K.n ≤ xs.length * K.n := Nat.mul_le_mul_right _ hi
    have hmul' := hmul
    rw [Nat.add_mul, Nat.one_mul] at hmul'
    have hcapm : xs.length * K.n ≤ cap' * K.n := Nat.mul_le_mul_right _ hlc
    have hgl : g < s.w.heap.size := hg.lt
    have hgc := hcol g (by simp)
    have hst := storeCells_hr P g (ii.toNat * K.n) te vs 0 cur s.w hg (by rw [hvl, hsz]; omega) hv1
    simp only [Nat.add_zero] at hst
    have had : (⟨g, 0, none⟩ : Addr).add (ii.toNat * K.n) = ⟨g, ii.toNat * K.n, none⟩ := by rw [Addr.add_mid, Nat.zero_add]
    rw [had] at hx
    have hrun : (Instr.storeAt t (.pointer (some ⟨g, ii.toNat * K.n, none⟩)) (ev e y)).run P s.w = .ok () (s.w.setRow g (cur.toList.take (ii.toNat * K.n) ++ vs ++ cur.toList.drop (ii.toNat * K.n + vs.length)).toArray) := by
      unfold Instr.storeAt
      rw [Sem.run_bind']
      simp only [Instr.sureAddr, Sem.run_pure, Result.andThen]
      unfold storeVar
      rw [Sem.run_bind', size_run hs]
      simp only [Result.andThen, hy]
      simp [hvl]
      simp [hvl] at hst
      exact hst
    have hd10 := Nat.le_of_ble_eq_true h10
    refine vd (w' := s.w.setRow g (cur.toList.take (ii.toNat * K.n) ++ vs ++ cur.toList.drop (ii.toNat * K.n + vs.length)).toArray) ho hd hw (by simp [execOp, hop, hx, hrun, Result.andThen]) (h ⟨_, fun b => if s.g b = d' then c else s.g b⟩ ⟨rfl, rfl, rfl, by simp, fun b hb hl => ?_, fun b hb hm => ?_⟩ ?_)
    · have : ¬ s.g b = d' := by omega
      simp [this]
    · simp only [memb, Bool.or_eq_false_iff] at hm
      have q1 : s.g b ≠ c := fun h => by rw [h] at hm; simp at hm
      have q2 : ¬ s.g b = d' := fun h => by rw [h] at hm; simp at hm
      refine ⟨by simp [q2], setRow_other s.w g b _ fun e => q1 (by rw [e]; exact hgc)⟩
    · have hnd' := List.nodup_cons.1 (show (g :: (p1 ++ p2 ++ p3)).Nodup from hnd)
      have hoth : ∀ b, b ≠ g → (s.w.setRow g (cur.toList.take (ii.toNat * K.n) ++ vs ++ cur.toList.drop (ii.toNat * K.n + vs.length)).toArray).heap[b]? = s.w.heap[b]? := fun b hb => setRow_other s.w g b _ hb
      have hgx : g ∉ ox := fun h => hcd' (hgc.symm.trans (hxc g h))
      have hK' := K.ow_frame hxo (w' := s.w.setRow g (cur.toList.take (ii.toNat * K.n) ++ vs ++ cur.toList.drop (ii.toNat * K.n + vs.length)).toArray) fun b hb _ => hoth b fun h => hgx (h ▸ hb)
      have hnew := hset _ vs x' ox hK' fun b hb _ => hoth b fun h => hnd'.1 (by subst h; simp at hb ⊢; rcases hb with hb | hb <;> simp [hb])
      refine ⟨[g] ++ (p1 ++ ox ++ p3), ⟨v, rfl, _, [g], _, rfl, ⟨?_, .inr ⟨g, cap', _, by rw [List.length_set]; exact h2, hg.row3 _ _ (by rw [hvl, hsz]; omega), by simpa using hlc, hcm, ?_, ?_, rfl⟩⟩, hnew⟩, ?_, fun b hb => ?_⟩
      · simp only [List.length_set, List.length_append, List.length_take, List.length_drop, hvl, hl]
        rw [Nat.add_mul, Nat.one_mul]; omega
      · simp only [List.size_toArray, List.length_append, List.length_take, List.length_drop, Array.length_toList, hvl, hsz]
        omega
      · rw [List.length_set, ← htk, hvl, Nat.add_mul, Nat.one_mul]
        have e2 : (cur.toList.take (xs.length * K.n)).take (ii.toNat * K.n) = cur.toList.take (ii.toNat * K.n) := by rw [List.take_take]; congr 1; omega
        have e3 : (cur.toList.take (xs.length * K.n)).drop (ii.toNat * K.n + K.n) = (cur.toList.drop (ii.toNat * K.n + K.n)).take (xs.length * K.n - (ii.toNat * K.n + K.n)) := by rw [List.drop_take]
        rw [e2, e3]
        have hla : (cur.toList.take (ii.toNat * K.n) ++ vs).length = ii.toNat * K.n + K.n := by
          rw [List.length_append, List.length_take, Array.length_toList, hvl, hsz]; omega
        rw [List.take_append, List.take_of_length_le (by omega), hla]
      · have hdj : ∀ b, b ∈ ox → b ∉ g :: (p1 ++ p2 ++ p3) := fun b hb hb2 => hcd' ((hcol b hb2).symm.trans (hxc b hb))
        rw [List.nodup_iff_count]
        intro b
        have c0 : (g :: (p1 ++ p2 ++ p3)).count b ≤ 1 := List.nodup_iff_count.1 hnd b
        have c1 : ox.count b ≤ 1 := List.nodup_iff_count.1 hxn b
        rw [List.count_cons] at c0
        simp only [List.singleton_append, List.count_cons, List.count_append] at c0 ⊢
        by_cases hb : b ∈ ox
        · have z0 : (g :: (p1 ++ p2 ++ p3)).count b = 0 := List.count_eq_zero.2 (hdj b hb)
          rw [List.count_cons] at z0
          simp only [List.count_append] at z0
          omega
        · have : ox.count b = 0 := List.count_eq_zero.2 hb
          omega
      · dsimp only
        simp only [List.singleton_append, List.mem_cons, List.mem_append] at hb
        rcases hb with rfl | (hb | hb) | hb
        · simp [hgc]
        · simp [hcol b (by simp [hb])]
        · simp [hxc b hb]
        · simp [hcol b (by simp [hb])]
end
end Go.Proofs.YtlpbggnpiogioaaGreat.V
set_option linter.unusedVariables false
set_option linter.unusedSimpArgs false
namespace Go.Proofs.YtlpbggnpiogioaaGreat.V
open Go
def far (op : BinOp) (x y : Nat) : Nat := (floatBits op .f64 x y).getD nanB
def fneg (x : Nat) : Nat := bif isN x then nanB else Op.negFloat .f64 x
theorem Xk {v : Value} {x : Nat} (h : FL v x) {s : St} : RdF Kd.flt s [v] x [] := ⟨v, rfl, h⟩
theorem cs_flt {v : Value} {x x' : Nat} (h : FL v x') : CellSet Kd.flt 0 v x x' :=
 ⟨Nat.one_pos, h.one, fun w cs os hh => by obtain ⟨⟨u, rfl, _⟩, rfl⟩ := hh; exact ⟨⟨v, rfl, h⟩, rfl⟩⟩
theorem fcmp_cn (a b : Nat) : fcmp .f64 (cn a) (cn b) = fcmp .f64 a b := order_cn a b
theorem fbin_cn (op : BinOp) (a b : Nat) : fbin op .f64 (cn a) (cn b) = fbin op .f64 a b := by
 unfold fbin
 simp only [fcmp_cn]
open Ieee in
theorem nan_ops (x y : Datum) (h : x.isNaN = true ∨ y.isNaN = true) : x.sum y = none ∧ x.product y = none ∧ ∀ d, x.quotient d y = none := by
 rcases h with h | h
 · cases x <;> first | cases h | skip
   refine ⟨rfl, ?_, fun d => ?_⟩ <;> cases y <;> rfl
 · cases y <;> first | cases h | skip
   refine ⟨?_, ?_, fun d => ?_⟩ <;> cases x <;> rfl
open Ieee in
theorem sum_notN {x y r : Datum} (h : x.sum y = some r) : r.isNaN = false := by
 cases x <;> cases y <;> simp only [Datum.sum] at h
 all_goals first
  | (cases h; rfl)
  | cases h
  | (split at h <;> first | (cases h; rfl) | cases h)
open Ieee in
theorem product_notN {x y r : Datum} (h : x.product y = some r) : r.isNaN = false := by
 cases x <;> cases y <;> simp only [Datum.product] at h
 all_goals first
  | (cases h; rfl)
  | cases h
  | (split at h <;> first | (cases h; rfl) | cases h)
open Ieee in
theorem quotient_notN {d : Nat} {x y r : Datum} (h : x.quotient d y = some r) : r.isNaN = false := by
  cases x <;> cases y <;> simp only [Datum.quotient] at h
  all_goals first
    | (cases h; rfl)
    | cases h
    | (split at h
       · first | (cases h; rfl) | cases h | (split at h <;> first | (cases h; rfl) | cases h)
       · cases h; rfl)
theorem read_opp (x : Ieee.Datum) : x.opposite.isNaN = x.isNaN := by cases x <;> rfl
theorem isN_read (b : Nat) : (D.read b).isNaN = isN b := by
 cases h : isN b with
 | true => obtain ⟨s, f, e⟩ := read_nan h; rw [e]; rfl
 | false =>
  unfold isN at h
  have h : ¬ 9218868437227405312 < b % 9223372036854775808 := of_decide_eq_false h
  rw [readD]
  split
  · rfl
  · split
    · rfl
    · rw [if_pos (by omega)]; rfl
theorem floatBits_cn (op : BinOp) (a b : Nat) : floatBits op .f64 (cn a) (cn b) = floatBits op .f64 a b := by
 have key : isN a = true ∨ isN b = true → ∀ a' b', (isN a' = isN a) → (isN b' = isN b) → floatBits op .f64 a' b' = none := by
  intro h a' b' ha hb
  have h' : (D.read a').isNaN = true ∨ (D.read b').isNaN = true := by rw [isN_read, isN_read, ha, hb]; exact h
  have h2 : (D.read a').isNaN = true ∨ (D.read b').opposite.isNaN = true := by rw [read_opp]; exact h'
  obtain ⟨k1, k2, k3⟩ := nan_ops _ _ h'
  obtain ⟨k4, _, _⟩ := nan_ops _ _ h2
  unfold floatBits
  cases op <;> simp only []
  · show ((D.read a').sum (D.read b')).map D.write = none; rw [k1]; rfl
  · show ((D.read a').sum (D.read b').opposite).map D.write = none; rw [k4]; rfl
  · show ((D.read a').product (D.read b')).map D.write = none; rw [k2]; rfl
  · show ((D.read a').quotient _ (D.read b')).map D.write = none; rw [k3]; rfl
 cases ha : isN a with
 | true => rw [key (.inl ha) _ _ (isN_cn a) (isN_cn b), key (.inl ha) _ _ rfl rfl]
 | false =>
  cases hb : isN b with
  | true => rw [key (.inr hb) _ _ (isN_cn a) (isN_cn b), key (.inr hb) _ _ rfl rfl]
  | false => rw [cn_of ha, cn_of hb]
theorem floatBits_notN {op : BinOp} {a b r : Nat} (h : floatBits op .f64 a b = some r) : isN r = false := by
 unfold floatBits at h
 have map : ∀ {d : Option Ieee.Datum}, d.map D.write = some r → (∀ e, d = some e → e.isNaN = false) → isN r = false := by
  intro d hd he
  cases d with
  | none => cases hd
  | some e => cases hd; exact write_notN e (he e rfl)
 cases op <;> simp only at h <;> first | (cases h; done) | skip
 · exact map h fun e he => sum_notN he
 · exact map h fun e he => sum_notN he
 · exact map h fun e he => product_notN he
 · exact map h fun e he => quotient_notN he
theorem FL.bits {v : Value} {x : Nat} (h : FL v x) (hn : isN x = false) : v = .float .f64 x := by
 obtain ⟨b, rfl, rfl⟩ := h
 rw [isN_cn] at hn
 rw [cn_of hn]
theorem far_run {P : Program} (w : World) {op : BinOp} (hop : op = .add ∨ op = .sub ∨ op = .mul ∨ op = .quo) (t : TypeId) (a b : Nat) :
    ∃ r n, (binOp op t (.float .f64 a) (.float .f64 b)).run P w = .ok (.float .f64 r) { w with drawn := n } ∧ cn r = far op (cn a) (cn b) := by
  unfold far
  rw [floatBits_cn]
  cases h : floatBits op .f64 a b with
  | some r =>
    refine ⟨r, w.drawn, ?_, ?_⟩
    · rw [run_float_arith w op t .f64 a b r h]
    · rw [cn_of (floatBits_notN h)]; rfl
  | none =>
    refine ⟨Question.cut (.nanBits .f64 a b) (w.tape w.drawn (.nanBits .f64 a b)), w.drawn + 1, ?_, ?_⟩
    · have hn : (Op.floatArith op .f64 a b).run P w = .ok (.float .f64 (Question.cut (.nanBits .f64 a b) (w.tape w.drawn (.nanBits .f64 a b)))) { w with drawn := w.drawn + 1 } := by
        unfold floatBits at h
        rcases hop with rfl | rfl | rfl | rfl <;> simp only at h <;> simp [Op.floatArith, h, choose, Sem.run, Question.forced]
      rcases hop with rfl | rfl | rfl | rfl <;> simpa [binOp] using hn
    · have : isN (Question.cut (.nanBits .f64 a b) (w.tape w.drawn (.nanBits .f64 a b))) = true := by
        generalize w.tape w.drawn (.nanBits .f64 a b) = t
        have hc : Question.cut (.nanBits .f64 a b) t = (t % 2) * 2 ^ 63 + 0x7ff0000000000000 + 1 + (t / 2) % (2 ^ 52 - 1) := rfl
        have h2 := Nat.mod_lt (t / 2) (show 0 < 2 ^ 52 - 1 by decide)
        have h1 : t % 2 = 0 ∨ t % 2 = 1 := by omega
        unfold isN
        rw [decide_eq_true_eq, hc]
        rcases h1 with h1 | h1 <;> rw [h1] <;> omega
      rw [cn_nan this]; rfl
section
variable {P : Program} {f : Who} {N : Nat} {O ρ : Type} {m : Option O} {G : O → Option ρ} {R : ρ → Ending → World → Prop} {e : Env} {s : St} {k : List Item} {ops : Array Oper} {i d : Nat} {rest : List Nat} {o : Oper}
theorem vmk {i d : Nat} {o : Oper} {rest : List Nat} {v : Value} {n : Nat} (ho : ops[i]? = some o) (hd : o.dst = some d) (hN : Nat.blt d N = true) (hw : Region.wanted o (yv e ops) = true) (hr : (execOp (ev e) o).run P s.w = .ok (.value v) { s.w with drawn := n })
    (h : ∀ s', Stp [] s s' → TM P f N m G R (.inRegion ops rest :: k) (upd e d v) s'.w) : TM P f N m G R (.inRegion ops (i :: rest) :: k) e s.w :=
  vl ho hd hN hw hr (h ⟨{ s.w with drawn := n }, s.g⟩ ⟨rfl, rfl, rfl, Nat.le_refl _, fun _ _ _ => rfl, fun _ _ _ => ⟨rfl, rfl⟩⟩)
theorem fq_ {op : BinOp} {t t' : TypeId} {X Y : Operand} {v1 v2 r : Value} {x1 x2 : Nat} (h1 : FL v1 x1) (h2 : FL v2 x2)
    (ho : ops[i]? = some o) (hd : o.dst = some d) (hN : Nat.blt d N = true) (hw : Region.wanted o (yv e ops) = true) (hop : o.op = .binOp op t X Y t') (hx : ev e X = v1) (hy : ev e Y = v2) (hv : fbin op .f64 x1 x2 = some r)
    (h : TM P f N m G R (.inRegion ops rest :: k) (upd e d r) s.w) : TM P f N m G R (.inRegion ops (i :: rest) :: k) e s.w := by
  obtain ⟨b1, rfl, rfl⟩ := h1
  obtain ⟨b2, rfl, rfl⟩ := h2
  rw [fbin_cn] at hv
  exact vl ho hd hN hw (by
    have := fbin_run (P := P) (w := s.w) (t := t) (X := X) (Y := Y) hv
    simp only [execOp, hop, hx, hy]
    rw [Sem.run_bind', this]; rfl) h
theorem fq_' {op : BinOp} {t t' : TypeId} {X Y : Operand} {v1 v2 r : Value} {x1 x2 : Nat} (h1 : FL v1 x1) (h2 : FL v2 x2) (t2 : E8 (ops[i]?) (some o) (o.dst) (some d) (Nat.blt d N) (true) (Region.wanted o (yv e ops)) (true) (o.op) (.binOp op t X Y t') (ev e X) (v1) (ev e Y) (v2) (fbin op .f64 x1 x2) (some r)) (h : TM P f N m G R (.inRegion ops rest :: k) (upd e d r) s.w) : TM P f N m G R (.inRegion ops (i :: rest) :: k) e s.w := fq_ h1 h2 (e8_ t2).1 (e8_ t2).2.1 (e8_ t2).2.2.1 (e8_ t2).2.2.2.1 (e8_ t2).2.2.2.2.1 (e8_ t2).2.2.2.2.2.1 (e8_ t2).2.2.2.2.2.2.1 (e8_ t2).2.2.2.2.2.2.2 h
theorem qv_b {x b : Bool} (h : Qv P N ops e s.w i d (.bool x)) (hb : x = b) : Qv P N ops e s.w i d (.bool b) := by subst hb; exact h
theorem fa_ {op : BinOp} {t t' : TypeId} {X Y : Operand} {v1 v2 : Value} {x1 x2 : Nat} (h1 : FL v1 x1) (h2 : FL v2 x2) (hk : op = .add ∨ op = .sub ∨ op = .mul ∨ op = .quo)
    (ho : ops[i]? = some o) (hd : o.dst = some d) (hN : Nat.blt d N = true) (hw : Region.wanted o (yv e ops) = true) (hop : o.op = .binOp op t X Y t') (hx : ev e X = v1) (hy : ev e Y = v2)
    (h : ∀ v s', Stp [] s s' → FL v (far op x1 x2) → TM P f N m G R (.inRegion ops rest :: k) (upd e d v) s'.w) : TM P f N m G R (.inRegion ops (i :: rest) :: k) e s.w := by
  obtain ⟨b1, rfl, rfl⟩ := h1
  obtain ⟨b2, rfl, rfl⟩ := h2
  obtain ⟨r, n, hr, hc⟩ := far_run (P := P) s.w hk t b1 b2
  refine vmk (v := .float .f64 r) (n := n) ho hd hN hw ?_ fun s' p => h _ s' p ⟨r, rfl, hc⟩
  have hg : (eqGuard op t X Y (.float .f64 b1) (.float .f64 b2)).run P s.w = .ok () s.w := by rcases hk with rfl | rfl | rfl | rfl <;> simp [eqGuard]
  simp only [execOp, hop, hx, hy]
  rw [Sem.run_bind', Sem.run_bind', hg]
  simp only [Result.andThen, hr]
  rfl
theorem fng_ {t : TypeId} {X : Operand} {v1 : Value} {x1 : Nat} (h1 : FL v1 x1)
    (ho : ops[i]? = some o) (hd : o.dst = some d) (hN : Nat.blt d N = true) (hw : Region.wanted o (yv e ops) = true) (hop : o.op = .unOp .neg t X) (hx : ev e X = v1)
    (h : ∀ v, FL v (fneg x1) → TM P f N m G R (.inRegion ops rest :: k) (upd e d v) s.w) : TM P f N m G R (.inRegion ops (i :: rest) :: k) e s.w := by
  obtain ⟨b1, rfl, rfl⟩ := h1
  refine vl (v := .float .f64 (Op.negFloat .f64 b1)) ho hd hN hw (by simp [execOp, hop, hx, Op.unary]) (h _ ⟨_, rfl, ?_⟩)
  have hx : ∀ b, Op.negFloat .f64 b % 9223372036854775808 = b % 9223372036854775808 := by
    intro b
    show (b ^^^ 2 ^ 63) % 2 ^ 63 = b % 2 ^ 63
    rw [Nat.xor_mod_two_pow, Nat.mod_self, Nat.xor_zero]
  have hn : isN (Op.negFloat .f64 b1) = isN b1 := by unfold isN; rw [hx]
  unfold fneg
  rw [isN_cn]
  cases h : isN b1 with
  | true => rw [cn_nan (by rw [hn, h])]; rfl
  | false => rw [cn_of (by rw [hn, h]), cn_of h]; rfl
theorem i2f {t1 t2 : TypeId} {k1 k3 : IntKind} {n : Int} {X : Operand} (hu : P.underlying t2 = some (.float .f64)) (hu1 : P.underlying t1 = some (.int k1))
    (ho : ops[i]? = some o) (hd : o.dst = some d) (hN : Nat.blt d N = true) (hw : Region.wanted o (yv e ops) = true) (hop : o.op = .convert t1 t2 X) (hx : ev e X = .int k3 n)
    (h : ∀ v, FL v (FloatKind.f64.nearest n) → TM P f N m G R (.inRegion ops rest :: k) (upd e d v) s.w) : TM P f N m G R (.inRegion ops (i :: rest) :: k) e s.w :=
  vl (v := .float .f64 (FloatKind.f64.nearest n)) ho hd hN hw (by simp [execOp, hop, hx, convert, run_underlying hu, run_underlying hu1, Conv.intToFloat, Result.andThen]) (h _ ⟨_, rfl, cn_of (write_notN (.number (n < 0) n.natAbs 0) rfl)⟩)
theorem f2i {t1 t2 : TypeId} {k2 : IntKind} {X : Operand} {v1 : Value} {x1 : Nat} {km : Int → Option O} (h1 : FL v1 x1) (hu : P.underlying t2 = some (.int k2)) (hu1 : P.underlying t1 = some (.float .f64))
    (ho : ops[i]? = some o) (hd : o.dst = some d) (hN : Nat.blt d N = true) (hw : Region.wanted o (yv e ops) = true) (hop : o.op = .convert t1 t2 X) (hx : ev e X = v1)
    (h : ∀ n, floatToIntVal .f64 x1 k2 = some n → TM P f N (km n) G R (.inRegion ops rest :: k) (upd e d (.int k2 n)) s.w) : TM P f N ((floatToIntVal .f64 x1 k2).bind km) G R (.inRegion ops (i :: rest) :: k) e s.w := by
  obtain ⟨b1, rfl, rfl⟩ := h1
  refine mb fun n hn => ?_
  have hN' : isN (cn b1) = false := by
    cases hb : isN (cn b1) with
    | false => rfl
    | true =>
      obtain ⟨s', f', e'⟩ := read_nan hb
      unfold floatToIntVal at hn
      have : (FloatKind.f64.decode (cn b1)) = .nan s' f' := e'
      rw [this] at hn
      cases hn
  rw [isN_cn] at hN'
  refine vl (v := .int k2 n) ho hd hN hw ?_ (h n hn)
  rw [cn_of hN'] at hn
  have := run_convert_float_int (P := P) s.w t1 t2 .f64 k2 b1 n (by rw [hu1]; rfl) hu hn
  simp [execOp, hop, hx, this, Result.andThen]
theorem ext_run {w : World} {g : FuncId} {fn : Func} {args : Array Operand} {ts : Array TypeId} {X : Array Value → Sem Value} {v : Value} (hop : o.op = .call { callee := .value (.func g), args := args, argTypes := ts }) (hg : P.funcs[g]? = some fn) (hb : fn.body = none)
    (hn : (fn.name == "runtime.NumGoroutine") = false) (hnx : Extern.findNext fn = none) (hf : Extern.find fn = some X) (hv : (X (args.map (ev e))).run P w = .ok v w) : (execOp (ev e) o).run P w = .ok (.value v) w := by
  have hn' : ¬ fn.name = "runtime.NumGoroutine" := by simpa using hn
  simp [execOp, hop, resolve, ev, Deferred.ofValue, invoke, callFunc, hg, hb, hn', hnx, hf, mark, Sem.run, hv, Result.andThen]
theorem fb_ {g : FuncId} {fn : Func} {X : Operand} {ts : Array TypeId} {v1 : Value} {x1 : Nat} (h1 : FL v1 x1)
    (ho : ops[i]? = some o) (hd : o.dst = some d) (hN : Nat.blt d N = true) (hw : Region.wanted o (yv e ops) = true) (hop : o.op = .call { callee := .value (.func g), args := #[X], argTypes := ts }) (hg : P.funcs[g]? = some fn) (hb : fn.body = none)
    (hn : (fn.name == "runtime.NumGoroutine") = false) (hnx : Extern.findNext fn = none) (hf : Extern.find fn = some Extern.MathFloatBits.float64bits) (hx : ev e X = v1)
    (h : TM P f N m G R (.inRegion ops rest :: k) (upd e d (.int .u64 (x1 : Int))) s.w) : TM P f N (if isN x1 = false then m else none) G R (.inRegion ops (i :: rest) :: k) e s.w := by
  refine mg fun hnn => ?_
  have := h1.bits hnn
  subst this
  exact vl ho hd hN hw (ext_run hop hg hb hn hnx hf (by rw [show (#[X] : Array Operand).map (ev e) = #[ev e X] from by simp, hx]; rfl)) h
theorem fbu {g : FuncId} {fn : Func} {X : Operand} {ts : Array TypeId} {v1 : Value} {x1 : Nat} (h1 : FL v1 x1)
    (ho : ops[i]? = some o) (hd : o.dst = some d) (hN : Nat.blt d N = true) (hw : Region.wanted o (yv e ops) = true) (hop : o.op = .call { callee := .value (.func g), args := #[X], argTypes := ts }) (hg : P.funcs[g]? = some fn) (hb : fn.body = none)
    (hn : (fn.name == "runtime.NumGoroutine") = false) (hnx : Extern.findNext fn = none) (hf : Extern.find fn = some Extern.MathFloatBits.float64bits) (hx : ev e X = v1)
    (h : ∀ b : Nat, cn b = x1 → TM P f N m G R (.inRegion ops rest :: k) (upd e d (.int .u64 (b : Int))) s.w) : TM P f N m G R (.inRegion ops (i :: rest) :: k) e s.w := by
  obtain ⟨b, rfl, hb2⟩ := h1
  exact vl ho hd hN hw (ext_run hop hg hb hn hnx hf (by rw [show (#[X] : Array Operand).map (ev e) = #[ev e X] from by simp, hx]; rfl)) (h b hb2)
theorem fz0 {t t' : TypeId} {X Y : Operand} {b x : Nat} (hc : cn b = x)
    (ho : ops[i]? = some o) (hd : o.dst = some d) (hN : Nat.blt d N = true) (hw : Region.wanted o (yv e ops) = true) (hop : o.op = .binOp .eql t X Y t') (hx : ev e X = .int .u64 (b : Int)) (hy : ev e Y = .int .u64 0)
    (h : TM P f N m G R (.inRegion ops rest :: k) (upd e d (.bool ((x : Int) == 0))) s.w) : TM P f N m G R (.inRegion ops (i :: rest) :: k) e s.w := by
  have hb : ((x : Int) == 0) = ((b : Int) == 0) := by
    cases hN : isN b with
    | false => rw [cn_of hN] at hc; rw [hc]
    | true =>
      rw [cn_nan hN] at hc
      subst hc
      have hne : b ≠ 0 := by intro h0; subst h0; revert hN; decide
      have : ((b : Int) == 0) = false := by simp; exact hne
      rw [this]; rfl
  rw [hb] at h
  exact vl ho hd hN hw (by
    have := ibin_run (P := P) (w := s.w) (op := .eql) (t := t) (X := X) (Y := Y) (k := .u64) (a := (b : Int)) (b := 0) rfl
    simp only [execOp, hop, hx, hy]
    rw [Sem.run_bind', this]; rfl) h
end
end Go.Proofs.YtlpbggnpiogioaaGreat.V
set_option linter.unusedVariables false
set_option linter.unusedSimpArgs false
namespace Go.Proofs.YtlpbggnpiogioaaGreat.V
open Go
def LensG {α β : Type} (K : Kd α) (A : Kd β) (q : Nat) (get : α → β) (set : α → β → α) : Prop :=
 ∀ w es x os, K.ow w es x os → ∃ e1 e2 e3 o1 o2 o3, es = e1 ++ (e2 ++ e3) ∧ e1.length = q ∧ os = o1 ++ (o2 ++ o3) ∧ A.ow w e2 (get x) o2 ∧
  ∀ w' y e2' o2', A.ow w' e2' y o2' → Agr w w' (· ∈ o1 ++ o3) → K.ow w' (e1 ++ (e2' ++ e3)) (set x y) (o1 ++ (o2' ++ o3))
theorem lg_id {α : Type} {K : Kd α} : LensG K K 0 (fun x => x) (fun _ y => y) := fun w es x os h =>
 ⟨[], es, [], [], os, [], by simp, rfl, by simp, h, fun w' y e2' o2' hy _ => by simpa using hy⟩
theorem lg_left {α β γ : Type} {K : Kd α} {B : Kd γ} {A : Kd β} {q : Nat} {get : α → β} {set : α → β → α} (h : LensG K A q get set) : LensG (Kd.pair K B) A q (fun p => get p.1) (fun p y => (set p.1 y, p.2)) := fun w es x os hx => by
 obtain ⟨c1, c2, p1, p2, rfl, rfl, h1, h2⟩ := hx
 obtain ⟨e1, e2, e3, o1, o2, o3, rfl, hq, rfl, he, hs⟩ := h w c1 x.1 p1 h1
 exact ⟨e1, e2, e3 ++ c2, o1, o2, o3 ++ p2, by simp, hq, by simp, he, fun w' y e2' o2' hy ha => ⟨e1 ++ (e2' ++ e3), c2, o1 ++ (o2' ++ o3), p2, by simp, by simp, hs w' y e2' o2' hy fun b hb => ha b (by simp at hb ⊢; rcases hb with hb | hb <;> simp [hb]), B.ow_frame h2 fun b hb => ha b (by simp [hb])⟩⟩
theorem lg_right {α β γ : Type} {K : Kd α} {B : Kd γ} {A : Kd β} {q : Nat} {get : α → β} {set : α → β → α} (h : LensG K A q get set) : LensG (Kd.pair B K) A (B.n + q) (fun p => get p.2) (fun p y => (p.1, set p.2 y)) := fun w es x os hx => by
 obtain ⟨c1, c2, p1, p2, rfl, rfl, h1, h2⟩ := hx
 obtain ⟨e1, e2, e3, o1, o2, o3, rfl, hq, rfl, he, hs⟩ := h w c2 x.2 p2 h2
 have hl := B.rd_len (B.ow_rd h1)
 exact ⟨c1 ++ e1, e2, e3, p1 ++ o1, o2, o3, by simp, by simp [hl, hq], by simp, he, fun w' y e2' o2' hy ha => ⟨c1, e1 ++ (e2' ++ e3), p1, o1 ++ (o2' ++ o3), by simp, by simp, B.ow_frame h1 fun b hb => ha b (by simp [hb]), hs w' y e2' o2' hy fun b hb => ha b (by simp at hb ⊢; rcases hb with hb | hb <;> simp [hb])⟩⟩
theorem lg_iso {α β γ : Type} {K : Kd α} {A : Kd β} {q : Nat} {get : α → β} {set : α → β → α} (g : γ → α) (get' : γ → β) (set' : γ → β → γ) (h : LensG K A q get set) (hg : ∀ x, get (g x) = get' x) (hs : ∀ x y, set (g x) y = g (set' x y)) : LensG (Kd.iso K g) A q get' set' := fun w es x os hx => by
 obtain ⟨e1, e2, e3, o1, o2, o3, he, hq, ho, h1, h2⟩ := h w es (g x) os hx
 refine ⟨e1, e2, e3, o1, o2, o3, he, hq, ho, by rw [← hg]; exact h1, fun w' y e2' o2' hy ha => ?_⟩
 have := h2 w' y e2' o2' hy ha
 rw [hs] at this
 exact this
section
variable {P : Program} {f : Who} {N : Nat} {O ρ : Type} {m : Option O} {G : O → Option ρ} {R : ρ → Ending → World → Prop} {e : Env} {s : St} {k : List Item} {ops : Array Oper} {i d : Nat} {rest : List Nat} {o : Oper}
theorem lcq_q {t q : Nat} {dd : TypeDesc} {x : Operand} {ad : Addr} {es es' : List Value} {C : List Nat} (hC : CeF s ad es C) (hu : P.underlying t = some dd) (hs : (P.info? t).map (·.size) = some es'.length)
    (ho : ops[i]? = some o) (hd : o.dst = some d) (hN : Nat.blt d N = true) (hw : Region.wanted o (yv e ops) = true) (hop : o.op = .load t x) (hr : dd.isRow = true) (hx : ev e x = .pointer (some (ad.add q))) (hv : (es.drop q).take es'.length = es') : Qv P N ops e s.w i d (.agg es'.toArray) :=
  ⟨o, ho, hd, hN, by simp only [selB, hop], .inl ⟨hw, by
    have := loadAgg_run (P := P) (w := s.w) (ad := ad.add q) hu hr hs fun j u hj => by
      rw [Addr.add_add']
      refine hC.2 _ _ ?_
      rw [← hv, List.getElem?_take] at hj
      split at hj
      · rw [List.getElem?_drop] at hj; exact hj
      · cases hj
    simp [execOp, hop, hx, this, Result.andThen]⟩⟩
def LoF {α : Type} (K : Kd α) (s : St) (cs : List Value) (xs : List α) (c : Nat) : Prop := ∃ os, ElsO K s.w xs cs os ∧ os.Nodup ∧ ∀ b ∈ os, s.g b = c
theorem lo_one {α : Type} {K : Kd α} {cs : List Value} {x : α} {c : Nat} (h : OwF K s cs x c) : LoF K s cs [x] c := by
 obtain ⟨os, ho, hn, hc⟩ := h
 exact ⟨os, ⟨cs, [], os, [], by simp, by simp, ho, rfl, rfl⟩, hn, hc⟩
theorem ltO {α : Type} {K : Kd α} {t te l : Nat} {z : Value} {parts : Array (Nat × Operand)} {cells : List Value} (xs : List α) (c : Nat) (hu : P.underlying t = some (.slice te)) (hs : (P.info? te).map (·.size) = some K.n) (hz : (P.info? te).bind (·.zero) = some z) (hE : LoF K s cells xs c)
    (ho : ops[i]? = some o) (hd : o.dst = some d) (hN : Nat.blt d N = true) (hw : Region.wanted o (yv e ops) = true) (hop : o.op = .buildSlice t l parts) (hln : Nat.ble (l * K.n) 16777216 = true) (hpos : Nat.ble 1 (l * K.n) = true) (hl : xs.length = l)
    (hzn : z.cells.toList.length = K.n) (hfill : lfill (fun i => some (i * K.n, K.n)) (List.replicate l z.cells.toList).flatten (parts.toList.map fun (i, x) => (i, ev e x)) = some cells)
    (h : ∀ v s', Stp [c] s s' → OwF (Kd.sl te K) s' [v] xs c → TM P f N m G R (.inRegion ops rest :: k) (upd e d v) s'.w) :
    TM P f N m G R (.inRegion ops (i :: rest) :: k) e s.w := by
  obtain ⟨os, hE, hn, hc⟩ := hE
  have hlen := hE.len
  have h2 := Nat.le_of_ble_eq_true hln
  have h3 := Nat.le_of_ble_eq_true hpos
  have hn' : 0 < K.n := Nat.pos_of_ne_zero fun h => by rw [h] at h3; simp at h3
  obtain ⟨s', hs', p, nn, hrow⟩ := new_row (s := s) (te := te) (n := K.n) (l := l) (cells := cells.toArray) c rfl (by simp [hlen, hl]) (by have : l * 1 ≤ l * K.n := Nat.mul_le_mul_left _ hn'; simp only [maxLen]; omega)
  refine vl (w' := s'.w) ho hd hN hw (by rw [hs']; exact lit_run hu hs hz hln hpos hzn hfill hop) (h _ s' ⟨p.os, p.tape, p.output, p.size, p.low, fun b hb _ => p.same b hb rfl⟩ ?_)
  subst hl
  have hlt := hE.lt
  refine ⟨[s.w.heap.size] ++ os, ⟨_, rfl, _, _, os, rfl, by simpa using hrow, hE.frame fun b hb hl => (p.same b hl rfl).2⟩, ?_, fun b hb => ?_⟩
  · refine List.nodup_append.2 ⟨by simp, hn, fun a ha b hb hab => ?_⟩
    simp at ha; subst hab; have := hlt a hb; omega
  · rcases List.mem_append.1 hb with hb | hb
    · simp at hb; subst hb; exact nn.new _ (Nat.le_refl _)
    · rw [nn.old b (hlt b hb), hc b hb]
end
theorem sp2 {α : Type} {K : Kd α} {s : St} {cs : List Value} {x : α} {p r : List Nat} {c : Nat} (c' : Nat) (h : K.ow s.w cs x p) (hn : (p ++ r).Nodup) (hc : ∀ b ∈ p ++ r, s.g b = c) (h10 : Nat.ble 40 c = true) :
    ∃ s' : St, s.w = s'.w ∧ Stp [c] s s' ∧ OwF K s' cs x c ∧ r.Nodup ∧ ∀ b ∈ r, s'.g b = c' := by
  have h10' := Nat.le_of_ble_eq_true h10
  have hn' := List.nodup_append.1 hn
  refine ⟨⟨s.w, fun b => open Classical in if b ∈ r then c' else s.g b⟩, rfl, ⟨rfl, rfl, rfl, Nat.le_refl _, fun b hb hl => ?_, fun b hb hm => ⟨?_, rfl⟩⟩, ⟨p, h, hn'.1, fun b hb => ?_⟩, hn'.2.1, fun b hb => by simp [hb]⟩
  · have : ¬ b ∈ r := fun h => by have := hc b (by simp [h]); omega
    simp [this]
  · have : ¬ b ∈ r := fun h => by have := hc b (by simp [h]); rw [this] at hm; simp [memb] at hm
    simp [this]
  · have : ¬ b ∈ r := fun h => hn'.2.2 b hb b h rfl
    simp only [this, if_false]
    exact hc b (by simp [hb])
theorem sp1 {α : Type} {K : Kd α} {s : St} {cs : List Value} {x : α} {p : List Nat} {c : Nat} (h : K.ow s.w cs x p) (hn : p.Nodup) (hc : ∀ b ∈ p, s.g b = c) : OwF K s cs x c := ⟨p, h, hn, hc⟩
def nextN (E : List (List Nat)) (L D : List Nat) (cs : List Nat) : Bool :=
 rangeB E.length fun i => memb cs i || memb L i || memb D i || anyB (E.getD i []) (fun j => Nat.blt j E.length && !memb L j && !memb D j)
section
variable {P : Program} {f : Who} {N : Nat} {O ρ : Type} {m : Option O} {G : O → Option ρ} {R : ρ → Ending → World → Prop} {k : List Item} {ops : Array Oper}
variable {E : List (List Nat)} {Ds : List (Option Nat)} {Us : List (List Nat)} {L D l : List Nat} {e Ec : Env} {w : World}
theorem zstepN (cs : List (Nat × List (Option Nat))) (tb : Tb ops E Ds Us) (z : Zr E Ds L D l e Ec) (hq : Pq P N ops Ec w L)
    (hb : (useB E Ds Us L && nextN E L D (cs.map (·.1)) && cs.all (fun p => Nat.blt p.1 E.length && !memb L p.1 && !memb D p.1) && !cs.isEmpty) = true)
    (hp : cs.all (fun p => ((pend E E.length L [p.1]).map fun i => Ds.getD i none) == p.2) = true)
    (h : ∀ p ∈ cs, ∀ l' e', Zr E Ds L D (p.1 :: l') (mix p.2 Ec e') Ec → TM P f N m G R (.inRegion ops (p.1 :: l') :: k) (mix p.2 Ec e') w) : TM P f N m G R (.inRegion ops l :: k) e w := by
  simp only [Bool.and_eq_true, Bool.not_eq_true'] at hb
  obtain ⟨⟨⟨hu, hn⟩, hall⟩, hne⟩ := hb
  induction l generalizing e with
  | nil =>
    cases cs with
    | nil => cases hne
    | cons p cs =>
      have hc := List.all_eq_true.1 hall p (by simp)
      simp only [Bool.and_eq_true, Bool.not_eq_true'] at hc
      have hc' : p.1 < E.length := by have := hc.1.1; simp [Nat.blt] at this; omega
      rcases z.ld p.1 hc' (by simp) with h | h
      · exact absurd h (nmemb hc.2)
      · exact absurd h (nmemb hc.1.2)
  | cons i l ih =>
    by_cases hi : i ∈ L
    · exact quiet tb z hq hu hi fun e' z' => ih z'
    · have hD : i ∉ D := fun h => z.done i h (by simp)
      have hlt := z.lt i (by simp)
      have := rangeB_out hn i hlt
      simp only [Bool.or_eq_true] at this
      have hic : i ∈ cs.map (·.1) := by
        rcases this with ((h | h) | h) | h
        · exact memb_iff.1 h
        · exact absurd (memb_iff.1 h) hi
        · exact absurd (memb_iff.1 h) hD
        · obtain ⟨j, hj, hp⟩ := anyB_out h
          simp only [Bool.and_eq_true, Bool.not_eq_true'] at hp
          have hjl : j ∉ i :: l := z.dep [] i l rfl j hj
          have hjlt : j < E.length := by have := hp.1.1; simp [Nat.blt] at this; omega
          rcases z.ld j hjlt hjl with h | h
          · exact absurd h (nmemb hp.2)
          · exact absurd h (nmemb hp.1.2)
      obtain ⟨⟨c, pd⟩, hmem, hcc⟩ := List.mem_map.1 hic
      simp only at hcc
      subst hcc
      have hc := List.all_eq_true.1 hall _ hmem
      simp only [Bool.and_eq_true, Bool.not_eq_true'] at hc
      have hpd := List.all_eq_true.1 hp _ hmem
      simp only [beq_iff_eq] at hpd
      have hcL := hc.1.2
      have he : e = mix pd Ec e := by
        funext t
        unfold mix
        cases hm2 : pd.any (fun x => optB x t) with
        | true => rfl
        | false =>
          refine z.env t fun j hj hjt hm3 => ?_
          have hjp : memb (pend E E.length L [c]) j = false := by
            cases hh : memb (pend E E.length L [c]) j with
            | false => rfl
            | true =>
              have : pd.any (fun x => optB x t) = true := by
                rw [List.any_eq_true]
                refine ⟨some t, ?_, optB_iff.2 rfl⟩
                rw [← hpd]
                exact List.mem_map.2 ⟨j, memb_iff.1 hh, hjt⟩
              rw [this] at hm2; cases hm2
          have hjs : j ∈ scan E E.length [c] := by
            cases hh : memb (scan E E.length [c]) j with
            | true => exact memb_iff.1 hh
            | false => exact absurd (List.mem_filter.2 ⟨hj, by simp [hh]⟩ : j ∈ pend E E.length L [c]) (nmemb hjp)
          have hnd := List.nodup_cons.1 z.nd
          have := scan_out (E := E) (l := l) (fun x hx hlt y hy hm => by
            by_cases hxi : x = c
            · subst hxi; exact z.dep [] x l rfl y hy (List.mem_cons_of_mem _ hm)
            · exact z.dn x hlt (by simp [hxi, hx]) y hy (List.mem_cons_of_mem _ hm)) (fun x hx => z.lt x (List.mem_cons_of_mem _ hx)) E.length [c] (by simpa using hnd.1) j hjs
          rcases List.mem_cons.1 hm3 with rfl | hm3
          · exact nmemb hcL hj
          · exact this hm3
      rw [he] at z ⊢
      exact h _ hmem l e z
theorem zstep2 (c1 c2 : Nat) (pd1 pd2 : List (Option Nat)) (tb : Tb ops E Ds Us) (z : Zr E Ds L D l e Ec) (hq : Pq P N ops Ec w L)
    (hb : (useB E Ds Us L && nextN E L D [c1, c2] && ([(c1, pd1), (c2, pd2)] : List (Nat × List (Option Nat))).all (fun p => Nat.blt p.1 E.length && !memb L p.1 && !memb D p.1) && !([(c1, pd1), (c2, pd2)] : List (Nat × List (Option Nat))).isEmpty) = true)
    (hp : ([(c1, pd1), (c2, pd2)] : List (Nat × List (Option Nat))).all (fun p => ((pend E E.length L [p.1]).map fun i => Ds.getD i none) == p.2) = true)
    (h1 : ∀ l' e', Zr E Ds L D (c1 :: l') (mix pd1 Ec e') Ec → TM P f N m G R (.inRegion ops (c1 :: l') :: k) (mix pd1 Ec e') w)
    (h2 : ∀ l' e', Zr E Ds L D (c2 :: l') (mix pd2 Ec e') Ec → TM P f N m G R (.inRegion ops (c2 :: l') :: k) (mix pd2 Ec e') w) : TM P f N m G R (.inRegion ops l :: k) e w :=
  zstepN [(c1, pd1), (c2, pd2)] tb z hq hb hp fun p hp l' e' => by
    simp only [List.mem_cons, List.not_mem_nil, or_false] at hp
    rcases hp with rfl | rfl
    · exact h1 l' e'
    · exact h2 l' e'
theorem zstep3 (c1 c2 c3 : Nat) (pd1 pd2 pd3 : List (Option Nat)) (tb : Tb ops E Ds Us) (z : Zr E Ds L D l e Ec) (hq : Pq P N ops Ec w L)
    (hb : (useB E Ds Us L && nextN E L D [c1, c2, c3] && ([(c1, pd1), (c2, pd2), (c3, pd3)] : List (Nat × List (Option Nat))).all (fun p => Nat.blt p.1 E.length && !memb L p.1 && !memb D p.1) && !([(c1, pd1), (c2, pd2), (c3, pd3)] : List (Nat × List (Option Nat))).isEmpty) = true)
    (hp : ([(c1, pd1), (c2, pd2), (c3, pd3)] : List (Nat × List (Option Nat))).all (fun p => ((pend E E.length L [p.1]).map fun i => Ds.getD i none) == p.2) = true)
    (h1 : ∀ l' e', Zr E Ds L D (c1 :: l') (mix pd1 Ec e') Ec → TM P f N m G R (.inRegion ops (c1 :: l') :: k) (mix pd1 Ec e') w)
    (h2 : ∀ l' e', Zr E Ds L D (c2 :: l') (mix pd2 Ec e') Ec → TM P f N m G R (.inRegion ops (c2 :: l') :: k) (mix pd2 Ec e') w)
    (h3 : ∀ l' e', Zr E Ds L D (c3 :: l') (mix pd3 Ec e') Ec → TM P f N m G R (.inRegion ops (c3 :: l') :: k) (mix pd3 Ec e') w) : TM P f N m G R (.inRegion ops l :: k) e w :=
  zstepN [(c1, pd1), (c2, pd2), (c3, pd3)] tb z hq hb hp fun p hp l' e' => by
    simp only [List.mem_cons, List.not_mem_nil, or_false] at hp
    rcases hp with rfl | rfl | rfl
    · exact h1 l' e'
    · exact h2 l' e'
    · exact h3 l' e'
end
end Go.Proofs.YtlpbggnpiogioaaGreat.V
set_option linter.unusedVariables false
set_option linter.unusedSimpArgs false
namespace Go.Proofs.YtlpbggnpiogioaaGreat.V
open Go
def fl_ (ps : List (List Nat × Nat)) : List Nat := (ps.map (·.1)).flatten
structure ZN (F : Nat → Prop) (ps : List (List Nat × Nat)) (s : St) : Prop where
 z : ∀ b, F b ↔ s.g b = 0
 lo : ∀ b, b ∉ fl_ ps → s.g b < 2
 pt : ∀ p ∈ ps, ∀ b ∈ p.1, s.g b = p.2
section
variable {F : Nat → Prop} {ps : List (List Nat × Nat)} {s s' : St}
theorem ZN.rd (z : ZN F ps s) {α : Type} {K : Kd α} {cs : List Value} {x : α} (h : K.rd s.w cs x F) : RdF K s cs x [0] :=
 K.rd_mono h fun b hb _ => by rw [(z.z b).1 hb]; rfl
theorem ZN.ow (z : ZN F ps s) {α : Type} {K : Kd α} {cs : List Value} {x : α} {p : List Nat} {c : Nat} (hm : (p, c) ∈ ps) (hn : p.Nodup) (h : K.ow s.w cs x p) : OwF K s cs x c := ⟨p, h, hn, fun b hb => z.pt _ hm b hb⟩
theorem ZN.ky (z : ZN F ps s) (p : Kp s s') : Ky (fl_ ps) s.w s'.w := ⟨p.os, p.tape, p.output, p.size, fun b hb hn => p.same b hb (z.lo b hn)⟩
def OwC {α : Type} (K : Kd α) (s : St) (cs : List Value) (x : α) (C : List Nat) : Prop := ∃ os, K.ow s.w cs x os ∧ os.Nodup ∧ ∀ b ∈ os, memb C (s.g b) = true
theorem ZN.fw (z : ZN F ps s) (p : Kp s s') {α : Type} {K : Kd α} {cs : List Value} {x : α} {C : List Nat} (h : OwC K s' cs x C) (hC : C.all (Nat.ble 2 ·) = true) : FW K (fl_ ps) s.w s'.w cs x := by
 obtain ⟨os, ho, hn, hc⟩ := h
 refine ⟨os, ho, hn, fun b hb => ?_⟩
 by_cases hl : b < s.w.heap.size
 · left
   refine Classical.byContradiction fun hne => ?_
   have h1 := z.lo b hne
   have h2 := p.col b hl (by omega)
   have h3 := hc b hb
   rw [h2] at h3
   have := List.all_eq_true.1 hC _ (memb_iff.1 h3)
   have := Nat.le_of_ble_eq_true this
   omega
 · right; omega
end
structure Nm (s s' : St) (os : List Nat) (c : Nat) : Prop where
 old : ∀ b, b < s.w.heap.size → b ∉ os → s'.g b = s.g b
 mv : ∀ b ∈ os, s'.g b = c
 new : ∀ b, s.w.heap.size ≤ b → s'.g b = c
theorem FW.m {α : Type} {K : Kd α} {s s' : St} {os : List Nat} {cs : List Value} {x : α} {c : Nat} (h : FW K os s.w s'.w cs x) (n : Nm s s' os c) : OwF K s' cs x c := by
 obtain ⟨os', ho, hn, hf⟩ := h
 refine ⟨os', ho, hn, fun b hb => ?_⟩
 rcases hf b hb with h | h
 · exact n.mv b h
 · exact n.new b h
theorem BlF.rc {s : St} {b : Nat} {t : TypeId} {cs : List Value} {d : Nat} (h : BlF s b t cs d) (c : Nat) (hd : Nat.ble 40 d = true) : ∃ s' : St, s.w = s'.w ∧ Stp [d] s s' ∧ BlF s' b t cs c := by
 have hd' := Nat.le_of_ble_eq_true hd
 refine ⟨⟨s.w, fun b => if s.g b = d then c else s.g b⟩, rfl, ⟨rfl, rfl, rfl, Nat.le_refl _, fun b hb hl => ?_, fun b hb hm => ⟨?_, rfl⟩⟩, h.1, ?_⟩
 · have : ¬ s.g b = d := by omega
   simp [this]
 · have : ¬ s.g b = d := fun h => by rw [h] at hm; simp [memb] at hm
   simp [this]
 · simp [h.2]
section
variable {P : Program} {f : Who} {N : Nat} {O ρ : Type} {m : Option O} {G : O → Option ρ} {R : ρ → Ending → World → Prop} {e : Env} {s : St} {k : List Item} {ops : Array Oper} {i d : Nat} {rest : List Nat} {o : Oper}
theorem slO {α : Type} {K : Kd α} {t te : TypeId} {v : Value} {xs : List α} {c : Nat} {x q : Operand} {k2 : IntKind} {b : Int} (hF : OwF (Kd.sl te K) s [v] xs c) (hu : P.underlying t = some (.slice te)) (hs : (P.info? te).map (·.size) = some K.n)
    (ho : ops[i]? = some o) (hd : o.dst = some d) (hN : Nat.blt d N = true) (hw : Region.wanted o (yv e ops) = true) (hop : o.op = .slice t x none (some q) none) (hx : ev e x = v) (hq : ev e q = .int k2 b)
    (h : ∀ v', OwF (Kd.sl te K) s [v'] (xs.take b.toNat) c → TM P f N m G R (.inRegion ops rest :: k) (upd e d v') s.w) : TM P f N (if 0 ≤ b ∧ b ≤ xs.length then m else none) G R (.inRegion ops (i :: rest) :: k) e s.w := by
  refine mg fun hg => ?_
  obtain ⟨b, rfl⟩ := Int.eq_ofNat_of_zero_le hg.1
  have hb : b ≤ xs.length := by have := hg.2; omega
  obtain ⟨os, ⟨v1, e1, cells, o1, o2, rfl, hR, hE⟩, hnd, hcol⟩ := hF
  obtain rfl : v = v1 := by simpa using e1
  obtain ⟨q1, q2, rfl, hE1, hE2⟩ := hE.take b
  simp only [Int.toNat_natCast] at h
  have hlt : (xs.take b).length = b := by simp; omega
  rcases hR.2 with ⟨rfl, h2, rfl⟩ | ⟨g, cap, cur, rfl, hg2, hnc, hcm, hcs, htake, rfl⟩
  · have hb0 : b = 0 := by omega
    subst hb0
    have hcut := cut_run (P := P) (w := s.w) (A := none) (len := 0) (cap := 0) (a := 0) (b := 0) (lo := none) (hi := some (.int k2 ((0 : Nat) : Int))) hu hs (Nat.le_refl _) (Nat.le_refl _) (.inl ⟨rfl, rfl⟩) (.inr ⟨k2, rfl⟩)
    refine vl ho hd hN hw (by simp only [execOp, hop, hx, Option.map_none, Option.map_some, hq]; rw [Sem.run_bind', hcut]; rfl) (h _ ?_)
    exact ow_nil te K s c
  · have hcut := cut_run (P := P) (w := s.w) (A := some ⟨g, 0, none⟩) (len := xs.length) (cap := cap) (a := 0) (b := b) (lo := none) (hi := some (.int k2 (b : Int))) hu hs (Nat.zero_le _) (by omega) (.inl ⟨rfl, rfl⟩) (.inr ⟨k2, rfl⟩)
    refine vl ho hd hN hw (by simp only [execOp, hop, hx, Option.map_none, Option.map_some, hq]; rw [Sem.run_bind', hcut]; rfl) (h _ ?_)
    have hA : (if cap = 0 then some (⟨g, 0, none⟩ : Addr) else Option.map (fun a : Addr => a.add (0 * K.n)) (some ⟨g, 0, none⟩)) = some ⟨g, 0, none⟩ := by
      split
      · rfl
      · simp [add_zero]
    rw [hA, Nat.sub_zero, Nat.sub_zero]
    have hnd' : ([g] ++ q1).Nodup := by
      have : ([g] ++ (q1 ++ q2)).Nodup := hnd
      rw [← List.append_assoc] at this
      exact (List.nodup_append.1 this).1
    refine ⟨[g] ++ q1, ⟨_, rfl, cells.take (b * K.n), [g], q1, rfl, ?_, hE1⟩, hnd', fun b' hb' => hcol b' (by simp at hb' ⊢; rcases hb' with h | h <;> simp [h])⟩
    have hmul : b * K.n ≤ xs.length * K.n := Nat.mul_le_mul_right _ hb
    rw [hlt]
    refine ⟨by rw [List.length_take, hR.1]; omega, .inr ⟨g, cap, cur, rfl, hg2, by omega, hcm, hcs, ?_, rfl⟩⟩
    rw [← htake, List.take_take]
    congr 1
    omega
end
end Go.Proofs.YtlpbggnpiogioaaGreat.V
set_option linter.unusedVariables false
set_option linter.unusedSimpArgs false
namespace Go.Proofs.YtlpbggnpiogioaaGreat.V
open Go
abbrev MD := List (Int × Bool)
def midx : MD → Int → Nat → Option (Nat × Bool)
 | [], _, _ => none
 | p :: m, k, i => bif k == p.1 then some (i, p.2) else midx m k (i + 1)
def mget (m : MD) (k : Int) : Bool := match midx m k 0 with
 | some p => p.2
 | none => false
def mset (m : MD) (k : Int) (v : Bool) : MD := match midx m k 0 with
 | some p => m.set p.1 (k, v)
 | none => m ++ [(k, v)]
def mcell (p : Int × Bool) : Value × Value := (.int .i64 p.1, .bool p.2)
def MpF (s : St) (b : Nat) (m : MD) (c : Nat) : Prop := ∃ es clock, s.w.heap[b]? = some (.map es clock) ∧ s.g b = c ∧ es.toList.map (fun e => (e.key, e.val)) = m.map mcell
theorem MpF.st {s s' : St} {S : List Nat} {b c : Nat} {m : MD} (h : MpF s b m c) (p : Stp S s s') (d : memb S c = false) : MpF s' b m c := by
 obtain ⟨es, cl, hb, hc, he⟩ := h
 have hl : b < s.w.heap.size := (Array.getElem?_eq_some_iff.1 hb).1
 have := p.same b hl (by rw [hc]; exact d)
 exact ⟨es, cl, by rw [this.2]; exact hb, by rw [this.1]; exact hc, he⟩
theorem midx_now (k : Int) : ∀ (es : List MapEntry) (m : MD) (i : Nat), es.map (fun e => (e.key, e.val)) = m.map mcell →
    Instr.findNow (.int .i64) (.int .i64 k) es i = some ((midx m k i).map fun p => (p.1, .bool p.2))
  | [], [], i, _ => rfl
  | [], _ :: _, i, h => by cases h
  | _ :: _, [], i, h => by cases h
  | e :: es, p :: m, i, h => by
    simp only [List.map_cons, List.cons.injEq] at h
    obtain ⟨h1, h2⟩ := h
    have hk : e.key = .int .i64 p.1 := congrArg Prod.fst h1
    have hv : e.val = .bool p.2 := congrArg Prod.snd h1
    unfold Instr.findNow midx
    rw [hk]
    simp only [Instr.sameNow, if_true]
    cases hkp : (k == p.1) with
    | true => simp [hv]
    | false => simpa using midx_now k es m (i + 1) h2
theorem midx_lt (k : Int) : ∀ (m : MD) (i j : Nat) (v : Bool), midx m k i = some (j, v) → i ≤ j ∧ j < i + m.length ∧ ∀ p, m[j - i]? = some p → p.1 = k ∧ p.2 = v
 | [], i, j, v, h => by cases h
 | p :: m, i, j, v, h => by
  unfold midx at h
  cases hkp : (k == p.1) with
  | true =>
   rw [hkp] at h
   simp only [cond_true, Option.some.injEq, Prod.mk.injEq] at h
   obtain ⟨rfl, rfl⟩ := h
   refine ⟨Nat.le_refl _, by simp, fun q hq => ?_⟩
   simp at hq; subst hq
   exact ⟨(by simpa using hkp : k = p.1).symm, rfl⟩
  | false =>
   rw [hkp] at h
   simp only [cond_false] at h
   obtain ⟨h1, h2, h3⟩ := midx_lt k m (i + 1) j v h
   refine ⟨by omega, by simp; omega, fun q hq => h3 q ?_⟩
   rw [show j - i = (j - (i + 1)) + 1 by omega] at hq
   simpa using hq
section
variable {P : Program} {f : Who} {N : Nat} {O ρ : Type} {m : Option O} {G : O → Option ρ} {R : ρ → Ending → World → Prop} {e : Env} {s : St} {k : List Item} {ops : Array Oper} {i d : Nat} {rest : List Nat} {o : Oper}
theorem mkm (c : Nat) {t : TypeId} (ho : ops[i]? = some o) (hd : o.dst = some d) (hN : Nat.blt d N = true) (hw : Region.wanted o (yv e ops) = true) (hop : o.op = .makeMap t none)
    (h : ∀ b s', Stp [] s s' → MpF s' b [] c → TM P f N m G R (.inRegion ops rest :: k) (upd e d (.map (some b))) s'.w) : TM P f N m G R (.inRegion ops (i :: rest) :: k) e s.w := by
  obtain ⟨s', hs', p, n⟩ := s.made (.map #[] 0) c
  refine vl (v := .map (some s.w.heap.size)) (w' := s'.w) ho hd hN hw ?_ (h _ s' p ⟨#[], 0, ?_, n.new _ (Nat.le_refl _), rfl⟩)
  · rw [hs']; simp [execOp, hop, Go.RowKit.run_makeMap, Result.andThen]
  · rw [hs']; exact heap_alloc_new s.w _
theorem look_run {t kt et b c : Nat} {mm : MD} {kk : Int} (hm : P.underlying t = some (.map kt et)) (hk : P.underlying kt = some (.int .i64)) (hz : (P.info? et).bind (·.zero) = some (.bool false)) (hB : MpF s b mm c) :
    (Instr.lookup t (.map (some b)) (.int .i64 kk) false).run P s.w = .ok (.bool (mget mm kk)) s.w := by
  obtain ⟨es, cl, hb, hc, he⟩ := hB
  unfold Instr.lookup
  rw [Sem.run_bind', run_underlying hm]
  simp only [Result.andThen]
  rw [Sem.run_bind', Go.MapKept.run_getObj_map hb]
  simp only [Result.andThen]
  rw [Sem.run_bind']
  simp only [Sem.run_pure, Result.andThen]
  rw [Sem.run_bind', Go.MapKept.run_checkKey hk (by simp [Go.MapKept.IsKey])]
  simp only [Result.andThen]
  have hf := midx_now kk es.toList mm 0 he
  rw [Sem.run_bind', Go.MapKept.run_findKey hk hf]
  unfold mget
  cases hx : midx mm kk 0 with
  | none => simp [Result.andThen, zero_run hz]
  | some p => simp [Result.andThen]
theorem lkm {t kt et b c : Nat} {mm : MD} {kk : Int} {x y : Operand} (hB : MpF s b mm c) (hm : P.underlying t = some (.map kt et)) (hk : P.underlying kt = some (.int .i64)) (hz : (P.info? et).bind (·.zero) = some (.bool false))
    (ho : ops[i]? = some o) (hd : o.dst = some d) (hN : Nat.blt d N = true) (hw : Region.wanted o (yv e ops) = true) (hop : o.op = .lookup t x y false) (hx : ev e x = .map (some b)) (hy : ev e y = .int .i64 kk)
    (h : TM P f N m G R (.inRegion ops rest :: k) (upd e d (.bool (mget mm kk))) s.w) : TM P f N m G R (.inRegion ops (i :: rest) :: k) e s.w :=
  vl ho hd hN hw (by simp [execOp, hop, hx, hy, look_run hm hk hz hB, Result.andThen]) h
theorem upm {t kt et b c : Nat} {mm : MD} {kk : Int} {v : Bool} {x y u : Operand} (hB : MpF s b mm c) (hm : P.underlying t = some (.map kt et)) (hk : P.underlying kt = some (.int .i64))
    (ho : ops[i]? = some o) (hd : o.dst = none) (hw : Region.wanted o (yv e ops) = true) (hop : o.op = .mapUpdate t x y u) (hx : ev e x = .map (some b)) (hy : ev e y = .int .i64 kk) (hu : ev e u = .bool v)
    (h : ∀ s', Stp [c] s s' → MpF s' b (mset mm kk v) c → TM P f N m G R (.inRegion ops rest :: k) e s'.w) : TM P f N m G R (.inRegion ops (i :: rest) :: k) e s.w := by
  obtain ⟨es, cl, hb, hc, he⟩ := hB
  have key : ∃ es' cl', (Instr.mapUpdate t (.map (some b)) (.int .i64 kk) (.bool v)).run P s.w = .ok () { s.w with heap := s.w.heap.setIfInBounds b (.map es' cl') } ∧ es'.toList.map (fun e => (e.key, e.val)) = (mset mm kk v).map mcell := by
    unfold Instr.mapUpdate
    rw [Sem.run_bind', run_underlying hm]
    simp only [Result.andThen]
    rw [Sem.run_bind', Go.MapKept.run_getObj_map hb]
    simp only [Result.andThen]
    rw [Sem.run_bind', Go.MapKept.run_checkKey hk (by simp [Go.MapKept.IsKey])]
    simp only [Result.andThen]
    have hf := midx_now kk es.toList mm 0 he
    rw [Sem.run_bind', Go.MapKept.run_findKey hk hf]
    unfold mset
    have hlen : es.size = mm.length := by
      have := congrArg List.length he
      simpa using this
    cases hxx : midx mm kk 0 with
    | none =>
      refine ⟨es.push { key := .int .i64 kk, val := .bool v, born := cl }, cl + 1, ?_, ?_⟩
      · simp [Result.andThen, Go.MapKept.run_setObj_map _ hb]
      · simp [he, mcell]
    | some p =>
      obtain ⟨_, hlt, hp⟩ := midx_lt kk mm 0 p.1 p.2 hxx
      have hlt' : p.1 < mm.length := by omega
      have hpk := (hp mm[p.1] (by simp [List.getElem?_eq_getElem hlt'])).1
      have hes : p.1 < es.size := by omega
      have hkey : (es[p.1]).key = .int .i64 kk := by
        have h1 : (es.toList.map (fun e => (e.key, e.val)))[p.1]? = (mm.map mcell)[p.1]? := by rw [he]
        rw [List.getElem?_map, List.getElem?_map, List.getElem?_eq_getElem hlt', List.getElem?_eq_getElem (by simpa using hes)] at h1
        simp only [Option.map_some, Option.some.injEq] at h1
        have h2 := congrArg Prod.fst h1
        simp only [mcell] at h2
        rw [hpk] at h2
        simpa using h2
      refine ⟨es.modify p.1 fun e => { e with key := .int .i64 kk, val := .bool v }, cl, ?_, ?_⟩
      · have hst : (Instr.keyThatStays (((es[p.1]?).map (·.key)).getD (.int .i64 kk)) (.int .i64 kk)).run P s.w = .ok (.int .i64 kk) s.w := by
          rw [Array.getElem?_eq_getElem hes]
          simp only [Option.map_some, Option.getD_some, hkey]
          unfold Instr.keyThatStays
          have : Instr.sameBits 10000 (.int .i64 kk) (.int .i64 kk) = true := by simp [Instr.sameBits]
          rw [if_pos this]; rfl
        simp only [Result.andThen, Option.map_some]
        rw [Sem.run_bind', hst]
        simp [Result.andThen, Go.MapKept.run_setObj_map _ hb]
      · have : (es.modify p.1 fun e => { e with key := Value.int .i64 kk, val := Value.bool v }).toList.map (fun e => (e.key, e.val)) = (es.toList.map fun e => (e.key, e.val)).set p.1 (mcell (kk, v)) := by
          rw [Array.toList_modify]
          apply List.ext_getElem?
          intro j
          simp only [List.getElem?_map, List.getElem?_modify, List.getElem?_set, List.length_map, Array.length_toList]
          by_cases hj : p.1 = j
          · subst hj; simp [hes, mcell]
          · simp [hj]
        rw [this, he, List.map_set]
  obtain ⟨es', cl', hr, he'⟩ := key
  have hset := Go.MapKept.heap_set (o' := .map es' cl') hb
  refine vd (w' := { s.w with heap := s.w.heap.setIfInBounds b (.map es' cl') }) ho hd hw (by simp [execOp, hop, hx, hy, hu, hr, Result.andThen]) (h ⟨{ s.w with heap := s.w.heap.setIfInBounds b (.map es' cl') }, s.g⟩ ⟨rfl, rfl, rfl, by simp, fun _ _ _ => rfl, fun b' hb' hm' => ⟨rfl, ?_⟩⟩ ⟨es', cl', hset.1, hc, he'⟩)
  refine hset.2 b' fun hne => ?_
  subst hne
  rw [hc] at hm'
  simp [memb] at hm'
end
theorem midx_some (m : MD) (k : Int) : ∀ i, (midx m k i).isSome = m.any (fun p => k == p.1) := by
 induction m with
 | nil => intro i; rfl
 | cons p m ih =>
  intro i
  unfold midx
  cases h : (k == p.1) with
  | true => simp [h]
  | false => simp [h, ih (i + 1)]
theorem mget_all {m : MD} (h : ∀ p ∈ m, p.2 = true) (k : Int) : mget m k = m.any (fun p => k == p.1) := by
 rw [← midx_some m k 0]
 unfold mget
 cases hx : midx m k 0 with
 | none => rfl
 | some p =>
  obtain ⟨h0, h1, h2⟩ := midx_lt k m 0 p.1 p.2 hx
  have hlt : p.1 < m.length := by omega
  have h3 := (h2 m[p.1] (by simp [List.getElem?_eq_getElem hlt])).2
  have h4 := h _ (List.getElem_mem hlt)
  simp only [Option.isSome_some]
  rw [← h3, h4]
theorem mset_new {m : MD} {k : Int} (h : m.any (fun p => k == p.1) = false) (v : Bool) : mset m k v = m ++ [(k, v)] := by
 rw [← midx_some m k 0] at h
 unfold mset
 cases hx : midx m k 0 with
 | none => rfl
 | some p => rw [hx] at h; cases h
end Go.Proofs.YtlpbggnpiogioaaGreat.V
set_option linter.unusedVariables false
set_option linter.unusedSimpArgs false
namespace Go.Proofs.YtlpbggnpiogioaaGreat.V
open Go
structure Pk (β : Type) where
 cs : List Value
 x : β
instance {β : Type} [Inhabited β] : Inhabited (Pk β) := ⟨⟨[], default⟩⟩
end Go.Proofs.YtlpbggnpiogioaaGreat.V
set_option linter.unusedVariables false
set_option linter.unusedSimpArgs false
namespace Go.Proofs.YtlpbggnpiogioaaGreat.V
open Go
def bcmpS (xs ys : List Int) : Int := Extern.BytealgCompare.cmp (str xs) (str ys)
def bcmp : List Int → List Int → Int
 | [], [] => 0
 | [], _ :: _ => -1
 | _ :: _, [] => 1
 | x :: xs, y :: ys => bif x == y then bcmp xs ys else bif decide (x < y) then -1 else 1
section
variable {P : Program} {f : Who} {N : Nat} {O ρ : Type} {m : Option O} {G : O → Option ρ} {R : ρ → Ending → World → Prop} {e : Env} {s : St} {k : List Item} {ops : Array Oper} {i d : Nat} {rest : List Nat} {o : Oper}
theorem add1 (a : Addr) (j : Nat) : (a.add 1).add j = a.add (j + 1) := by
 rw [Addr.add_add', Nat.add_comm]
theorem load_bytes {w : World} : ∀ (xs : List Int) (a : Addr) (acc : ByteArray), (∀ j u, (xs.map (Value.int .u8))[j]? = some u → w.cell? (a.add j) = some u) →
    (Extern.Bytes.loadBytes a xs.length acc).run P w = .ok (xs.foldl (fun r n => r.push (UInt8.ofNat n.toNat)) acc) w
  | [], a, acc, _ => by simp [Extern.Bytes.loadBytes]
  | x :: xs, a, acc, h => by
    have h0 := h 0 (.int .u8 x) rfl
    rw [V.add_zero] at h0
    have hl : (load a).run P w = .ok (.int .u8 x) w := by simp [load, Sem.run, h0]
    simp only [List.length_cons]
    unfold Extern.Bytes.loadBytes
    rw [Sem.run_bind', hl]
    simp only [Result.andThen, List.foldl_cons]
    exact load_bytes xs (a.add 1) _ fun j u hj => by rw [add1]; exact h (j + 1) u hj
theorem bytes_run {tg : TypeId} {v : Value} {xs : List Int} {C : List Nat} (hF : RdF (Kd.sl tg (Kd.int .u8)) s [v] xs C) : (Extern.Bytes.bytesOf v).run P s.w = .ok (str xs) s.w := by
 obtain ⟨v1, e1, A, cap, cells, rfl, hcap, hels, hc⟩ := hF
 obtain rfl : v = .slice A xs.length cap := by simpa using e1
 have hcells : cells = xs.map (.int .u8) := els_u8 hels
 cases A with
 | none =>
  have : xs = [] := by
   cases xs with
   | nil => rfl
   | cons x xs =>
    obtain ⟨ad, h, _⟩ := hc (by rw [hcells]; simp)
    cases h
  subst this
  simp [Extern.Bytes.bytesOf, str]
 | some a =>
  refine load_bytes xs a _ ?_
  rw [← hcells]
  by_cases hne : cells = []
  · rw [hne]; intro j u h; cases h
  · obtain ⟨ad, h, _, hcell⟩ := hc hne
    obtain rfl := Option.some.inj h
    exact hcell
theorem bcx {g : FuncId} {fn : Func} {X Y : Operand} {ts : Array TypeId} {t1 t2 : TypeId} {v u : Value} {xs ys : List Int} {C D : List Nat} (hX : RdF (Kd.sl t1 (Kd.int .u8)) s [v] xs C) (hY : RdF (Kd.sl t2 (Kd.int .u8)) s [u] ys D)
    (ho : ops[i]? = some o) (hd : o.dst = some d) (hN : Nat.blt d N = true) (hw : Region.wanted o (yv e ops) = true) (hop : o.op = .call { callee := .value (.func g), args := #[X, Y], argTypes := ts }) (hg : P.funcs[g]? = some fn) (hb : fn.body = none)
    (hn : (fn.name == "runtime.NumGoroutine") = false) (hnx : Extern.findNext fn = none) (hf : Extern.find fn = some Extern.BytealgCompare.compare) (hx : ev e X = v) (hy : ev e Y = u)
    (h : TM P f N m G R (.inRegion ops rest :: k) (upd e d (.int .i64 (bcmpS xs ys))) s.w) : TM P f N m G R (.inRegion ops (i :: rest) :: k) e s.w :=
  vl ho hd hN hw (ext_run hop hg hb hn hnx hf (by
    rw [show (#[X, Y] : Array Operand).map (ev e) = #[ev e X, ev e Y] from by simp, hx, hy]
    show Sem.run P (do let a ← Extern.Bytes.bytesOf v; let b ← Extern.Bytes.bytesOf u; pure (goInt (Extern.BytealgCompare.cmp a b))) s.w = _
    rw [Sem.run_bind', bytes_run hX]
    simp only [Result.andThen]
    rw [Sem.run_bind', bytes_run hY]
    rfl)) h
end
end Go.Proofs.YtlpbggnpiogioaaGreat.V
set_option linter.unusedVariables false
set_option linter.unusedSimpArgs false
namespace Go.Proofs.YtlpbggnpiogioaaGreat.V
open Go
def HoL {α β : Type} [Inhabited α] (te : TypeId) (K : Kd α) (A : Kd β) (q : Nat) (set : α → β → α) (s : St) (v : Value) (xs : List α) (ii : Int) (c : Nat) : Prop :=
 ∃ g cap cur c1 u0 c3 p1 p3, v = .slice (some ⟨g, 0, none⟩) xs.length cap ∧ Hr s.w g cur te ∧ xs.length ≤ cap ∧ cap ≤ maxLen ∧ cur.size = cap * K.n ∧
  cur.toList.take (xs.length * K.n) = c1 ++ (u0 ++ c3) ∧ u0.length = A.n ∧ c1.length = ii.toNat * K.n + q ∧ (g :: (p1 ++ p3)).Nodup ∧ (∀ b ∈ g :: (p1 ++ p3), s.g b = c ∧ b < s.w.heap.size) ∧ ii.toNat < xs.length ∧
  ∀ w' e2 y o2, A.ow w' e2 y o2 → Agr s.w w' (· ∈ p1 ++ p3) → ElsO K w' (xs.set ii.toNat (set (at_ xs ii) y)) (c1 ++ (e2 ++ c3)) (p1 ++ (o2 ++ p3))
theorem HoL.st {α β : Type} [Inhabited α] {te : TypeId} {K : Kd α} {A : Kd β} {q : Nat} {set : α → β → α} {s s' : St} {v : Value} {xs : List α} {ii : Int} {c : Nat} {S : List Nat} (h : HoL te K A q set s v xs ii c) (p : Stp S s s') (d : memb S c = false) : HoL te K A q set s' v xs ii c := by
 obtain ⟨g, cap, cur, c1, u0, c3, p1, p3, e1, e2, e3, e4, e5, e6, e7, e8, e9, e10, e11, e12⟩ := h
 have hs : ∀ b ∈ g :: (p1 ++ p3), s'.g b = s.g b ∧ s'.w.heap[b]? = s.w.heap[b]? := fun b hb => p.same b (e10 b hb).2 (by rw [(e10 b hb).1]; exact d)
 refine ⟨g, cap, cur, c1, u0, c3, p1, p3, e1, e2.eq (hs g (by simp)).2, e3, e4, e5, e6, e7, e8, e9, fun b hb => ⟨by rw [(hs b hb).1]; exact (e10 b hb).1, Nat.lt_of_lt_of_le (e10 b hb).2 p.size⟩, e11, fun w' e2 y o2 hy ha => e12 w' e2 y o2 hy fun b hb hl => ?_⟩
 rw [ha b hb (Nat.lt_of_lt_of_le hl p.size), (hs b (by simp at hb ⊢; rcases hb with hb | hb <;> simp [hb])).2]
theorem take_ {α β : Type} [Inhabited α] {K : Kd α} {A : Kd β} {q te : Nat} {get : α → β} {set : α → β → α} {s : St} {v u : Value} {xs : List α} {c : Nat} {ii : Int} {ad : Addr} {es : List Value} {C : List Nat} (a : Nat) (L : LensG K A q get set)
    (hO : OwF (Kd.sl te K) s [v] xs c) (h0 : 0 ≤ ii) (h1 : ii < xs.length) (hA : IxA v K.n ii ad) (hC : CeF s ad es C) (hu : es[q]? = some u) (hqn : Nat.blt q K.n = true) (hn : A.n = 1) (h40 : Nat.ble 40 c = true) :
    ∃ s' : St, s.w = s'.w ∧ Stp [c] s s' ∧ OwF A s' [u] (get (at_ xs ii)) a ∧ HoL te K A q set s' v xs ii c ∧ CeF s' ad es C := by
  have h40' := Nat.le_of_ble_eq_true h40
  obtain ⟨os, ⟨v1, e1, cells, o1, o2, rfl, hR, hE⟩, hnd, hcol⟩ := hO
  obtain rfl : v = v1 := by simpa using e1
  obtain ⟨Aa, l, cap, hv, rfl⟩ := hA
  have hi : ii.toNat < xs.length := by omega
  have hq : q < K.n := by simp [Nat.blt] at hqn; omega
  obtain ⟨hl, hR2⟩ := hR
  rcases hR2 with ⟨h2, _⟩ | ⟨g, cap', cur, h2, hg, hlc, hcm, hsz, htk, rfl⟩
  · rw [h2] at hv; cases hv
  · rw [h2] at hv
    simp only [Value.slice.injEq, Option.some.injEq] at hv
    obtain ⟨rfl, rfl, rfl⟩ := hv
    obtain ⟨p1, p2, p3, rfl, hK, hset⟩ := hE.at_ ii.toNat hi
    rw [at_eq xs ii hi]
    obtain ⟨r1, r2, r3, q1, q2, q3, hes, hq1, rfl, hg2, hput⟩ := L _ _ _ _ hK
    have hr2 : r2.length = A.n := A.rd_len (A.ow_rd hg2)
    have hmul : (ii.toNat + 1) * K.n ≤ xs.length * K.n := Nat.mul_le_mul_right _ hi
    rw [Nat.add_mul, Nat.one_mul] at hmul
    have hcl : cells.length = xs.length * K.n := hl
    have hlt : (cells.take (ii.toNat * K.n)).length = ii.toNat * K.n := by rw [List.length_take]; omega
    have e0 : cells = (cells.take (ii.toNat * K.n) ++ r1) ++ (r2 ++ (r3 ++ cells.drop ((ii.toNat + 1) * K.n))) := by
      have : cells = cells.take (ii.toNat * K.n) ++ ((r1 ++ (r2 ++ r3)) ++ cells.drop ((ii.toNat + 1) * K.n)) := by
        rw [← hes, Nat.add_mul, Nat.one_mul, ← List.drop_drop, List.take_append_drop, List.take_append_drop]
      conv => lhs; rw [this]
      simp
    have hc1l : (cells.take (ii.toNat * K.n) ++ r1).length = ii.toNat * K.n + q := by rw [List.length_append, hlt, hq1]
    -- the cell is the one that was loaded
    have hru : r2 = [u] := by
      obtain ⟨u', rfl⟩ := List.length_eq_one_iff.1 (hr2.trans hn)
      have hcell := hC.2 q u hu
      rw [Addr.add_add', Addr.add_mid, Nat.zero_add] at hcell
      have hc2 : cells[ii.toNat * K.n + q]? = some u' := by
        rw [e0, List.getElem?_append_right (by omega), hc1l, Nat.sub_self]; rfl
      rw [← htk, List.getElem?_take] at hc2
      split at hc2
      · have : s.w.cell? ⟨g, ii.toNat * K.n + q, none⟩ = cur[ii.toNat * K.n + q]? := hg.cell _
        rw [this, ← Array.getElem?_toList] at hcell
        rw [hcell] at hc2
        rw [Option.some.inj hc2]
      · cases hc2
    subst hru
    have hcnt : ∀ b, (g :: (p1 ++ (q1 ++ (q2 ++ q3)) ++ p3)).count b ≤ 1 := fun b => List.nodup_iff_count.1 hnd b
    have hgl : g < s.w.heap.size := hg.lt
    have hgq : g ∉ q2 := fun h => by
      have := hcnt g
      rw [List.count_cons_self] at this
      have h3 : 1 ≤ q2.count g := List.count_pos_iff.2 h
      simp only [List.count_append] at this
      omega
    have hout : ∀ b, b ∈ g :: ((p1 ++ q1) ++ (q3 ++ p3)) → b ∉ q2 := fun b hb hb2 => by
      have h3 : 1 ≤ q2.count b := List.count_pos_iff.2 hb2
      have h4 := hcnt b
      have h5 : 1 ≤ (g :: ((p1 ++ q1) ++ (q3 ++ p3))).count b := List.count_pos_iff.2 hb
      rw [List.count_cons] at h4 h5
      simp only [List.count_append] at h4 h5
      omega
    refine ⟨⟨s.w, fun b => open Classical in if b ∈ q2 then a else s.g b⟩, rfl, ⟨rfl, rfl, rfl, Nat.le_refl _, fun b hb hlo => ?_, fun b hb hm => ⟨?_, rfl⟩⟩, ⟨q2, hg2, ?_, fun b hb => by simp [hb]⟩, ?_, ?_⟩
    · have : b ∉ q2 := fun h => by
        have := hcol b (by simp [h])
        omega
      simp [this]
    · have : b ∉ q2 := fun h => by
        have := hcol b (by simp [h])
        rw [this] at hm; simp [memb] at hm
      simp [this]
    · rw [List.nodup_iff_count]
      intro b
      have h4 := hcnt b
      rw [List.count_cons] at h4
      simp only [List.count_append] at h4
      omega
    · refine ⟨g, cap', cur, _, [u], _, p1 ++ q1, q3 ++ p3, h2, hg, hlc, hcm, hsz, by rw [htk]; exact e0, hr2, hc1l, ?_, fun b hb => ⟨?_, ?_⟩, hi, fun w' e2 y o2 hy ha => ?_⟩
      · rw [List.nodup_iff_count]
        intro b
        have h4 := hcnt b
        rw [List.count_cons] at h4 ⊢
        simp only [List.count_append] at h4 ⊢
        omega
      · have := hout b hb
        simp only [this, if_false]
        refine hcol b ?_
        simp at hb ⊢
        rcases hb with rfl | hb | hb | hb | hb <;> simp [*]
      · simp at hb
        rcases hb with rfl | hb | hb | hb | hb
        · exact hgl
        · exact hE.lt b (by simp [hb])
        · exact hE.lt b (by simp [hb])
        · exact hE.lt b (by simp [hb])
        · exact hE.lt b (by simp [hb])
      · have h6 := hput w' y e2 o2 hy fun b hb hl => ha b (by simp at hb ⊢; rcases hb with hb | hb <;> simp [hb]) hl
        have h7 := hset w' _ _ _ h6 fun b hb hl => ha b (by simp at hb ⊢; rcases hb with hb | hb <;> simp [hb]) hl
        rw [← at_eq xs ii hi] at h7
        simpa using h7
    · refine ⟨?_, hC.2⟩
      have hb := hC.1
      rw [add_block] at hb ⊢
      have : (⟨g, 0, none⟩ : Addr).block ∉ q2 := hgq
      simp only [this, if_false]
      exact hb
section
variable {P : Program} {f : Who} {N : Nat} {O ρ : Type} {m : Option O} {G : O → Option ρ} {R : ρ → Ending → World → Prop} {e : Env} {s : St} {k : List Item} {ops : Array Oper} {i d : Nat} {rest : List Nat} {o : Oper}
theorem soh {α β : Type} [Inhabited α] {K : Kd α} {A : Kd β} {q : Nat} {set : α → β → α} {t te : TypeId} {x y : Operand} {v : Value} {vs : List Value} {xs : List α} {c d' : Nat} {ii : Int} {ad : Addr} {x' : β}
    (hH : HoL te K A q set s v xs ii c) (hA : IxA v K.n ii ad) (hX : OwF A s vs x' d') (hcd : Nat.beq c d' = false) (h10 : Nat.ble 40 d' = true) (hs : (P.info? t).map (·.size) = some A.n)
    (ho : ops[i]? = some o) (hd : o.dst = none) (hw : Region.wanted o (yv e ops) = true) (hop : o.op = .store t x y) (hx : ev e x = .pointer (some (ad.add q))) (hy : (ev e y).cells = vs.toArray)
    (h : ∀ s', Stp [c, d'] s s' → OwF (Kd.sl te K) s' [v] (xs.set ii.toNat (set (at_ xs ii) x')) c → TM P f N m G R (.inRegion ops rest :: k) e s'.w) : TM P f N m G R (.inRegion ops (i :: rest) :: k) e s.w := by
  have hcd' : c ≠ d' := fun h => by subst h; simp at hcd
  have hd10 := Nat.le_of_ble_eq_true h10
  obtain ⟨ox, hxo, hxn, hxc⟩ := hX
  have hvl : vs.length = A.n := A.rd_len (A.ow_rd hxo)
  have hv1 : ∀ u ∈ vs, u.oneCell' = true := A.rd_one (A.ow_rd hxo)
  obtain ⟨g, cap, cur, c1, u0, c3, p1, p3, rfl, hg, hlc, hcm, hsz, htk, hu0, hc1, hnd, hcol, hi, hmake⟩ := hH
  obtain ⟨Aa, l, cap2, hv, rfl⟩ := hA
  simp only [Value.slice.injEq, Option.some.injEq] at hv
  obtain ⟨rfl, rfl, rfl⟩ := hv
  have hcapm : xs.length * K.n ≤ cap * K.n := Nat.mul_le_mul_right _ hlc
  have hlen := congrArg List.length htk
  simp only [List.length_take, Array.length_toList, List.length_append] at hlen
  have hgc := (hcol g (by simp)).1
  have hgl := (hcol g (by simp)).2
  have hst := storeCells_hr P g (ii.toNat * K.n + q) te vs 0 cur s.w hg (by rw [hvl, hsz]; omega) hv1
  simp only [Nat.add_zero] at hst
  have had : ((⟨g, 0, none⟩ : Addr).add (ii.toNat * K.n)).add q = ⟨g, ii.toNat * K.n + q, none⟩ := by rw [Addr.add_add', Addr.add_mid, Nat.zero_add]
  rw [had] at hx
  have hrun : (Instr.storeAt t (.pointer (some ⟨g, ii.toNat * K.n + q, none⟩)) (ev e y)).run P s.w = .ok () (s.w.setRow g (cur.toList.take (ii.toNat * K.n + q) ++ vs ++ cur.toList.drop (ii.toNat * K.n + q + vs.length)).toArray) := by
    unfold Instr.storeAt
    rw [Sem.run_bind']
    simp only [Instr.sureAddr, Sem.run_pure, Result.andThen]
    unfold storeVar
    rw [Sem.run_bind', size_run hs]
    simp only [Result.andThen, hy]
    simp [hvl]
    simp [hvl] at hst
    exact hst
  have hndc := List.nodup_cons.1 hnd
  refine vd (w' := s.w.setRow g (cur.toList.take (ii.toNat * K.n + q) ++ vs ++ cur.toList.drop (ii.toNat * K.n + q + vs.length)).toArray) ho hd hw (by simp [execOp, hop, hx, hrun, Result.andThen]) (h ⟨_, fun b => if s.g b = d' then c else s.g b⟩ ⟨rfl, rfl, rfl, by simp, fun b hb hl => ?_, fun b hb hm => ?_⟩ ?_)
  · have : ¬ s.g b = d' := by omega
    simp [this]
  · simp only [memb, Bool.or_eq_false_iff] at hm
    have q1 : s.g b ≠ c := fun h => by rw [h] at hm; simp at hm
    have q2 : ¬ s.g b = d' := fun h => by rw [h] at hm; simp at hm
    refine ⟨by simp [q2], setRow_other s.w g b _ fun e => q1 (by rw [e]; exact hgc)⟩
  · have hoth : ∀ b, b ≠ g → (s.w.setRow g (cur.toList.take (ii.toNat * K.n + q) ++ vs ++ cur.toList.drop (ii.toNat * K.n + q + vs.length)).toArray).heap[b]? = s.w.heap[b]? := fun b hb => setRow_other s.w g b _ hb
    have hgx : g ∉ ox := fun h => hcd' (hgc.symm.trans (hxc g h))
    have hA' := A.ow_frame hxo (w' := s.w.setRow g (cur.toList.take (ii.toNat * K.n + q) ++ vs ++ cur.toList.drop (ii.toNat * K.n + q + vs.length)).toArray) fun b hb _ => hoth b fun h => hgx (h ▸ hb)
    have hnew := hmake _ vs x' ox hA' fun b hb _ => hoth b fun h => hndc.1 (by subst h; exact hb)
    have hpre : cur.toList.take (ii.toNat * K.n + q) = c1 := by
      have := congrArg (List.take (ii.toNat * K.n + q)) htk
      rw [List.take_take, Nat.min_eq_left (by omega), ← hc1, List.take_left' rfl] at this
      rw [← hc1]; exact this
    have hsuf : (cur.toList.take (xs.length * K.n)).drop (ii.toNat * K.n + q + vs.length) = c3 := by
      rw [htk, ← List.append_assoc]
      exact List.drop_left' (by rw [List.length_append, hc1, hu0, hvl])
    refine ⟨[g] ++ (p1 ++ (ox ++ p3)), ⟨_, rfl, _, [g], _, rfl, ⟨?_, .inr ⟨g, cap, _, by rw [List.length_set], hg.row3 _ _ (by rw [hvl, hsz]; omega), by simpa using hlc, hcm, ?_, ?_, rfl⟩⟩, hnew⟩, ?_, fun b hb => ?_⟩
    · simp only [List.length_set, List.length_append, hvl]
      omega
    · simp only [List.size_toArray, List.length_append, List.length_take, List.length_drop, Array.length_toList, hvl, hsz]
      omega
    · rw [List.length_set]
      have hla : (cur.toList.take (ii.toNat * K.n + q) ++ vs).length = ii.toNat * K.n + q + A.n := by
        rw [List.length_append, List.length_take, Array.length_toList, hvl, hsz]; omega
      rw [List.take_append, List.take_of_length_le (by omega), hla, hpre, List.append_assoc]
      congr 1
      congr 1
      rw [← hsuf, hvl, List.drop_take]
    · have hdj : ∀ b, b ∈ ox → b ∉ g :: (p1 ++ p3) := fun b hb hb2 => hcd' ((hcol b hb2).1.symm.trans (hxc b hb))
      rw [List.nodup_iff_count]
      intro b
      have c0 : (g :: (p1 ++ p3)).count b ≤ 1 := List.nodup_iff_count.1 hnd b
      have c1' : ox.count b ≤ 1 := List.nodup_iff_count.1 hxn b
      rw [List.count_cons] at c0
      simp only [List.singleton_append, List.count_cons, List.count_append] at c0 ⊢
      by_cases hb : b ∈ ox
      · have z0 : (g :: (p1 ++ p3)).count b = 0 := List.count_eq_zero.2 (hdj b hb)
        rw [List.count_cons] at z0
        simp only [List.count_append] at z0
        omega
      · have : ox.count b = 0 := List.count_eq_zero.2 hb
        omega
    · dsimp only
      simp only [List.singleton_append, List.mem_cons, List.mem_append] at hb
      rcases hb with rfl | hb | hb | hb
      · simp [hgc]
      · simp [(hcol b (by simp [hb])).1]
      · simp [hxc b hb]
      · simp [(hcol b (by simp [hb])).1]
end
theorem RwF.sub {α : Type} {e : TypeId} {K : Kd α} {s : St} {v : Value} {xs : List α} {c : Nat} {C : List Nat} (h : RwF e K s v xs c C) {D : List Nat} (d : V.sub C D = true) : RwF e K s v xs c D := by
 obtain ⟨cells, os, h1, h2, h3⟩ := h
 exact ⟨cells, os, h1, h2, h3.mono fun b hb _ => sub_out d hb⟩
end Go.Proofs.YtlpbggnpiogioaaGreat.V
set_option linter.unusedVariables false
set_option linter.unusedSimpArgs false
namespace Go.Proofs.YtlpbggnpiogioaaGreat.V
open Go
theorem ElsR.set {α : Type} {K : Kd α} {w : World} {F : Nat → Prop} {xs : List α} {cells c' : List Value} {y : α} (h : ElsR K w F xs cells) (i : Nat) (hi : i < xs.length) (hy : K.rd w c' y F) : ElsR K w F (xs.set i y) (cells.take (i * K.n) ++ c' ++ cells.drop ((i + 1) * K.n)) := by
 rw [List.set_eq_take_append_cons_drop, if_pos hi, List.append_assoc]
 exact (h.take i).append ⟨c', _, rfl, hy, h.drop (i + 1)⟩
section
variable {P : Program} {f : Who} {N : Nat} {O ρ : Type} {m : Option O} {G : O → Option ρ} {R : ρ → Ending → World → Prop} {e : Env} {s : St} {k : List Item} {ops : Array Oper} {i d : Nat} {rest : List Nat} {o : Oper}
theorem apRR {α : Type} {K : Kd α} {t te : TypeId} {x y : Operand} {v u : Value} {xs ys : List α} {c c2 : Nat} {C D : List Nat} (hT : SlT P t te K.n) (hD : RwF te K s v xs c C) (hS : RwF te K s u ys c2 D) (hc : memb (C ++ D) c = false)
    (ho : ops[i]? = some o) (hd : o.dst = some d) (hN : Nat.blt d N = true) (hw : Region.wanted o (yv e ops) = true) (hop : o.op = .call { callee := .builtin .append, args := #[x, y], argTypes := #[t, t] }) (hx : ev e x = v) (hy : ev e y = u)
    (h : ∀ v' s', Stp [c] s s' → RwF te K s' v' (xs ++ ys) c (C ++ D) → TM P f N m G R (.inRegion ops rest :: k) (upd e d v') s'.w) :
    TM P f N (if xs.length + ys.length ≤ Lim then m else none) G R (.inRegion ops (i :: rest) :: k) e s.w := by
  refine mg fun hl => ?_
  obtain ⟨cells, os, hR, hcol, hE⟩ := hD
  obtain ⟨cells', os', hR2, hcol2, hE'⟩ := hS
  obtain ⟨v', w', hr, hR', hg, hb⟩ := append_core (P := P) (ty := o.type) hT hR (hR2.slv hE'.one) hl
  refine vl (v := v') (w' := w') ho hd hN hw (by simp [execOp, hop, resolve, invoke, builtin, hx, hy, hr, Result.andThen]) ?_
  have hp : ∃ s' : St, s'.w = w' ∧ Stp [c] s s' ∧ (∀ b, b < s.w.heap.size → s'.g b = s.g b) ∧ (∀ b, s.w.heap.size ≤ b → s'.g b = c) := by
    refine ⟨⟨w', fun b => if b < s.w.heap.size then s.g b else c⟩, rfl, ⟨hg.os, hg.tape, hg.output, hg.size, fun b hb _ => by simp [hb], fun b hb hm => ⟨by simp [hb], hg.block b hb fun h => ?_⟩⟩, fun b hb => by simp [hb], fun b hb => ?_⟩
    · have := hcol b (blk_own hR h.symm)
      rw [this] at hm; simp [memb] at hm
    · have : ¬ b < s.w.heap.size := by omega
      simp [this]
  obtain ⟨s', rfl, p, hold, hnew⟩ := hp
  have hsub : ∀ n, memb C n = true → memb (C ++ D) n = true := fun n hn => memb_iff.2 (List.mem_append_left _ (memb_iff.1 hn))
  have hsub' : ∀ n, memb D n = true → memb (C ++ D) n = true := fun n hn => memb_iff.2 (List.mem_append_right _ (memb_iff.1 hn))
  refine h v' s' p ⟨cells ++ cells', Value.blk v', by rw [List.length_append]; exact hR', fun b hb' => ?_, ?_⟩
  · rcases hb b hb' with h1 | h1
    · rw [hold b (hR.lt b h1)]; exact hcol b h1
    · exact hnew b h1
  · have h1 : ElsR K s.w (fun b => b < s.w.heap.size ∧ memb (C ++ D) (s.g b) = true) (xs ++ ys) (cells ++ cells') := (hE.mono fun b hb hl => ⟨hl, hsub _ hb⟩).append (hE'.mono fun b hb hl => ⟨hl, hsub' _ hb⟩)
    refine (h1.frame fun b hb hl => (p.same b hl ?_).2).mono fun b hb _ => by rw [hold b hb.1]; exact hb.2
    cases hm : memb [c] (s.g b) with
    | false => rfl
    | true =>
      have := memb_iff.1 hm
      simp at this
      rw [this] at hb
      rw [hb.2] at hc; cases hc
theorem sor {α : Type} [Inhabited α] {K : Kd α} {t te : TypeId} {x y : Operand} {v : Value} {vs : List Value} {xs : List α} {c : Nat} {C D : List Nat} {ii : Int} {ad : Addr} {x' : α}
    (hO : RwF te K s v xs c C) (hA : IxA v K.n ii ad) (h0 : 0 ≤ ii) (h1 : ii < xs.length) (hX : RdF K s vs x' D) (hc : memb (C ++ D) c = false) (hs : (P.info? t).map (·.size) = some K.n)
    (ho : ops[i]? = some o) (hd : o.dst = none) (hw : Region.wanted o (yv e ops) = true) (hop : o.op = .store t x y) (hx : ev e x = .pointer (some ad)) (hy : (ev e y).cells = vs.toArray)
    (h : ∀ s', Stp [c] s s' → RwF te K s' v (xs.set ii.toNat x') c (C ++ D) → TM P f N m G R (.inRegion ops rest :: k) e s'.w) : TM P f N m G R (.inRegion ops (i :: rest) :: k) e s.w := by
  obtain ⟨cells, os, hR, hcol, hE⟩ := hO
  have hvl : vs.length = K.n := K.rd_len hX
  have hv1 : ∀ u ∈ vs, u.oneCell' = true := K.rd_one hX
  obtain ⟨Aa, l, cap2, hv, rfl⟩ := hA
  have hi : ii.toNat < xs.length := by omega
  obtain ⟨hl, hR2⟩ := hR
  rcases hR2 with ⟨h2, _⟩ | ⟨g, cap, cur, h2, hg, hlc, hcm, hsz, htk, rfl⟩
  · rw [h2] at hv; cases hv
  · rw [h2] at hv
    simp only [Value.slice.injEq, Option.some.injEq] at hv
    obtain ⟨rfl, rfl, rfl⟩ := hv
    have hgc := hcol g (by simp)
    have hgl : g < s.w.heap.size := hg.lt
    have hmul : (ii.toNat + 1) * K.n ≤ xs.length * K.n := Nat.mul_le_mul_right _ hi
    rw [Nat.add_mul, Nat.one_mul] at hmul
    have hcapm : xs.length * K.n ≤ cap * K.n := Nat.mul_le_mul_right _ hlc
    have hst := storeCells_hr P g (ii.toNat * K.n) te vs 0 cur s.w hg (by rw [hvl, hsz]; omega) hv1
    simp only [Nat.add_zero] at hst
    have had : (⟨g, 0, none⟩ : Addr).add (ii.toNat * K.n) = ⟨g, ii.toNat * K.n, none⟩ := by rw [Addr.add_mid, Nat.zero_add]
    rw [had] at hx
    have hrun : (Instr.storeAt t (.pointer (some ⟨g, ii.toNat * K.n, none⟩)) (ev e y)).run P s.w = .ok () (s.w.setRow g (cur.toList.take (ii.toNat * K.n) ++ vs ++ cur.toList.drop (ii.toNat * K.n + vs.length)).toArray) := by
      unfold Instr.storeAt
      rw [Sem.run_bind']
      simp only [Instr.sureAddr, Sem.run_pure, Result.andThen]
      unfold storeVar
      rw [Sem.run_bind', size_run hs]
      simp only [Result.andThen, hy]
      simp [hvl]
      simp [hvl] at hst
      exact hst
    refine vd (w' := s.w.setRow g (cur.toList.take (ii.toNat * K.n) ++ vs ++ cur.toList.drop (ii.toNat * K.n + vs.length)).toArray) ho hd hw (by simp [execOp, hop, hx, hrun, Result.andThen]) (h ⟨_, s.g⟩ ⟨rfl, rfl, rfl, by simp, fun _ _ _ => rfl, fun b hb hm => ⟨rfl, ?_⟩⟩ ?_)
    · refine setRow_other s.w g b _ fun e => ?_
      rw [e, hgc] at hm; simp [memb] at hm
    · have hoth : ∀ b, b ≠ g → (s.w.setRow g (cur.toList.take (ii.toNat * K.n) ++ vs ++ cur.toList.drop (ii.toNat * K.n + vs.length)).toArray).heap[b]? = s.w.heap[b]? := fun b hb => setRow_other s.w g b _ hb
      have hsub : ∀ n, memb C n = true → memb (C ++ D) n = true := fun n hn => memb_iff.2 (List.mem_append_left _ (memb_iff.1 hn))
      have hsub' : ∀ n, memb D n = true → memb (C ++ D) n = true := fun n hn => memb_iff.2 (List.mem_append_right _ (memb_iff.1 hn))
      have hne : ∀ b, memb (C ++ D) (s.g b) = true → b ≠ g := fun b hb e => by rw [e, hgc] at hb; rw [hb] at hc; cases hc
      have hset := (hE.mono fun b hb _ => hsub _ hb).set ii.toNat hi (K.rd_mono hX fun b hb _ => hsub' _ hb)
      have hset' := hset.frame (w' := s.w.setRow g (cur.toList.take (ii.toNat * K.n) ++ vs ++ cur.toList.drop (ii.toNat * K.n + vs.length)).toArray) fun b hb _ => hoth b (hne b hb)
      refine ⟨_, [g], ⟨?_, .inr ⟨g, cap, _, by rw [List.length_set]; exact h2, hg.row3 _ _ (by rw [hvl, hsz]; omega), by simpa using hlc, hcm, ?_, ?_, rfl⟩⟩, hcol, hset'⟩
      · simp only [List.length_set, List.length_append, List.length_take, List.length_drop, hvl, hl, Nat.add_mul, Nat.one_mul]
        omega
      · simp only [List.size_toArray, List.length_append, List.length_take, List.length_drop, Array.length_toList, hvl, hsz]
        omega
      · rw [List.length_set, ← htk, hvl, Nat.add_mul, Nat.one_mul]
        have e2 : (cur.toList.take (xs.length * K.n)).take (ii.toNat * K.n) = cur.toList.take (ii.toNat * K.n) := by rw [List.take_take]; congr 1; omega
        have e3 : (cur.toList.take (xs.length * K.n)).drop (ii.toNat * K.n + K.n) = (cur.toList.drop (ii.toNat * K.n + K.n)).take (xs.length * K.n - (ii.toNat * K.n + K.n)) := by rw [List.drop_take]
        rw [e2, e3]
        have hla : (cur.toList.take (ii.toNat * K.n) ++ vs).length = ii.toNat * K.n + K.n := by
          rw [List.length_append, List.length_take, Array.length_toList, hvl, hsz]; omega
        rw [List.take_append, List.take_of_length_le (by omega), hla]
end
end Go.Proofs.YtlpbggnpiogioaaGreat.V
set_option linter.unusedVariables false
set_option linter.unusedSimpArgs false
namespace Go.Proofs.YtlpbggnpiogioaaGreat.V
open Go
theorem ix_re {α : Type} [Inhabited α] {te : TypeId} {K : Kd α} {s : St} {v : Value} {xs : List α} {C : List Nat} {ii : Int} {ad : Addr} (hF : RdF (Kd.sl te K) s [v] xs C) (hn : Nat.ble 1 K.n = true) (h0 : 0 ≤ ii) (h1 : ii < xs.length) (hA : IxA v K.n ii ad) :
    ∃ es, RdF K s es (at_ xs ii) C ∧ CeF s ad es C := by
  obtain ⟨A, cap, es, hv, hrd, hce⟩ := rd_elem hF hn h0 h1
  obtain ⟨A', l', cap', hv', rfl⟩ := hA
  rw [hv] at hv'
  simp only [Value.slice.injEq, Option.some.injEq] at hv'
  obtain ⟨rfl, rfl, rfl⟩ := hv'
  exact ⟨es, hrd, hce⟩
section
variable {P : Program} {f : Who} {N : Nat} {O ρ : Type} {m : Option O} {G : O → Option ρ} {R : ρ → Ending → World → Prop} {e : Env} {s : St} {k : List Item} {ops : Array Oper} {i d : Nat} {rest : List Nat} {o : Oper}
end
end Go.Proofs.YtlpbggnpiogioaaGreat.V
set_option linter.unusedVariables false
set_option linter.unusedSimpArgs false
namespace Go.Proofs.YtlpbggnpiogioaaGreat.V
open Go
section
variable {P : Program} {f : Who} {N : Nat} {O ρ : Type} {m : Option O} {G : O → Option ρ} {R : ρ → Ending → World → Prop} {e : Env} {k : List Item} {ops : Array Oper}
variable {s : St} {i d : Nat} {rest : List Nat} {o : Oper}
end
end Go.Proofs.YtlpbggnpiogioaaGreat.V
set_option linter.unusedVariables false
set_option linter.unusedSimpArgs false
namespace Go.Proofs.YtlpbggnpiogioaaGreat.V
open Go
theorem rw_cells {α : Type} [Inhabited α] {K : Kd α} {te : TypeId} {s : St} {v : Value} {xs : List α} {c : Nat} {C : List Nat} {ii : Int} {ad : Addr} {es : List Value} (hO : RwF te K s v xs c C) (h0 : 0 ≤ ii) (h1 : ii < xs.length) (hA : IxA v K.n ii ad) (hel : es.length = K.n)
    (hC : ∀ j u, es[j]? = some u → s.w.cell? (ad.add j) = some u) : RdF K s es (at_ xs ii) C := by
  obtain ⟨cells, os, hR, hcol, hE⟩ := hO
  obtain ⟨Aa, l, cap2, hv, rfl⟩ := hA
  have hi : ii.toNat < xs.length := by omega
  obtain ⟨hl, hR2⟩ := hR
  rcases hR2 with ⟨h2, _⟩ | ⟨g, cap, cur, h2, hg, hlc, hcm, hsz, htk, rfl⟩
  · rw [h2] at hv; cases hv
  rw [h2] at hv
  simp only [Value.slice.injEq, Option.some.injEq] at hv
  obtain ⟨rfl, rfl, rfl⟩ := hv
  have hmul : (ii.toNat + 1) * K.n ≤ xs.length * K.n := Nat.mul_le_mul_right _ hi
  rw [Nat.add_mul, Nat.one_mul] at hmul
  have hK := hE.at_ ii.toNat hi
  have hchunk : (cells.drop (ii.toNat * K.n)).take K.n = es := by
    apply List.ext_getElem?
    intro j
    by_cases hj : j < K.n
    · have hcell := hC j es[j] (List.getElem?_eq_getElem (by omega))
      rw [Addr.add_add', Addr.add_mid, Nat.zero_add] at hcell
      have hw2 : s.w.cell? ⟨g, ii.toNat * K.n + j, none⟩ = cur[ii.toNat * K.n + j]? := hg.cell _
      rw [hw2, ← Array.getElem?_toList] at hcell
      rw [List.getElem?_take, if_pos hj, List.getElem?_drop, ← htk, List.getElem?_take, if_pos (by omega), hcell, List.getElem?_eq_getElem (by omega)]
    · rw [List.getElem?_eq_none (by simp; omega), List.getElem?_eq_none (by omega)]
  rw [hchunk] at hK
  rw [at_eq xs ii hi]
  exact hK
theorem rw_sharp {α : Type} [Inhabited α] {K : Kd α} {te : TypeId} {s : St} {v : Value} {xs : List α} {c : Nat} {C D E : List Nat} {ii : Int} {ad : Addr} {es : List Value} (hO : RwF te K s v xs c C) (h0 : 0 ≤ ii) (h1 : ii < xs.length) (hA : IxA v K.n ii ad) (hC : CeF s ad es D) (hX : RdF K s es (at_ xs ii) E) : RdF K s es (at_ xs ii) C :=
 rw_cells hO h0 h1 hA (K.rd_len hX) hC.2
theorem lsn {α : Type} [Inhabited α] {K : Kd α} {te : TypeId} {s : St} {v : Value} {xs : List α} {c : Nat} (c2 : Nat) (hO : OwF (Kd.sl te K) s [v] xs c) (h40 : Nat.ble 40 c = true) :
    ∃ s' : St, s.w = s'.w ∧ Stp [c] s s' ∧ RwF te K s' v xs c [c2] ∧ ∀ (ii : Int) (ad : Addr) (es : List Value) (D E : List Nat), 0 ≤ ii → ii < xs.length → IxA v K.n ii ad → CeF s ad es D → RdF K s es (at_ xs ii) E → RdF K s' es (at_ xs ii) [c2] := by
  have h40' := Nat.le_of_ble_eq_true h40
  obtain ⟨os, ⟨v1, e1, cells, o1, o2, rfl, hR, hE⟩, hnd, hcol⟩ := hO
  obtain rfl : v = v1 := by simpa using e1
  have key : ∃ s' : St, s.w = s'.w ∧ Stp [c] s s' ∧ RwF te K s' v xs c [c2] := by
    refine ⟨⟨s.w, fun b => open Classical in if b ∈ o2 then c2 else s.g b⟩, rfl, ⟨rfl, rfl, rfl, Nat.le_refl _, fun b hb hl => ?_, fun b hb hm => ⟨?_, rfl⟩⟩, cells, o1, hR, fun b hb => ?_, hE.rd.mono fun b hb _ => ?_⟩
    · have : b ∉ o2 := fun h => by have := hcol b (List.mem_append_right _ h); omega
      simp [this]
    · have : b ∉ o2 := fun h => by rw [hcol b (List.mem_append_right _ h)] at hm; simp [memb] at hm
      simp [this]
    · have : b ∉ o2 := fun h => (List.nodup_append.1 hnd).2.2 b hb b h rfl
      simp only [if_neg this]
      exact hcol b (List.mem_append_left _ hb)
    · simp [memb, hb]
  obtain ⟨s', hw, p, hrw⟩ := key
  refine ⟨s', hw, p, hrw, fun ii ad es D E h0 h1 hA hC hX => rw_cells hrw h0 h1 hA (K.rd_len hX) ?_⟩
  rw [← hw]; exact hC.2
abbrev RT {ρ : Type} (Q : ρ → Value → World → Prop) (r : ρ) (en : Ending) (w' : World) : Prop := ∃ v, en = .returned v ∧ Q r v w'
end Go.Proofs.YtlpbggnpiogioaaGreat.V
set_option linter.unusedVariables false
set_option linter.unusedSimpArgs false
namespace Go.Proofs.YtlpbggnpiogioaaGreat.V
open Go
section
variable {α : Type} {K : Kd α} {te : TypeId} {s : St} {v v' : Value} {xs : List α} {c : Nat}
end
section
variable {P : Program} {f : Who} {N : Nat} {O ρ : Type} {m : Option O} {G : O → Option ρ} {R : ρ → Ending → World → Prop} {e : Env} {s : St} {k : List Item} {ops : Array Oper} {i d : Nat} {rest : List Nat} {o : Oper}
end
end Go.Proofs.YtlpbggnpiogioaaGreat.V
set_option linter.unusedVariables false
set_option linter.unusedSimpArgs false
set_option linter.unusedSectionVars false
namespace Go.Proofs.YtlpbggnpiogioaaGreat.V
open Go
section
variable {α : Type} [Inhabited α]
theorem wr64 {n : Int} (h0 : -9223372036854775808 ≤ n) (h1 : n ≤ 9223372036854775807) : IntKind.i64.wrap n = n := by
 rw [IntKind.wrap_i64]; omega
end
section
variable {β : Type} [Inhabited β] {K : Kd β} {te : TypeId}
def PkB (K : Kd β) (s : St) (ps : List (Pk β × List Nat)) (c : Nat) : Prop := (∀ p ∈ ps, K.ow s.w p.1.cs p.1.x p.2) ∧ ((ps.map (·.2)).flatten).Nodup ∧ ∀ b ∈ (ps.map (·.2)).flatten, s.g b = c
theorem mem_fl {ps : List (Pk β × List Nat)} {p : Pk β × List Nat} (h : p ∈ ps) {b : Nat} (hb : b ∈ p.2) : b ∈ (ps.map (·.2)).flatten := List.mem_flatten.2 ⟨p.2, List.mem_map.2 ⟨p, h, rfl⟩, hb⟩
theorem PkB.st {s s' : St} {S : List Nat} {ps : List (Pk β × List Nat)} {c : Nat} (h : PkB K s ps c) (p : Stp S s s') (d : memb S c = false) : PkB K s' ps c := by
 refine ⟨fun q hq => K.ow_frame (h.1 q hq) fun b hb hl => (p.same b hl (by rw [h.2.2 b (mem_fl hq hb)]; exact d)).2, h.2.1, fun b hb => ?_⟩
 obtain ⟨l, hl, hbl⟩ := List.mem_flatten.1 hb
 obtain ⟨q, hq, rfl⟩ := List.mem_map.1 hl
 rw [(p.same b (K.ow_lt (h.1 q hq) b hbl) (by rw [h.2.2 b hb]; exact d)).1, h.2.2 b hb]
end
end Go.Proofs.YtlpbggnpiogioaaGreat.V
set_option linter.unusedVariables false
set_option linter.unusedSimpArgs false
namespace Go.Proofs.YtlpbggnpiogioaaGreat.V
open Go
def cov : List Nat → List Nat → List Nat → Bool
 | [], _, _ => true
 | c :: D, E, C => (memb E c || memb C c) && cov D E C
theorem cov_out {D E C : List Nat} (h : cov D E C = true) {n : Nat} (hn : memb D n = true) : memb E n = true ∨ memb C n = true := by
 induction D with
 | nil => cases hn
 | cons c D ih =>
  simp only [cov, Bool.and_eq_true, Bool.or_eq_true] at h
  simp only [memb, Bool.or_eq_true] at hn
  rcases hn with hn | hn
  · have := Nat.eq_of_beq_eq_true hn
    subst this; exact h.1
  · exact ih h.2 hn
structure Rc (E : List Nat) (q : Nat) (s s' : St) : Prop where
 w : s.w = s'.w
 inn : ∀ b, memb E (s.g b) = true → s'.g b = q
 out : ∀ b, memb E (s.g b) = false → s'.g b = s.g b
theorem rc_all (s : St) (E : List Nat) (q : Nat) (h : E.all (Nat.ble 40 ·) = true) : ∃ s', s.w = s'.w ∧ Stp E s s' ∧ Rc E q s s' := by
 refine ⟨⟨s.w, fun b => if memb E (s.g b) = true then q else s.g b⟩, rfl, ⟨rfl, rfl, rfl, Nat.le_refl _, fun b hb hl => ?_, fun b hb hm => ⟨by simp [hm], rfl⟩⟩, ⟨rfl, fun b hb => by simp [hb], fun b hb => by simp [hb]⟩⟩
 have : ¬ memb E (s.g b) = true := fun hm => by
  have := Nat.le_of_ble_eq_true (List.all_eq_true.1 h _ (memb_iff.1 hm))
  omega
 simp [this]
theorem RdF.rc {α : Type} {K : Kd α} {s s' : St} {cs : List Value} {x : α} {D E C : List Nat} {q : Nat} (h : RdF K s cs x D) (r : Rc E q s s') (hq : memb C q = true) (hc : cov D E C = true) : RdF K s' cs x C := by
 unfold RdF at h ⊢
 rw [← r.w]
 refine K.rd_mono h fun b hb _ => ?_
 rcases cov_out hc hb with h1 | h1
 · rw [r.inn b h1]; exact hq
 · cases hm : memb E (s.g b) with
   | true => rw [r.inn b hm]; exact hq
   | false => rw [r.out b hm]; exact h1
end Go.Proofs.YtlpbggnpiogioaaGreat.V
set_option linter.unusedVariables false
set_option linter.unusedSimpArgs false
namespace Go.Proofs.YtlpbggnpiogioaaGreat.V
open Go
theorem ZN.bl {F : Nat → Prop} {ps : List (List Nat × Nat)} {s : St} (z : ZN F ps s) {b c : Nat} {t : TypeId} {cs : List Value} (hm : ([b], c) ∈ ps) (h : BlW s.w b t cs) : BlF s b t cs c := ⟨h, z.pt _ hm b (by simp)⟩
section
variable {P : Program} {N : Nat} {e : Env} {s : St} {ops : Array Oper} {i d : Nat} {o : Oper}
end
end Go.Proofs.YtlpbggnpiogioaaGreat.V
set_option linter.unusedVariables false
set_option linter.unusedSimpArgs false
set_option linter.unusedSectionVars false
namespace Go.Proofs.YtlpbggnpiogioaaGreat.V
open Go
end Go.Proofs.YtlpbggnpiogioaaGreat.V
set_option linter.unusedVariables false
set_option linter.unusedSimpArgs false
namespace Go.Proofs.YtlpbggnpiogioaaGreat.V
open Go
structure Wg (w w' : World) : Prop where
 os : w'.os = w.os
 tape : w'.tape = w.tape
 output : w'.output = w.output
 size : w.heap.size ≤ w'.heap.size
structure LpZ where
 l : Nat
 D : Nat
 lp : Loop
structure LoopF (Z : LpZ) (c : Nat) (st : LoopState) (s : St) : Prop where
 lh : s.w.heap[Z.l]? = some (.loop { Z.lp with state := st })
 dh : s.w.heap[Z.D]? = some (.deferred (some []))
 lc : s.g Z.l = c
 dc : s.g Z.D = c
 ne : Z.l ≠ Z.D
 pe : Z.lp.pending = none
theorem LoopF.st {Z : LpZ} {c : Nat} {st : LoopState} {s s' : St} {S : List Nat} (h : LoopF Z c st s) (p : Stp S s s') (d : memb S c = false) : LoopF Z c st s' := by
 have h1 := p.same Z.l (Array.getElem?_eq_some_iff.1 h.lh).1 (by rw [h.lc]; exact d)
 have h2 := p.same Z.D (Array.getElem?_eq_some_iff.1 h.dh).1 (by rw [h.dc]; exact d)
 exact ⟨h1.2.trans h.lh, h2.2.trans h.dh, h1.1.trans h.lc, h2.1.trans h.dc, h.ne, h.pe⟩
theorem LoopF.set {Z : LpZ} {c : Nat} {st : LoopState} {s : St} (h : LoopF Z c st s) (st' : LoopState) : ∃ s' : St, s'.w = s.w.putObj Z.l (.loop { Z.lp with state := st' }) ∧ Stp [c] s s' ∧ LoopF Z c st' s' := by
 refine ⟨⟨s.w.putObj Z.l (.loop { Z.lp with state := st' }), s.g⟩, rfl, ⟨rfl, rfl, rfl, by simp, fun _ _ _ => rfl, fun b hb hm => ⟨rfl, ?_⟩⟩, ⟨World.putObj_heap_same (Array.getElem?_eq_some_iff.1 h.lh).1, ?_, h.lc, h.dc, h.ne, h.pe⟩⟩
 · refine World.putObj_heap_other fun e => ?_
   subst e; rw [h.lc] at hm; simp [memb] at hm
 · exact (World.putObj_heap_other (Ne.symm h.ne)).trans h.dh
theorem Kp.self (s : St) : Kp s s := ⟨rfl, rfl, rfl, Nat.le_refl _, fun _ _ _ => rfl, fun _ _ _ => rfl⟩
def JF {σ : Type} (J : σ → World → Prop) (s : St) (y : σ) : Prop := J y s.w
theorem Stp.ky {s s' : St} (p : Stp [] s s') : Ky [] s.w s'.w := ⟨p.os, p.tape, p.output, p.size, fun b hb _ => (p.same b hb rfl).2⟩
theorem JF.st {σ : Type} {J : σ → World → Prop} {s s' : St} {y : σ} (h : JF J s y) (hJ : ∀ y w w', J y w → Ky [] w w' → J y w') (p : Stp [] s s') : JF J s' y := hJ _ _ _ h p.ky
section
variable {P : Program} {f : Who} {N : Nat} {O ρ : Type} {m : Option O} {G : O → Option ρ} {R : ρ → Ending → World → Prop} {e : Env} {s : St} {w : World} {k : List Item} {ops : Array Oper} {i d : Nat} {rest : List Nat} {o : Oper}
end
end Go.Proofs.YtlpbggnpiogioaaGreat.V
set_option linter.unusedVariables false
set_option linter.unusedSimpArgs false
namespace Go.Proofs.YtlpbggnpiogioaaGreat.V
open Go
theorem Hr.mark {P : Program} {w : World} {g : Nat} {cur : Array Value} {e : TypeId} (h : Hr w g cur e) : (markStringish ⟨g, 0, none⟩).run P w = .ok () (w.freeze ⟨g, cur.size, none⟩ 1) ∧ Hr (w.freeze ⟨g, cur.size, none⟩ 1) g cur e ∧ (∀ b, b ≠ g → (w.freeze ⟨g, cur.size, none⟩ 1).heap[b]? = w.heap[b]?) ∧ (w.freeze ⟨g, cur.size, none⟩ 1).heap.size = w.heap.size := by
 obtain ⟨⟨lo, hi⟩, h, h2⟩ := h
 have hsh : w.shape? g = some (e, cur.size) := by unfold World.shape?; rw [h]
 refine ⟨?_, ⟨(if lo == hi then (cur.size, cur.size + 1) else (min lo cur.size, max hi (cur.size + 1))), ?_, ?_⟩, fun b hb => ?_, ?_⟩
 · simp [markStringish, hsh, Result.andThen]
 · simp only [World.freeze, Nat.one_ne_zero, if_false]
   rw [Array.getElem?_modify, if_pos rfl, h]; rfl
 · right
   split
   · exact Nat.le_refl _
   · rcases h2 with h2 | h2
     · obtain ⟨rfl, rfl⟩ := Prod.mk.inj h2
       rename_i hh; simp at hh
     · simp only at h2 ⊢; omega
 · simp only [World.freeze, Nat.one_ne_zero, if_false]
   rw [Array.getElem?_modify, if_neg (fun e => hb e.symm)]
 · simp [World.freeze]
section
variable {P : Program} {f : Who} {N : Nat} {O ρ : Type} {m : Option O} {G : O → Option ρ} {R : ρ → Ending → World → Prop} {e : Env} {s : St} {k : List Item} {ops : Array Oper} {i d : Nat} {rest : List Nat} {o : Oper}
end
end Go.Proofs.YtlpbggnpiogioaaGreat.V
set_option linter.unusedVariables false
set_option linter.unusedSimpArgs false
namespace Go.Proofs.YtlpbggnpiogioaaGreat.V
open Go
def SitF (s : St) (b : Nat) (a : ByteArray) (off : Nat) (c : Nat) : Prop := s.w.heap[b]? = some (.stringIter a off) ∧ s.g b = c
theorem SitF.st {s s' : St} {S : List Nat} {b c : Nat} {a : ByteArray} {off : Nat} (h : SitF s b a off c) (p : Stp S s s') (d : memb S c = false) : SitF s' b a off c := by
 have hb : b < s.w.heap.size := (Array.getElem?_eq_some_iff.1 h.1).1
 have := p.same b hb (by rw [h.2]; exact d)
 exact ⟨by rw [this.2]; exact h.1, by rw [this.1]; exact h.2⟩
theorem FRF.kp {α : Type} {K : Kd α} {F : Nat → Prop} {s0 s s' : St} {cs : List Value} {x : α} (h : FRF K F s0.w s.w cs x) (z : ∀ b, F b → s0.g b = 0) (p : Kp s0 s) (p' : Kp s0 s') : FRF K F s0.w s'.w cs x :=
 K.rd_mono (K.rd_frame h fun b hb _ => by rw [p'.same b hb.2 (by rw [z b hb.1]; omega), p.same b hb.2 (by rw [z b hb.1]; omega)]) fun b hb _ => hb
theorem FRF.rd {α : Type} {K : Kd α} {F : Nat → Prop} {s0 s : St} {cs : List Value} {x : α} (h : FRF K F s0.w s.w cs x) (z : ∀ b, F b → s0.g b = 0) (p : Kp s0 s) : RdF K s cs x [0] :=
 K.rd_mono h fun b hb _ => by rw [p.col b hb.2 (by rw [z b hb.1]; omega), z b hb.1]; rfl
theorem FRF.up {α : Type} {K : Kd α} {F : Nat → Prop} {s0 s s' : St} {cs : List Value} {x : α} (h : FRF K (fun b => F b ∧ b < s0.w.heap.size) s.w s'.w cs x) : FRF K F s0.w s'.w cs x := K.rd_mono h fun b hb _ => hb.1
section
variable {P : Program} {f : Who} {N : Nat} {O ρ : Type} {m : Option O} {G : O → Option ρ} {R : ρ → Ending → World → Prop} {e : Env} {s : St} {k : List Item} {ops : Array Oper} {i d : Nat} {rest : List Nat} {o : Oper}
end
end Go.Proofs.YtlpbggnpiogioaaGreat.V
set_option linter.unusedVariables false
set_option linter.unusedSimpArgs false
namespace Go.Proofs.YtlpbggnpiogioaaGreat.V
open Go
end Go.Proofs.YtlpbggnpiogioaaGreat.V
set_option linter.unusedVariables false
set_option linter.unusedSimpArgs false
set_option linter.unusedSectionVars false
namespace Go.Proofs.YtlpbggnpiogioaaGreat.V
open Go
section
variable {α : Type} [Inhabited α]
noncomputable def insM.b1 (a1 : Int) (a3 : (α → α → Option Int)) (x2 : (List α) × Int) (x6 : (List α) × Int) : Option (((List α) × Int) ⊕ ((List α) × Int ⊕ (List α))) :=
 ((if (decide (x6.2 > a1)) = true then (if 0 ≤ x6.2 ∧ x6.2 < (x6.1.length : Int) then (if 0 ≤ (IntKind.wrap .i64 (x6.2 - (1 : Int))) ∧ (IntKind.wrap .i64 (x6.2 - (1 : Int))) < (x6.1.length : Int) then ((a3 (at_ x6.1 x6.2) (at_ x6.1 (IntKind.wrap .i64 (x6.2 - (1 : Int))))).bind fun r31 => (some (decide (r31 < (0 : Int))))) else none) else none) else (some false)).bind fun y14 => (if y14 = true then (if 0 ≤ (IntKind.wrap .i64 (x6.2 - (1 : Int))) ∧ (IntKind.wrap .i64 (x6.2 - (1 : Int))) < (x6.1.length : Int) then (if 0 ≤ x6.2 ∧ x6.2 < (x6.1.length : Int) then (if 0 ≤ x6.2 ∧ x6.2 < (x6.1.length : Int) then (if 0 ≤ (IntKind.wrap .i64 (x6.2 - (1 : Int))) ∧ (IntKind.wrap .i64 (x6.2 - (1 : Int))) < ((x6.1.set (x6.2).toNat (at_ x6.1 (IntKind.wrap .i64 (x6.2 - (1 : Int))))).length : Int) then ((some ((x6.1.set (x6.2).toNat (at_ x6.1 (IntKind.wrap .i64 (x6.2 - (1 : Int))))).set ((IntKind.wrap .i64 (x6.2 - (1 : Int)))).toNat (at_ x6.1 x6.2))).bind fun y84 => (some (Sum.inl (y84, (IntKind.wrap .i64 (x6.2 - (1 : Int))))))) else none) else none) else none) else none) else ((some (Sum.inl (x6.1, (IntKind.wrap .i64 (x2.2 + (1 : Int)))))).bind fun o => some (Sum.inr o))))
noncomputable def insM.b0 (a1 : Int) (a2 : Int) (a3 : (α → α → Option Int)) (x2 : (List α) × Int) : Option (((List α) × Int) ⊕ (List α)) :=
 (if (decide (x2.2 < a2)) = true then (iter (insM.b1 a1 a3 x2) (x2.1, x2.2)) else ((some x2.1).bind fun o => some (Sum.inr o)))
noncomputable def insM.f (a0 : (List α)) (a1 : Int) (a2 : Int) (a3 : (α → α → Option Int)) : Option ((List α)) :=
 (iter (insM.b0 a1 a2 a3) (a0, (IntKind.wrap .i64 (a1 + (1 : Int)))))
noncomputable def swpM.b0 (a1 : Int) (a2 : Int) (a3 : Int) (x2 : (List α) × Int) : Option (((List α) × Int) ⊕ (List α)) :=
 (if (decide (x2.2 < a3)) = true then (if 0 ≤ (IntKind.wrap .i64 (a2 + x2.2)) ∧ (IntKind.wrap .i64 (a2 + x2.2)) < (x2.1.length : Int) then (if 0 ≤ (IntKind.wrap .i64 (a1 + x2.2)) ∧ (IntKind.wrap .i64 (a1 + x2.2)) < (x2.1.length : Int) then (if 0 ≤ (IntKind.wrap .i64 (a1 + x2.2)) ∧ (IntKind.wrap .i64 (a1 + x2.2)) < (x2.1.length : Int) then (if 0 ≤ (IntKind.wrap .i64 (a2 + x2.2)) ∧ (IntKind.wrap .i64 (a2 + x2.2)) < ((x2.1.set ((IntKind.wrap .i64 (a1 + x2.2))).toNat (at_ x2.1 (IntKind.wrap .i64 (a2 + x2.2)))).length : Int) then ((some ((x2.1.set ((IntKind.wrap .i64 (a1 + x2.2))).toNat (at_ x2.1 (IntKind.wrap .i64 (a2 + x2.2)))).set ((IntKind.wrap .i64 (a2 + x2.2))).toNat (at_ x2.1 (IntKind.wrap .i64 (a1 + x2.2))))).bind fun y47 => (some (Sum.inl (y47, (IntKind.wrap .i64 (x2.2 + (1 : Int))))))) else none) else none) else none) else none) else ((some x2.1).bind fun o => some (Sum.inr o)))
noncomputable def swpM.f (a0 : (List α)) (a1 : Int) (a2 : Int) (a3 : Int) (a4 : (α → α → Option Int)) : Option ((List α)) :=
 (iter (swpM.b0 a1 a2 a3) (a0, (0 : Int)))
noncomputable def rotM.b0 (a2 : Int) (a4 : (α → α → Option Int)) (x2 : (List α) × Int × Int) : Option (((List α) × Int × Int) ⊕ (List α)) :=
 (if (x2.2.1 != x2.2.2) = true then ((if (decide (x2.2.1 > x2.2.2)) = true then ((swpM.f x2.1 (IntKind.wrap .i64 (a2 - x2.2.1)) a2 x2.2.2 a4).bind fun r8 => (some (r8, (IntKind.wrap .i64 (x2.2.1 - x2.2.2)), x2.2.2))) else ((swpM.f x2.1 (IntKind.wrap .i64 (a2 - x2.2.1)) (IntKind.wrap .i64 ((IntKind.wrap .i64 (a2 + x2.2.2)) - x2.2.1)) x2.2.1 a4).bind fun r12 => (some (r12, x2.2.1, (IntKind.wrap .i64 (x2.2.2 - x2.2.1)))))).bind fun y6 => (some (Sum.inl (y6.1, y6.2.1, y6.2.2)))) else (((swpM.f x2.1 (IntKind.wrap .i64 (a2 - x2.2.1)) a2 x2.2.1 a4).bind fun r18 => (some r18)).bind fun o => some (Sum.inr o)))
noncomputable def rotM.f (a0 : (List α)) (a1 : Int) (a2 : Int) (a3 : Int) (a4 : (α → α → Option Int)) : Option ((List α)) :=
 (iter (rotM.b0 a2 a4) (a0, (IntKind.wrap .i64 (a2 - a1)), (IntKind.wrap .i64 (a3 - a2))))
noncomputable def symM.b4 (a0 : (List α)) (a1 : Int) (a2 : Int) (a3 : Int) (a4 : (α → α → Option Int)) (R : ((List α) → Int → Int → Int → (α → α → Option Int) → Option ((List α)))) (x145 : Int × Int) : Option ((Int × Int) ⊕ (List α)) :=
 (if (decide (x145.1 < x145.2)) = true then (if 0 ≤ (IntKind.wrap .i64 ((IntKind.wrap .i64 ((IntKind.wrap .i64 ((IntKind.wrap .i64 (ishr .u64 (IntKind.wrap .u64 (IntKind.wrap .i64 (a1 + a3))) (1 : Int))) + a2)) - (1 : Int))) - (IntKind.wrap .i64 (ishr .u64 (IntKind.wrap .u64 (IntKind.wrap .i64 (x145.1 + x145.2))) (1 : Int))))) ∧ (IntKind.wrap .i64 ((IntKind.wrap .i64 ((IntKind.wrap .i64 ((IntKind.wrap .i64 (ishr .u64 (IntKind.wrap .u64 (IntKind.wrap .i64 (a1 + a3))) (1 : Int))) + a2)) - (1 : Int))) - (IntKind.wrap .i64 (ishr .u64 (IntKind.wrap .u64 (IntKind.wrap .i64 (x145.1 + x145.2))) (1 : Int))))) < (a0.length : Int) then (if 0 ≤ (IntKind.wrap .i64 (ishr .u64 (IntKind.wrap .u64 (IntKind.wrap .i64 (x145.1 + x145.2))) (1 : Int))) ∧ (IntKind.wrap .i64 (ishr .u64 (IntKind.wrap .u64 (IntKind.wrap .i64 (x145.1 + x145.2))) (1 : Int))) < (a0.length : Int) then ((a4 (at_ a0 (IntKind.wrap .i64 ((IntKind.wrap .i64 ((IntKind.wrap .i64 ((IntKind.wrap .i64 (ishr .u64 (IntKind.wrap .u64 (IntKind.wrap .i64 (a1 + a3))) (1 : Int))) + a2)) - (1 : Int))) - (IntKind.wrap .i64 (ishr .u64 (IntKind.wrap .u64 (IntKind.wrap .i64 (x145.1 + x145.2))) (1 : Int)))))) (at_ a0 (IntKind.wrap .i64 (ishr .u64 (IntKind.wrap .u64 (IntKind.wrap .i64 (x145.1 + x145.2))) (1 : Int))))).bind fun r166 => ((if (!(decide (r166 < (0 : Int)))) = true then (some ((IntKind.wrap .i64 ((IntKind.wrap .i64 (ishr .u64 (IntKind.wrap .u64 (IntKind.wrap .i64 (x145.1 + x145.2))) (1 : Int))) + (1 : Int))), x145.2)) else (some (x145.1, (IntKind.wrap .i64 (ishr .u64 (IntKind.wrap .u64 (IntKind.wrap .i64 (x145.1 + x145.2))) (1 : Int)))))).bind fun y168 => (some (Sum.inl (y168.1, y168.2))))) else none) else none) else (((if ((decide (x145.1 < a2)) && (decide (a2 < (IntKind.wrap .i64 ((IntKind.wrap .i64 ((IntKind.wrap .i64 (ishr .u64 (IntKind.wrap .u64 (IntKind.wrap .i64 (a1 + a3))) (1 : Int))) + a2)) - x145.1))))) = true then ((rotM.f a0 x145.1 a2 (IntKind.wrap .i64 ((IntKind.wrap .i64 ((IntKind.wrap .i64 (ishr .u64 (IntKind.wrap .u64 (IntKind.wrap .i64 (a1 + a3))) (1 : Int))) + a2)) - x145.1)) a4).bind fun r178 => (some r178)) else (some a0)).bind fun y176 => ((if ((decide (a1 < x145.1)) && (decide (x145.1 < (IntKind.wrap .i64 (ishr .u64 (IntKind.wrap .u64 (IntKind.wrap .i64 (a1 + a3))) (1 : Int)))))) = true then ((R y176 a1 x145.1 (IntKind.wrap .i64 (ishr .u64 (IntKind.wrap .u64 (IntKind.wrap .i64 (a1 + a3))) (1 : Int))) a4).bind fun r187 => (some r187)) else (some y176)).bind fun y185 => (if ((decide ((IntKind.wrap .i64 (ishr .u64 (IntKind.wrap .u64 (IntKind.wrap .i64 (a1 + a3))) (1 : Int))) < (IntKind.wrap .i64 ((IntKind.wrap .i64 ((IntKind.wrap .i64 (ishr .u64 (IntKind.wrap .u64 (IntKind.wrap .i64 (a1 + a3))) (1 : Int))) + a2)) - x145.1)))) && (decide ((IntKind.wrap .i64 ((IntKind.wrap .i64 ((IntKind.wrap .i64 (ishr .u64 (IntKind.wrap .u64 (IntKind.wrap .i64 (a1 + a3))) (1 : Int))) + a2)) - x145.1)) < a3))) = true then ((R y185 (IntKind.wrap .i64 (ishr .u64 (IntKind.wrap .u64 (IntKind.wrap .i64 (a1 + a3))) (1 : Int))) (IntKind.wrap .i64 ((IntKind.wrap .i64 ((IntKind.wrap .i64 (ishr .u64 (IntKind.wrap .u64 (IntKind.wrap .i64 (a1 + a3))) (1 : Int))) + a2)) - x145.1)) a3 a4).bind fun r195 => (some r195)) else (some y185)))).bind fun o => some (Sum.inr o)))
noncomputable def symM.b3 (x73 : Int × Int) (x101 : (List α) × Int) : Option (((List α) × Int) ⊕ (List α)) :=
 (if (decide (x101.2 > x73.1)) = true then (if 0 ≤ (IntKind.wrap .i64 (x101.2 - (1 : Int))) ∧ (IntKind.wrap .i64 (x101.2 - (1 : Int))) < (x101.1.length : Int) then (if 0 ≤ x101.2 ∧ x101.2 < (x101.1.length : Int) then (if 0 ≤ x101.2 ∧ x101.2 < (x101.1.length : Int) then (if 0 ≤ (IntKind.wrap .i64 (x101.2 - (1 : Int))) ∧ (IntKind.wrap .i64 (x101.2 - (1 : Int))) < ((x101.1.set (x101.2).toNat (at_ x101.1 (IntKind.wrap .i64 (x101.2 - (1 : Int))))).length : Int) then ((some ((x101.1.set (x101.2).toNat (at_ x101.1 (IntKind.wrap .i64 (x101.2 - (1 : Int))))).set ((IntKind.wrap .i64 (x101.2 - (1 : Int)))).toNat (at_ x101.1 x101.2))).bind fun y140 => (some (Sum.inl (y140, (IntKind.wrap .i64 (x101.2 - (1 : Int))))))) else none) else none) else none) else none) else ((some x101.1).bind fun o => some (Sum.inr o)))
noncomputable def symM.b2 (a0 : (List α)) (a2 : Int) (a4 : (α → α → Option Int)) (x73 : Int × Int) : Option ((Int × Int) ⊕ (List α)) :=
 (if (decide (x73.1 < x73.2)) = true then (if 0 ≤ a2 ∧ a2 < (a0.length : Int) then (if 0 ≤ (IntKind.wrap .i64 (ishr .u64 (IntKind.wrap .u64 (IntKind.wrap .i64 (x73.1 + x73.2))) (1 : Int))) ∧ (IntKind.wrap .i64 (ishr .u64 (IntKind.wrap .u64 (IntKind.wrap .i64 (x73.1 + x73.2))) (1 : Int))) < (a0.length : Int) then ((a4 (at_ a0 a2) (at_ a0 (IntKind.wrap .i64 (ishr .u64 (IntKind.wrap .u64 (IntKind.wrap .i64 (x73.1 + x73.2))) (1 : Int))))).bind fun r92 => ((if (!(decide (r92 < (0 : Int)))) = true then (some ((IntKind.wrap .i64 ((IntKind.wrap .i64 (ishr .u64 (IntKind.wrap .u64 (IntKind.wrap .i64 (x73.1 + x73.2))) (1 : Int))) + (1 : Int))), x73.2)) else (some (x73.1, (IntKind.wrap .i64 (ishr .u64 (IntKind.wrap .u64 (IntKind.wrap .i64 (x73.1 + x73.2))) (1 : Int)))))).bind fun y94 => (some (Sum.inl (y94.1, y94.2))))) else none) else none) else ((iter (symM.b3 x73) (a0, a2)).bind fun o => some (Sum.inr o)))
noncomputable def symM.b1 (x3 : Int × Int) (x31 : (List α) × Int) : Option (((List α) × Int) ⊕ (List α)) :=
 (if (decide (x31.2 < (IntKind.wrap .i64 (x3.1 - (1 : Int))))) = true then (if 0 ≤ (IntKind.wrap .i64 (x31.2 + (1 : Int))) ∧ (IntKind.wrap .i64 (x31.2 + (1 : Int))) < (x31.1.length : Int) then (if 0 ≤ x31.2 ∧ x31.2 < (x31.1.length : Int) then (if 0 ≤ x31.2 ∧ x31.2 < (x31.1.length : Int) then (if 0 ≤ (IntKind.wrap .i64 (x31.2 + (1 : Int))) ∧ (IntKind.wrap .i64 (x31.2 + (1 : Int))) < ((x31.1.set (x31.2).toNat (at_ x31.1 (IntKind.wrap .i64 (x31.2 + (1 : Int))))).length : Int) then ((some ((x31.1.set (x31.2).toNat (at_ x31.1 (IntKind.wrap .i64 (x31.2 + (1 : Int))))).set ((IntKind.wrap .i64 (x31.2 + (1 : Int)))).toNat (at_ x31.1 x31.2))).bind fun y70 => (some (Sum.inl (y70, (IntKind.wrap .i64 (x31.2 + (1 : Int))))))) else none) else none) else none) else none) else ((some x31.1).bind fun o => some (Sum.inr o)))
noncomputable def symM.b0 (a0 : (List α)) (a1 : Int) (a4 : (α → α → Option Int)) (x3 : Int × Int) : Option ((Int × Int) ⊕ (List α)) :=
 (if (decide (x3.1 < x3.2)) = true then (if 0 ≤ (IntKind.wrap .i64 (ishr .u64 (IntKind.wrap .u64 (IntKind.wrap .i64 (x3.1 + x3.2))) (1 : Int))) ∧ (IntKind.wrap .i64 (ishr .u64 (IntKind.wrap .u64 (IntKind.wrap .i64 (x3.1 + x3.2))) (1 : Int))) < (a0.length : Int) then (if 0 ≤ a1 ∧ a1 < (a0.length : Int) then ((a4 (at_ a0 (IntKind.wrap .i64 (ishr .u64 (IntKind.wrap .u64 (IntKind.wrap .i64 (x3.1 + x3.2))) (1 : Int)))) (at_ a0 a1)).bind fun r22 => ((if (decide (r22 < (0 : Int))) = true then (some ((IntKind.wrap .i64 ((IntKind.wrap .i64 (ishr .u64 (IntKind.wrap .u64 (IntKind.wrap .i64 (x3.1 + x3.2))) (1 : Int))) + (1 : Int))), x3.2)) else (some (x3.1, (IntKind.wrap .i64 (ishr .u64 (IntKind.wrap .u64 (IntKind.wrap .i64 (x3.1 + x3.2))) (1 : Int)))))).bind fun y24 => (some (Sum.inl (y24.1, y24.2))))) else none) else none) else ((iter (symM.b1 x3) (a0, a1)).bind fun o => some (Sum.inr o)))
noncomputable def symM.h (R : ((List α) → Int → Int → Int → (α → α → Option Int) → Option ((List α)))) (a0 : (List α)) (a1 : Int) (a2 : Int) (a3 : Int) (a4 : (α → α → Option Int)) : Option ((List α)) :=
 (if ((IntKind.wrap .i64 (a2 - a1)) == (1 : Int)) = true then (iter (symM.b0 a0 a1 a4) (a2, a3)) else (if ((IntKind.wrap .i64 (a3 - a2)) == (1 : Int)) = true then (iter (symM.b2 a0 a2 a4) (a1, a2)) else ((if (decide (a2 > (IntKind.wrap .i64 (ishr .u64 (IntKind.wrap .u64 (IntKind.wrap .i64 (a1 + a3))) (1 : Int))))) = true then (some ((IntKind.wrap .i64 ((IntKind.wrap .i64 ((IntKind.wrap .i64 (ishr .u64 (IntKind.wrap .u64 (IntKind.wrap .i64 (a1 + a3))) (1 : Int))) + a2)) - a3)), (IntKind.wrap .i64 (ishr .u64 (IntKind.wrap .u64 (IntKind.wrap .i64 (a1 + a3))) (1 : Int))))) else (some (a1, a2))).bind fun y142 => (iter (symM.b4 a0 a1 a2 a3 a4 R) (y142.1, y142.2)))))
noncomputable def symM.g : Nat → ((List α) → Int → Int → Int → (α → α → Option Int) → Option ((List α)))
 | 0 => fun _ _ _ _ _ => none
 | n + 1 => symM.h (symM.g n)
noncomputable def symM.f (a0 : (List α)) (a1 : Int) (a2 : Int) (a3 : Int) (a4 : (α → α → Option Int)) : Option ((List α)) := symM.g 1000 a0 a1 a2 a3 a4
noncomputable def stbM.b2 (a1 : Int) (a2 : (α → α → Option Int)) (x13 : (List α) × Int) (x18 : (List α) × Int × Int) : Option (((List α) × Int × Int) ⊕ ((List α) × Int ⊕ (List α))) :=
 (if (decide (x18.2.2 ≤ a1)) = true then ((symM.f x18.1 x18.2.1 (IntKind.wrap .i64 (x18.2.1 + x13.2)) x18.2.2 a2).bind fun r22 => (some (Sum.inl (r22, x18.2.2, (IntKind.wrap .i64 (x18.2.2 + (IntKind.wrap .i64 ((2 : Int) * x13.2)))))))) else (((if (decide ((IntKind.wrap .i64 (x18.2.1 + x13.2)) < a1)) = true then ((symM.f x18.1 x18.2.1 (IntKind.wrap .i64 (x18.2.1 + x13.2)) a1 a2).bind fun r28 => (some r28)) else (some x18.1)).bind fun y26 => (some (Sum.inl (y26, (IntKind.wrap .i64 (x13.2 * (2 : Int))))))).bind fun o => some (Sum.inr o)))
noncomputable def stbM.b1 (a1 : Int) (a2 : (α → α → Option Int)) (x13 : (List α) × Int) : Option (((List α) × Int) ⊕ (List α)) :=
 (if (decide (x13.2 < a1)) = true then (iter (stbM.b2 a1 a2 x13) (x13.1, (0 : Int), (IntKind.wrap .i64 ((2 : Int) * x13.2)))) else ((some x13.1).bind fun o => some (Sum.inr o)))
noncomputable def stbM.b0 (a1 : Int) (a2 : (α → α → Option Int)) (x2 : (List α) × Int × Int) : Option (((List α) × Int × Int) ⊕ (List α)) :=
 (if (decide (x2.2.2 ≤ a1)) = true then ((insM.f x2.1 x2.2.1 x2.2.2 a2).bind fun r6 => (some (Sum.inl (r6, x2.2.2, (IntKind.wrap .i64 (x2.2.2 + (20 : Int))))))) else (((insM.f x2.1 x2.2.1 a1 a2).bind fun r10 => (iter (stbM.b1 a1 a2) (r10, (20 : Int)))).bind fun o => some (Sum.inr o)))
noncomputable def stbM.f (a0 : (List α)) (a1 : Int) (a2 : (α → α → Option Int)) : Option ((List α)) :=
 (iter (stbM.b0 a1 a2) (a0, (0 : Int), (20 : Int)))
end
end Go.Proofs.YtlpbggnpiogioaaGreat.V
set_option linter.unusedVariables false
set_option linter.unusedSimpArgs false
set_option linter.unusedSectionVars false
namespace Go.Proofs.YtlpbggnpiogioaaGreat.V
open Go
section
variable {α : Type} [Inhabited α]
structure Cr (c : α → α → Option Int) (lt : α → α → Bool) (S : α → Prop) : Prop where
 cmp : ∀ x y, S x → S y → ∃ n : Int, c x y = some n ∧ decide (n < 0) = lt x y
 asym : ∀ x y, S x → S y → lt x y = true → lt y x = false
 neg : ∀ x y z, S x → S y → S z → lt x y = false → lt y z = false → lt x z = false
def TL (lt : α → α → Bool) (ix : α → Nat) (x y : α) : Prop := lt x y = true ∨ (lt y x = false ∧ ix x < ix y)
variable {c : α → α → Option Int} {lt : α → α → Bool} {ix : α → Nat} {S : α → Prop}
theorem TL.trans (h : Cr c lt S) {x y z : α} (hx : S x) (hy : S y) (hz : S z) (h1 : TL lt ix x y) (h2 : TL lt ix y z) : TL lt ix x z := by
 have tf : ∀ {b : Bool}, ¬ b = true → b = false := fun {b} h => by cases b <;> simp_all
 by_cases hxz : lt x z = true
 · exact .inl hxz
 · have hxz := tf hxz
   rcases h1 with h1 | ⟨h1, i1⟩ <;> rcases h2 with h2 | ⟨h2, i2⟩
   · have := h.neg x z y hx hz hy hxz (h.asym y z hy hz h2); rw [h1] at this; cases this
   · have := h.neg x z y hx hz hy hxz h2; rw [h1] at this; cases this
   · have := h.neg y x z hy hx hz h1 hxz; rw [h2] at this; cases this
   · exact .inr ⟨h.neg z y x hz hy hx h2 h1, by omega⟩
end
end Go.Proofs.YtlpbggnpiogioaaGreat.V
set_option linter.unusedVariables false
set_option linter.unusedSimpArgs false
set_option linter.unusedSectionVars false
namespace Go.Proofs.YtlpbggnpiogioaaGreat.V
open Go
section
variable {α : Type} [Inhabited α]
variable {c : α → α → Option Int} {lt : α → α → Bool} {ix : α → Nat} {S : α → Prop}
end
end Go.Proofs.YtlpbggnpiogioaaGreat.V
set_option linter.unusedVariables false
set_option linter.unusedSimpArgs false
set_option linter.unusedSectionVars false
namespace Go.Proofs.YtlpbggnpiogioaaGreat.V
open Go
section
variable {α : Type} [Inhabited α]
variable {c : α → α → Option Int} {lt : α → α → Bool} {ix : α → Nat} {S : α → Prop}
end
end Go.Proofs.YtlpbggnpiogioaaGreat.V
set_option linter.unusedVariables false
set_option linter.unusedSimpArgs false
set_option linter.unusedSectionVars false
namespace Go.Proofs.YtlpbggnpiogioaaGreat.V
open Go
section
variable {α : Type} [Inhabited α]
variable {c : α → α → Option Int} {lt : α → α → Bool} {ix : α → Nat} {S : α → Prop}
structure GB (lt : α → α → Bool) (ix : α → Nat) (S : α → Prop) (Bs : List (List α)) : Prop where
 srt : ∀ B ∈ Bs, B.Pairwise (TL lt ix)
 mem : ∀ B ∈ Bs, ∀ x ∈ B, S x
 ord : Bs.Pairwise (fun B C => ∀ x ∈ B, ∀ y ∈ C, ix x < ix y)
end
end Go.Proofs.YtlpbggnpiogioaaGreat.V
set_option linter.unusedVariables false
set_option linter.unusedSimpArgs false
set_option linter.unusedSectionVars false
namespace Go.Proofs.YtlpbggnpiogioaaGreat.V
open Go
section
variable {α : Type} [Inhabited α] {c : α → α → Option Int} {lt : α → α → Bool} {ix : α → Nat} {S : α → Prop}
end
end Go.Proofs.YtlpbggnpiogioaaGreat.V
set_option linter.unusedVariables false
set_option linter.unusedSimpArgs false
namespace Go.Proofs.YtlpbggnpiogioaaGreat.V
open Go
def ErF {α : Type} (K : Kd α) (s : St) (v : Value) (xs : List α) (C : List Nat) : Prop :=
 ∃ A cap cells, v = .slice A xs.length cap ∧ xs.length ≤ cap ∧ ElsR K s.w (fun b => memb C (s.g b) = true) xs cells ∧ (cells ≠ [] → ∃ ad, A = some ad ∧ ∀ j u, cells[j]? = some u → s.w.cell? (ad.add j) = some u)
theorem RwF.er {α : Type} {K : Kd α} {te : TypeId} {s : St} {v : Value} {xs : List α} {c : Nat} {C : List Nat} (h : RwF te K s v xs c C) : ErF K s v xs C := by
 obtain ⟨cells, os, hR, hcol, hE⟩ := h
 obtain ⟨A, cap, rfl, hc, hcell⟩ := hR.cells
 refine ⟨A, cap, cells, rfl, hc, hE, fun hne => ?_⟩
 obtain ⟨g, e1, _, h⟩ := hcell hne
 exact ⟨_, e1, h⟩
theorem RdF.er {α : Type} {K : Kd α} {te : TypeId} {s : St} {v : Value} {xs : List α} {C : List Nat} (h : RdF (Kd.sl te K) s [v] xs C) : ErF K s v xs C := by
 obtain ⟨v1, e1, A, cap, cells, hv, hc, hE, hcell⟩ := h
 obtain rfl : v = v1 := by simpa using e1
 refine ⟨A, cap, cells, hv, hc, hE, fun hne => ?_⟩
 obtain ⟨ad, e1, _, h⟩ := hcell hne
 exact ⟨ad, e1, h⟩
theorem ErF.cut {α : Type} {K : Kd α} {s : St} {A : Option Addr} {cap : Nat} {xs : List α} {C : List Nat} (h : ErF K s (.slice A xs.length cap) xs C) {a b : Nat} (hab : a ≤ b) (hb : b ≤ xs.length) :
    ErF K s (.slice (if cap = a then A else A.map (·.add (a * K.n))) (b - a) (cap - a)) ((xs.take b).drop a) C := by
  obtain ⟨A', cap', cells, e, hcap, hels, hc⟩ := h
  simp only [Value.slice.injEq, true_and] at e
  obtain ⟨rfl, rfl⟩ := e
  have hl : ((xs.take b).drop a).length = b - a := by simp; omega
  refine ⟨_, cap - a, (cells.take (b * K.n)).drop (a * K.n), by rw [hl], by rw [hl]; omega, (hels.take b).drop a, fun hne => ?_⟩
  have hcl := hels.len
  have hne' : cells ≠ [] := fun h => hne (by simp [h])
  obtain ⟨ad, rfl, hcell⟩ := hc hne'
  have hlt : a < cap := by
    rcases Nat.lt_or_ge a b with h | h
    · omega
    · exfalso; apply hne
      have : a = b := by omega
      subst this
      simp
  rw [if_neg (by omega)]
  refine ⟨ad.add (a * K.n), rfl, fun j u hj => ?_⟩
  rw [Addr.add_add']
  rw [List.getElem?_drop, List.getElem?_take] at hj
  split at hj
  · exact hcell _ _ hj
  · cases hj
section
variable {P : Program} {f : Who} {N : Nat} {O ρ : Type} {m : Option O} {G : O → Option ρ} {R : ρ → Ending → World → Prop} {e : Env} {s : St} {k : List Item} {ops : Array Oper} {i d : Nat} {rest : List Nat} {o : Oper}
theorem apRE {α : Type} {K : Kd α} {t te : TypeId} {x y : Operand} {v u : Value} {xs ys : List α} {c : Nat} {C D : List Nat} (hT : SlT P t te K.n) (hD : RwF te K s v xs c C) (hS : ErF K s u ys D) (hc : memb (C ++ D) c = false)
    (ho : ops[i]? = some o) (hd : o.dst = some d) (hN : Nat.blt d N = true) (hw : Region.wanted o (yv e ops) = true) (hop : o.op = .call { callee := .builtin .append, args := #[x, y], argTypes := #[t, t] }) (hx : ev e x = v) (hy : ev e y = u)
    (h : ∀ v' s', Stp [c] s s' → RwF te K s' v' (xs ++ ys) c (C ++ D) → TM P f N m G R (.inRegion ops rest :: k) (upd e d v') s'.w) :
    TM P f N (if xs.length + ys.length ≤ Lim then m else none) G R (.inRegion ops (i :: rest) :: k) e s.w := by
  refine mg fun hl => ?_
  obtain ⟨cells, os, hR, hcol, hE⟩ := hD
  obtain ⟨A, cap, cells', hu, hcap, hE', hcl⟩ := hS
  have hSv : SlV s.w u ys.length K.n cells' := by
    refine ⟨A, cap, hu, hE'.len, hE'.one, fun hne => ?_⟩
    obtain ⟨ad, e1, h2⟩ := hcl hne
    exact ⟨ad, e1, h2⟩
  obtain ⟨v', w', hr, hR', hg, hb⟩ := append_core (P := P) (ty := o.type) hT hR hSv hl
  refine vl (v := v') (w' := w') ho hd hN hw (by simp [execOp, hop, resolve, invoke, builtin, hx, hy, hr, Result.andThen]) ?_
  have hp : ∃ s' : St, s'.w = w' ∧ Stp [c] s s' ∧ (∀ b, b < s.w.heap.size → s'.g b = s.g b) ∧ (∀ b, s.w.heap.size ≤ b → s'.g b = c) := by
    refine ⟨⟨w', fun b => if b < s.w.heap.size then s.g b else c⟩, rfl, ⟨hg.os, hg.tape, hg.output, hg.size, fun b hb _ => by simp [hb], fun b hb hm => ⟨by simp [hb], hg.block b hb fun h => ?_⟩⟩, fun b hb => by simp [hb], fun b hb => ?_⟩
    · have := hcol b (blk_own hR h.symm)
      rw [this] at hm; simp [memb] at hm
    · have : ¬ b < s.w.heap.size := by omega
      simp [this]
  obtain ⟨s', rfl, p, hold, hnew⟩ := hp
  have hsub : ∀ n, memb C n = true → memb (C ++ D) n = true := fun n hn => memb_iff.2 (List.mem_append_left _ (memb_iff.1 hn))
  have hsub' : ∀ n, memb D n = true → memb (C ++ D) n = true := fun n hn => memb_iff.2 (List.mem_append_right _ (memb_iff.1 hn))
  refine h v' s' p ⟨cells ++ cells', Value.blk v', by rw [List.length_append]; exact hR', fun b hb' => ?_, ?_⟩
  · rcases hb b hb' with h1 | h1
    · rw [hold b (hR.lt b h1)]; exact hcol b h1
    · exact hnew b h1
  · have h1 : ElsR K s.w (fun b => b < s.w.heap.size ∧ memb (C ++ D) (s.g b) = true) (xs ++ ys) (cells ++ cells') := (hE.mono fun b hb hl => ⟨hl, hsub _ hb⟩).append (hE'.mono fun b hb hl => ⟨hl, hsub' _ hb⟩)
    refine (h1.frame fun b hb hl => (p.same b hl ?_).2).mono fun b hb _ => by rw [hold b hb.1]; exact hb.2
    cases hm : memb [c] (s.g b) with
    | false => rfl
    | true =>
      have := memb_iff.1 hm
      simp at this
      rw [this] at hb
      rw [hb.2] at hc; cases hc
end
end Go.Proofs.YtlpbggnpiogioaaGreat.V
set_option linter.unusedVariables false
set_option linter.unusedSimpArgs false
namespace Go.Proofs.YtlpbggnpiogioaaGreat.V
open Go
def SxF {α : Type} (te : TypeId) (K : Kd α) (s : St) (v : Value) (xs : List α) (n : Nat) (c : Nat) : Prop :=
 ∃ cells o1 o2, RowAt s.w te K.n v xs.length cells o1 ∧ ElsO K s.w (xs.drop n) (cells.drop (n * K.n)) o2 ∧ (o1 ++ o2).Nodup ∧ ∀ b ∈ o1 ++ o2, s.g b = c
theorem SxF.st {α : Type} {te : TypeId} {K : Kd α} {s s' : St} {v : Value} {xs : List α} {n c : Nat} {S : List Nat} (h : SxF te K s v xs n c) (p : Stp S s s') (d : memb S c = false) : SxF te K s' v xs n c := by
 obtain ⟨cells, o1, o2, hR, hE, hn, hc⟩ := h
 have hs : ∀ b ∈ o1 ++ o2, b < s.w.heap.size → s'.g b = s.g b ∧ s'.w.heap[b]? = s.w.heap[b]? := fun b hb hl => p.same b hl (by rw [hc b hb]; exact d)
 have hlt : ∀ b ∈ o1 ++ o2, b < s.w.heap.size := fun b hb => by
  rcases List.mem_append.1 hb with hb | hb
  · exact hR.lt b hb
  · exact hE.lt b hb
 refine ⟨cells, o1, o2, hR.frame fun b hb hl => (hs b (List.mem_append_left _ hb) hl).2, hE.frame fun b hb hl => (hs b (List.mem_append_right _ hb) hl).2, hn, fun b hb => ?_⟩
 rw [(hs b hb (hlt b hb)).1]; exact hc b hb
section
variable {P : Program} {f : Who} {N : Nat} {O ρ : Type} {m : Option O} {G : O → Option ρ} {R : ρ → Ending → World → Prop} {e : Env} {s : St} {k : List Item} {ops : Array Oper} {i d : Nat} {rest : List Nat} {o : Oper}
end
end Go.Proofs.YtlpbggnpiogioaaGreat.V
set_option linter.unusedVariables false
set_option linter.unusedSimpArgs false
namespace Go.Proofs.YtlpbggnpiogioaaGreat.V
open Go
theorem ElsO.split3 {α : Type} {K : Kd α} {w : World} {xs : List α} {cs : List Value} {os : List Nat} (h : ElsO K w xs cs os) (i : Nat) (hi : i < xs.length) :
    ∃ o1 o2 o3, os = o1 ++ (o2 ++ o3) ∧ ElsO K w (xs.take i) (cs.take (i * K.n)) o1 ∧ K.ow w ((cs.drop (i * K.n)).take K.n) xs[i] o2 ∧ ElsO K w (xs.drop (i + 1)) (cs.drop ((i + 1) * K.n)) o3 := by
  obtain ⟨o1, o2, rfl, h1, h2⟩ := h.take i
  rw [List.drop_eq_getElem_cons hi] at h2
  obtain ⟨c1, c2, q1, q2, hc, rfl, h3, h4⟩ := h2
  have hl := K.rd_len (K.ow_rd h3)
  refine ⟨o1, q1, q2, rfl, h1, ?_, ?_⟩
  · rw [hc, ← hl, List.take_left]; exact h3
  · have e : cs.drop ((i + 1) * K.n) = c2 := by rw [Nat.add_mul, Nat.one_mul, ← List.drop_drop, hc, ← hl, List.drop_left]
    rw [e]; exact h4
theorem ElsO.join3 {α : Type} {K : Kd α} {w : World} {xs : List α} {c1 c2 c3 : List Value} {o1 o2 o3 : List Nat} {i : Nat} {y : α} (hi : i < xs.length) (h1 : ElsO K w (xs.take i) c1 o1) (h2 : K.ow w c2 y o2) (h3 : ElsO K w (xs.drop (i + 1)) c3 o3) :
    ElsO K w (xs.set i y) (c1 ++ (c2 ++ c3)) (o1 ++ (o2 ++ o3)) := by
  rw [List.set_eq_take_append_cons_drop, if_pos hi]
  exact h1.append ⟨c2, c3, o2, o3, rfl, rfl, h2, h3⟩
def HoG {α : Type} (te : TypeId) (K : Kd α) (s : St) (v : Value) (xs : List α) (ii : Int) (c c2 : Nat) : Prop :=
 ∃ g cap cur p1 p3, v = .slice (some ⟨g, 0, none⟩) xs.length cap ∧ Hr s.w g cur te ∧ xs.length ≤ cap ∧ cap ≤ maxLen ∧ cur.size = cap * K.n ∧ s.g g = c ∧ ii.toNat < xs.length ∧ (p1 ++ p3).Nodup ∧ (∀ b ∈ p1 ++ p3, s.g b = c2) ∧
  ElsO K s.w (xs.take ii.toNat) (cur.toList.take (ii.toNat * K.n)) p1 ∧ ElsO K s.w (xs.drop (ii.toNat + 1)) ((cur.toList.take (xs.length * K.n)).drop ((ii.toNat + 1) * K.n)) p3
def HoR {α β : Type} (te : TypeId) (K : Kd α) (A : Kd β) (s : St) (v u : Value) (xs : List α) (y : β) (c : Nat) (C : List Nat) : Prop :=
 ∃ cells os, RowAt s.w te K.n v xs.length cells os ∧ (∀ b ∈ os, s.g b = c) ∧ ∀ w' o2, A.ow w' [u] y o2 → Agr s.w w' (fun b => memb C (s.g b) = true) → ElsR K w' (fun b => (b < s.w.heap.size ∧ memb C (s.g b) = true) ∨ b ∈ o2) xs cells
theorem HoG.st {α : Type} {te : TypeId} {K : Kd α} {s s' : St} {v : Value} {xs : List α} {ii : Int} {c c2 : Nat} {S : List Nat} (h : HoG te K s v xs ii c c2) (p : Stp S s s') (d : dj [c, c2] S = true) : HoG te K s' v xs ii c c2 := by
 obtain ⟨g, cap, cur, p1, p3, e1, e2, e3, e4, e5, e6, e7, e8, e9, e10, e11⟩ := h
 have d1 : memb S c = false := dj_out d (by simp [memb])
 have d2 : memb S c2 = false := dj_out d (by simp [memb])
 have hg := p.same g e2.lt (by rw [e6]; exact d1)
 have hs : ∀ b ∈ p1 ++ p3, b < s.w.heap.size → s'.g b = s.g b ∧ s'.w.heap[b]? = s.w.heap[b]? := fun b hb hl => p.same b hl (by rw [e9 b hb]; exact d2)
 have hlt : ∀ b ∈ p1 ++ p3, b < s.w.heap.size := fun b hb => by
  rcases List.mem_append.1 hb with hb | hb
  · exact e10.lt b hb
  · exact e11.lt b hb
 exact ⟨g, cap, cur, p1, p3, e1, e2.eq hg.2, e3, e4, e5, by rw [hg.1]; exact e6, e7, e8, fun b hb => by rw [(hs b hb (hlt b hb)).1]; exact e9 b hb, e10.frame fun b hb hl => (hs b (List.mem_append_left _ hb) hl).2, e11.frame fun b hb hl => (hs b (List.mem_append_right _ hb) hl).2⟩
theorem HoR.st {α β : Type} {te : TypeId} {K : Kd α} {A : Kd β} {s s' : St} {v u : Value} {xs : List α} {y : β} {c : Nat} {C S : List Nat} (h : HoR te K A s v u xs y c C) (p : Stp S s s') (d : memb S c = false) (d2 : dj C S = true) : HoR te K A s' v u xs y c C := by
 obtain ⟨cells, os, hR, hc, hE⟩ := h
 have hs : ∀ b, b < s.w.heap.size → memb C (s.g b) = true → s'.g b = s.g b ∧ s'.w.heap[b]? = s.w.heap[b]? := fun b hl hb => p.same b hl (dj_out d2 hb)
 refine ⟨cells, os, hR.frame fun b hb hl => (p.same b hl (by rw [hc b hb]; exact d)).2, fun b hb => ?_, fun w' o2 hy ha => ?_⟩
 · rw [(p.same b (hR.lt b hb) (by rw [hc b hb]; exact d)).1]; exact hc b hb
 · refine (hE w' o2 hy fun b hb hl => ?_).mono fun b hb _ => ?_
   · rw [ha b (by show memb C (s'.g b) = true; rw [(hs b hl hb).1]; exact hb) (Nat.lt_of_lt_of_le hl p.size), (hs b hl hb).2]
   · rcases hb with hb | hb
     · exact .inl ⟨Nat.lt_of_lt_of_le hb.1 p.size, by rw [(hs b hb.1 hb.2).1]; exact hb.2⟩
     · exact .inr hb
theorem HoR.rw {α β : Type} {te : TypeId} {K : Kd α} {A : Kd β} {s : St} {v u : Value} {xs : List α} {y : β} {c a : Nat} {C : List Nat} (h : HoR te K A s v u xs y c C) (hy : OwF A s [u] y a) : RwF te K s v xs c (C ++ [a]) := by
 obtain ⟨cells, os, hR, hc, hE⟩ := h
 obtain ⟨o2, ho, _, hc2⟩ := hy
 refine ⟨cells, os, hR, hc, (hE s.w o2 ho fun _ _ _ => rfl).mono fun b hb _ => ?_⟩
 rcases hb with hb | hb
 · exact memb_iff.2 (List.mem_append_left _ (memb_iff.1 hb.2))
 · rw [hc2 b hb]; exact memb_iff.2 (by simp)
section
variable {P : Program} {f : Who} {N : Nat} {O ρ : Type} {m : Option O} {G : O → Option ρ} {R : ρ → Ending → World → Prop} {e : Env} {s : St} {k : List Item} {ops : Array Oper} {i d : Nat} {rest : List Nat} {o : Oper}
theorem spl_get (l vs : List Value) (a n : Nat) (hv : vs.length = n) (h : a + n ≤ l.length) (m : Nat) : (l.take a ++ vs ++ l.drop (a + vs.length))[m]? = if m < a then l[m]? else if m < a + n then vs[m - a]? else l[m]? := by
 subst hv
 have h1 : (l.take a).length = a := by rw [List.length_take]; omega
 rcases Nat.lt_or_ge m a with h2 | h2
 · rw [if_pos h2, List.append_assoc, List.getElem?_append_left (by omega), List.getElem?_take, if_pos h2]
 · rw [if_neg (by omega)]
   rcases Nat.lt_or_ge m (a + vs.length) with h3 | h3
   · rw [if_pos h3, List.append_assoc, List.getElem?_append_right (by omega), h1, List.getElem?_append_left (by omega)]
   · rw [if_neg (by omega), List.getElem?_append_right (by rw [List.length_append]; omega), List.length_append, h1, List.getElem?_drop]; congr 1; omega
theorem stG {te : TypeId} {vs : List Value} {g n a : Nat} {cur : Array Value} {t : TypeId} {x y : Operand} (hg : Hr s.w g cur te) (hv1 : ∀ u ∈ vs, u.oneCell' = true) (hvl : vs.length = n) (hb : a + n ≤ cur.size) (hs : (P.info? t).map (·.size) = some n)
    (ho : ops[i]? = some o) (hd : o.dst = none) (hw : Region.wanted o (yv e ops) = true) (hop : o.op = .store t x y) (hx : ev e x = .pointer (some ⟨g, a, none⟩)) (hy : (ev e y).cells = vs.toArray)
    (h : ∀ w', w' = s.w.setRow g (cur.toList.take a ++ vs ++ cur.toList.drop (a + vs.length)).toArray → Hr w' g (cur.toList.take a ++ vs ++ cur.toList.drop (a + vs.length)).toArray te → (∀ b, b ≠ g → w'.heap[b]? = s.w.heap[b]?) → TM P f N m G R (.inRegion ops rest :: k) e w') : TM P f N m G R (.inRegion ops (i :: rest) :: k) e s.w := by
  have hst := storeCells_hr P g a te vs 0 cur s.w hg (by rw [hvl]; omega) hv1
  simp only [Nat.add_zero] at hst
  have hrun : (Instr.storeAt t (.pointer (some ⟨g, a, none⟩)) (ev e y)).run P s.w = .ok () (s.w.setRow g (cur.toList.take a ++ vs ++ cur.toList.drop (a + vs.length)).toArray) := by
    unfold Instr.storeAt
    rw [Sem.run_bind']
    simp only [Instr.sureAddr, Sem.run_pure, Result.andThen]
    unfold storeVar
    rw [Sem.run_bind', size_run hs]
    simp only [Result.andThen, hy]
    simp [hvl]
    simp [hvl] at hst
    exact hst
  exact vd (w' := s.w.setRow g (cur.toList.take a ++ vs ++ cur.toList.drop (a + vs.length)).toArray) ho hd hw (by simp [execOp, hop, hx, hrun, Result.andThen]) (h _ rfl (hg.row3 _ _ (by rw [hvl]; omega)) (fun b hb => setRow_other s.w g b _ hb))
end
end Go.Proofs.YtlpbggnpiogioaaGreat.V
set_option linter.unusedVariables false
set_option linter.unusedSimpArgs false
namespace Go.Proofs.YtlpbggnpiogioaaGreat.V
open Go
def lkp : List (Nat × Nat) → Nat → Nat
 | [], _ => 1
 | p :: M, c => if Nat.beq p.1 c = true then p.2 else lkp M c
def lkr (cn : Nat) : List (Nat × Nat) → Nat → Nat
 | [], _ => cn
 | p :: M, k => if Nat.beq p.2 k = true then p.1 else lkr cn M k
def phi (D : List Nat) (M : List (Nat × Nat)) (c : Nat) : Nat := if memb D c = true then 0 else lkp M c
def vw (D : List Nat) (M : List (Nat × Nat)) (s : St) : St := ⟨s.w, fun b => phi D M (s.g b)⟩
noncomputable def bk (M : List (Nat × Nat)) (cn : Nat) (s s' : St) : St := ⟨s'.w, fun b => if b < s.w.heap.size then s.g b else lkr cn M (s'.g b)⟩
def okM (D : List Nat) : List (Nat × Nat) → Bool
 | [] => true
 | p :: M => Nat.ble 2 p.2 && Nat.ble p.2 39 && Nat.ble 2 p.1 && !memb D p.1 && !memb (M.map (·.1)) p.1 && !memb (M.map (·.2)) p.2 && okM D M
theorem lkp_lt {D : List Nat} {M : List (Nat × Nat)} (h : okM D M = true) (c : Nat) : 1 ≤ lkp M c ∧ lkp M c < 40 := by
 induction M with
 | nil => exact ⟨Nat.le_refl _, by unfold lkp; omega⟩
 | cons p M ih =>
  simp only [okM, Bool.and_eq_true] at h
  obtain ⟨⟨⟨⟨⟨⟨h1, h2⟩, _⟩, _⟩, _⟩, _⟩, h3⟩ := h
  have h1 := Nat.le_of_ble_eq_true h1
  have h2 := Nat.le_of_ble_eq_true h2
  unfold lkp
  split
  · omega
  · exact ih h3
theorem phi_lt {D : List Nat} {M : List (Nat × Nat)} (h : okM D M = true) (c : Nat) : phi D M c < 40 := by
 unfold phi
 split
 · omega
 · exact (lkp_lt h c).2
theorem phi_0 {D : List Nat} {M : List (Nat × Nat)} (h : okM D M = true) {c : Nat} (h0 : phi D M c = 0) : memb D c = true := by
 unfold phi at h0
 split at h0
 · assumption
 · have := (lkp_lt h c).1; omega
theorem lkp_mem {D : List Nat} {M : List (Nat × Nat)} (h : okM D M = true) {c k : Nat} (hm : (c, k) ∈ M) : lkp M c = k ∧ (∀ c', lkp M c' = k → c' = c) ∧ ∀ cn, lkr cn M k = c := by
 induction M with
 | nil => cases hm
 | cons p M ih =>
  simp only [okM, Bool.and_eq_true, Bool.not_eq_true'] at h
  obtain ⟨⟨⟨⟨⟨⟨h1, h2⟩, h4⟩, h5⟩, h6⟩, h7⟩, h3⟩ := h
  have k1 := Nat.le_of_ble_eq_true h1
  rcases List.mem_cons.1 hm with e | hm
  · subst e
    refine ⟨by unfold lkp; rw [if_pos (Nat.beq_refl c)], fun c' hc => ?_, fun cn => by unfold lkr; rw [if_pos (Nat.beq_refl k)]⟩
    unfold lkp at hc
    split at hc
    · rename_i e; exact (Nat.eq_of_beq_eq_true e).symm
    · exfalso
      have hk : ∀ (M : List (Nat × Nat)) (c' : Nat), lkp M c' = k → k = 1 ∨ k ∈ M.map (·.2) := by
       intro M
       induction M with
       | nil => intro c' h; exact .inl h.symm
       | cons q M ih2 =>
        intro c' h
        unfold lkp at h
        split at h
        · right; simp [h]
        · rcases ih2 c' h with h | h
          · exact .inl h
          · right; simp at h ⊢; exact .inr h
      rcases hk M c' hc with h | h
      · simp only at k1; omega
      · rw [memb_iff.2 h] at h7; cases h7
  · obtain ⟨i1, i2, i3⟩ := ih h3 hm
    have n1 : Nat.beq p.1 c ≠ true := fun e => by
     have e := Nat.eq_of_beq_eq_true e
     have : c ∈ M.map (·.1) := List.mem_map.2 ⟨_, hm, rfl⟩
     rw [← e] at this
     rw [memb_iff.2 this] at h6; cases h6
    have n2 : Nat.beq p.2 k ≠ true := fun e => by
     have e := Nat.eq_of_beq_eq_true e
     have : k ∈ M.map (·.2) := List.mem_map.2 ⟨_, hm, rfl⟩
     rw [← e] at this
     rw [memb_iff.2 this] at h7; cases h7
    refine ⟨by unfold lkp; rw [if_neg n1]; exact i1, fun c' hc => ?_, fun cn => by unfold lkr; rw [if_neg n2]; exact i3 cn⟩
    unfold lkp at hc
    split at hc
    · exact absurd (by rw [hc]; exact Nat.beq_refl k) n2
    · exact i2 c' hc
theorem okM_mem {D : List Nat} {M : List (Nat × Nat)} (h : okM D M = true) {c k : Nat} (hm : (c, k) ∈ M) : memb D c = false ∧ 2 ≤ c ∧ 2 ≤ k ∧ k < 40 := by
 induction M with
 | nil => cases hm
 | cons p M ih =>
  simp only [okM, Bool.and_eq_true, Bool.not_eq_true'] at h
  obtain ⟨⟨⟨⟨⟨⟨h1, h2⟩, h4⟩, h5⟩, h6⟩, h7⟩, h3⟩ := h
  rcases List.mem_cons.1 hm with e | hm
  · subst e
    have h1 := Nat.le_of_ble_eq_true h1
    have h2 := Nat.le_of_ble_eq_true h2
    have h4 := Nat.le_of_ble_eq_true h4
    exact ⟨h5, h4, h1, by simp only at h2; omega⟩
  · exact ih h3 hm
section
variable {D C : List Nat} {M : List (Nat × Nat)} {s s' : St} {c k cn : Nat} {α : Type} {K : Kd α} {te : TypeId}
theorem vw_lt (h : okM D M = true) : ∀ b, (vw D M s).g b < 40 := fun b => phi_lt h _
theorem vw_phi (h : okM D M = true) (hm : (c, k) ∈ M) : phi D M c = k := by
 unfold phi
 rw [if_neg (by rw [(okM_mem h hm).1]; decide)]
 exact (lkp_mem h hm).1
theorem vw_0 (hs : sub C D = true) {n : Nat} (hn : memb C n = true) : memb [0] (phi D M n) = true := by
 unfold phi
 rw [if_pos (sub_out hs hn)]; rfl
theorem OwF.vw {cs : List Value} {x : α} (hf : OwF K s cs x c) (h : okM D M = true) (hm : (c, k) ∈ M) : OwF K (vw D M s) cs x k := by
 obtain ⟨os, ho, hn, hc⟩ := hf
 exact ⟨os, ho, hn, fun b hb => by show phi D M (s.g b) = k; rw [hc b hb]; exact vw_phi h hm⟩
theorem RwF.vw {v : Value} {xs : List α} (hf : RwF te K s v xs c C) (h : okM D M = true) (hm : (c, k) ∈ M) (hs : V.sub C D = true) : RwF te K (vw D M s) v xs k [0] := by
 obtain ⟨cells, os, hR, hc, hE⟩ := hf
 exact ⟨cells, os, hR, fun b hb => by show phi D M (s.g b) = k; rw [hc b hb]; exact vw_phi h hm, hE.mono fun b hb _ => vw_0 hs hb⟩
theorem RdF.vw {cs : List Value} {x : α} (hf : RdF K s cs x C) (hs : V.sub C D = true) : RdF K (vw D M s) cs x [0] := K.rd_mono hf fun b hb _ => vw_0 hs hb
theorem BlF.vw {b : Nat} {t : TypeId} {cs : List Value} (hf : BlF s b t cs c) (h : okM D M = true) (hm : (c, k) ∈ M) : BlF (vw D M s) b t cs k := ⟨hf.1, by show phi D M (s.g b) = k; rw [hf.2]; exact vw_phi h hm⟩
theorem MpF.vw {b : Nat} {m : MD} (hf : MpF s b m c) (h : okM D M = true) (hm : (c, k) ∈ M) : MpF (vw D M s) b m k := by
 obtain ⟨es, clock, h1, h2, h3⟩ := hf
 exact ⟨es, clock, h1, by show phi D M (s.g b) = k; rw [h2]; exact vw_phi h hm, h3⟩
theorem bk_g (h : okM D M = true) (hm : (c, k) ∈ M) (p : Kp (vw D M s) s') {b : Nat} (hb : s'.g b = k) : (bk M cn s s').g b = c := by
 show (if b < s.w.heap.size then s.g b else lkr cn M (s'.g b)) = c
 split
 · rename_i hl
   have := p.col b hl (vw_lt h b)
   rw [hb] at this
   have h2 : phi D M (s.g b) = k := this.symm
   have h3 := (okM_mem h hm)
   unfold phi at h2
   split at h2
   · omega
   · exact (lkp_mem h hm).2.1 _ h2
 · rw [hb]; exact (lkp_mem h hm).2.2 cn
theorem lkr_big (h : okM D M = true) {n : Nat} (hn : n = 0 ∨ 40 ≤ n) : lkr cn M n = cn := by
 induction M with
 | nil => rfl
 | cons p M ih =>
  simp only [okM, Bool.and_eq_true, Bool.not_eq_true'] at h
  obtain ⟨⟨⟨⟨⟨⟨h1, h2⟩, h4⟩, h5⟩, h6⟩, h7⟩, h3⟩ := h
  have h1 := Nat.le_of_ble_eq_true h1
  have h2 := Nat.le_of_ble_eq_true h2
  unfold lkr
  rw [if_neg (fun e => by have := Nat.eq_of_beq_eq_true e; omega)]
  exact ih h3
theorem bk_r (h : okM D M = true) (p : Kp (vw D M s) s') {b : Nat} (hb : s'.g b = 0 ∨ 40 ≤ s'.g b) : memb (cn :: D) ((bk M cn s s').g b) = true := by
 show memb (cn :: D) (if b < s.w.heap.size then s.g b else lkr cn M (s'.g b)) = true
 split
 · rename_i hl
   have h1 := p.col b hl (vw_lt h b)
   have h2 := vw_lt (s := s) h b
   have h3 : phi D M (s.g b) = 0 := by
    have : s'.g b = phi D M (s.g b) := h1
    have : phi D M (s.g b) < 40 := h2
    omega
   simp only [memb, phi_0 h h3, Bool.or_true]
 · rw [lkr_big h hb]; simp [memb]
theorem RdF.bk {cs : List Value} {x : α} (hf : RdF K s' cs x C) (h : okM D M = true) (hC : okC C = true) (p : Kp (V.vw D M s) s') : RdF K (V.bk M cn s s') cs x (cn :: D) :=
 K.rd_mono hf fun b hb _ => bk_r h p (okC_out hC hb)
theorem RwF.bk {v : Value} {xs : List α} (hf : RwF te K s' v xs k C) (h : okM D M = true) (hm : (c, k) ∈ M) (hC : okC C = true) (p : Kp (V.vw D M s) s') : RwF te K (V.bk M cn s s') v xs c (cn :: D) := by
 obtain ⟨cells, os, hR, hc, hE⟩ := hf
 exact ⟨cells, os, hR, fun b hb => bk_g h hm p (hc b hb), hE.mono fun b hb _ => bk_r h p (okC_out hC hb)⟩
theorem bk_st (h : okM D M = true) (p : Kp (vw D M s) s') : Stp (M.map (·.1)) s (bk M cn s s') := by
  refine ⟨p.os, p.tape, p.output, p.size, fun b hb _ => if_pos hb, fun b hb hm => ⟨if_pos hb, p.same b hb ?_⟩⟩
  show phi D M (s.g b) < 2
  unfold phi
  split
  · omega
  · have : ∀ (M : List (Nat × Nat)) (c : Nat), memb (M.map (·.1)) c = false → lkp M c = 1 := by
      intro M
      induction M with
      | nil => intro c _; rfl
      | cons q M ih =>
        intro c hc
        simp only [List.map_cons, memb, Bool.or_eq_false_iff] at hc
        unfold lkp
        rw [if_neg (by rw [hc.1]; decide)]
        exact ih c hc.2
    rw [this M _ hm]; omega
theorem OwF.bk {cs : List Value} {x : α} (hf : OwF K s' cs x k) (h : okM D M = true) (hm : (c, k) ∈ M) (p : Kp (V.vw D M s) s') : OwF K (V.bk M cn s s') cs x c := by
 obtain ⟨os, ho, hn, hc⟩ := hf
 exact ⟨os, ho, hn, fun b hb => bk_g h hm p (hc b hb)⟩
theorem BlF.bk {b : Nat} {t : TypeId} {cs : List Value} (hf : BlF s' b t cs k) (h : okM D M = true) (hm : (c, k) ∈ M) (p : Kp (V.vw D M s) s') : BlF (V.bk M cn s s') b t cs c := ⟨hf.1, bk_g h hm p hf.2⟩
theorem MpF.bk {b : Nat} {m : MD} (hf : MpF s' b m k) (h : okM D M = true) (hm : (c, k) ∈ M) (p : Kp (V.vw D M s) s') : MpF (V.bk M cn s s') b m c := by
 obtain ⟨es, clock, h1, h2, h3⟩ := hf
 exact ⟨es, clock, h1, bk_g h hm p h2, h3⟩
end
theorem RwF.rce {α : Type} {te : TypeId} {K : Kd α} {s s' : St} {v : Value} {xs : List α} {c q : Nat} {D E C : List Nat} (h : RwF te K s v xs c D) (r : Rc E q s s') (he : memb E c = false) (hq : memb C q = true) (hc : cov D E C = true) : RwF te K s' v xs c C := by
 obtain ⟨cells, os, hR, hcol, hE⟩ := h
 have hw : s'.w = s.w := r.w.symm
 refine ⟨cells, os, by rw [hw]; exact hR, fun b hb => ?_, ?_⟩
 · rw [r.out b (by rw [hcol b hb]; exact he)]; exact hcol b hb
 · rw [hw]
   refine hE.mono fun b hb _ => ?_
   rcases cov_out hc hb with h1 | h1
   · rw [r.inn b h1]; exact hq
   · cases hm : memb E (s.g b) with
     | true => rw [r.inn b hm]; exact hq
     | false => rw [r.out b hm]; exact h1
end Go.Proofs.YtlpbggnpiogioaaGreat.V
set_option linter.unusedVariables false
set_option linter.unusedSimpArgs false
namespace Go.Proofs.YtlpbggnpiogioaaGreat.V
open Go
def opRd {α : Type} (K : Kd α) (w : World) (v : Value) (o : Option α) (F : Nat → Prop) : Prop :=
 (v = .pointer none ∧ o = none) ∨ ∃ x ad es, v = .pointer (some ad) ∧ o = some x ∧ K.rd w es x F ∧ es ≠ [] ∧ F ad.block ∧ ∀ j u, es[j]? = some u → w.cell? (ad.add j) = some u
def Kd.op {α : Type} (K : Kd α) : Kd (Option α) where
 n := 1
 rd := fun w cs o F => ∃ v, cs = [v] ∧ opRd K w v o F
 ow := fun w cs o os => cs = [.pointer none] ∧ o = none ∧ os = []
 rd_len := fun ⟨v, e, _⟩ => by simp [e]
 rd_one := fun {w cs x F} ⟨v, e, h⟩ u hu => by
  subst e; simp at hu; subst hu
  rcases h with ⟨rfl, _⟩ | ⟨_, _, _, rfl, _⟩ <;> rfl
 rd_frame := fun {w w' cs x F} ⟨v, e, h⟩ ha => ⟨v, e, by
  rcases h with h | ⟨x, ad, es, e1, e2, h1, h2, h3, h4⟩
  · exact .inl h
  · exact .inr ⟨x, ad, es, e1, e2, K.rd_frame h1 ha, h2, h3, fun j u hj => ha.cell (by rw [add_block]; exact h3) (h4 j u hj)⟩⟩
 rd_mono := fun {w cs x F F'} ⟨v, e, h⟩ hm => ⟨v, e, by
  rcases h with h | ⟨x, ad, es, e1, e2, h1, h2, h3, h4⟩
  · exact .inl h
  · refine .inr ⟨x, ad, es, e1, e2, K.rd_mono h1 hm, h2, hm _ h3 ?_, h4⟩
    obtain ⟨u, us, rfl⟩ := List.exists_cons_of_ne_nil h2
    have := World.block_lt_of_cell? w (ad.add 0) (h4 0 u rfl)
    rwa [add_block] at this⟩
 ow_frame := fun h _ => h
 ow_lt := fun h b hb => by rw [h.2.2] at hb; cases hb
 ow_rd := fun {w cs x os} h => ⟨_, h.1, .inl ⟨rfl, h.2.1⟩⟩
theorem rdp_nil {α : Type} (K : Kd α) (s : St) (C : List Nat) : RdF (Kd.op K) s [.pointer none] none C := ⟨_, rfl, .inl ⟨rfl, rfl⟩⟩
theorem op_some {α : Type} {K : Kd α} {s : St} {ad : Addr} {es : List Value} {x : α} {C D : List Nat} (E : List Nat) (hR : RdF K s es x C) (hC : CeF s ad es D) (h1 : sub C E = true) (h2 : sub D E = true) (hn : Nat.ble 1 es.length = true) :
    RdF (Kd.op K) s [.pointer (some ad)] (some x) E :=
  ⟨_, rfl, .inr ⟨x, ad, es, rfl, rfl, hR.sub h1, (by intro h; subst h; cases hn), sub_out h2 hC.1, hC.2⟩⟩
theorem op_open {α : Type} [Inhabited α] {K : Kd α} {s : St} {v : Value} {o : Option α} {C : List Nat} (h : RdF (Kd.op K) s [v] o C) (hs : o.isSome = true) :
    ∃ ad es, v = .pointer (some ad) ∧ RdF K s es (o.getD default) C ∧ CeF s ad es C := by
  obtain ⟨v1, e1, h⟩ := h
  obtain rfl : v = v1 := by simpa using e1
  rcases h with ⟨_, rfl⟩ | ⟨x, ad, es, e1, rfl, h1, h2, h3, h4⟩
  · cases hs
  · exact ⟨ad, es, e1, h1, h3, h4⟩
section
variable {P : Program} {α : Type} {N : Nat} {e : Env} {s : St} {ops : Array Oper} {i d : Nat} {o : Oper}
theorem op_neq {t te : TypeId} {K : Kd α} {v : Value} {x : Option α} {C : List Nat} {w : World} (h : RdF (Kd.op K) s [v] x C) (hu : P.underlying t = some (.pointer te)) : (Op.equal t v (.pointer none)).run P w = .ok (!x.isSome) w := by
 obtain ⟨v1, e1, h⟩ := h
 obtain rfl : v = v1 := by simpa using e1
 unfold Op.equal Op.maxDepth Op.equalIn
 rw [Sem.run_bind', run_underlying hu]
 rcases h with ⟨rfl, rfl⟩ | ⟨x, ad, es, rfl, rfl, _⟩ <;> simp [Result.andThen]
theorem opn_q {t t2 te : TypeId} {K : Kd α} {v : Value} {x : Option α} {C : List Nat} {y : Operand} (h : RdF (Kd.op K) s [v] x C) (hu : P.underlying t = some (.pointer te))
    (ho : ops[i]? = some o) (hd : o.dst = some d) (hN : Nat.blt d N = true) (hw : Region.wanted o (yv e ops) = true) (hop : o.op = .binOp .neq t y (.const (.pointer none)) t2) (hy : ev e y = v) : Qv P N ops e s.w i d (.bool x.isSome) :=
  ⟨o, ho, hd, hN, by simp only [selB, hop], .inl ⟨hw, (by
    have h2 : ev e (.const (.pointer none)) = .pointer none := rfl
    have h3 := op_neq (P := P) (w := s.w) h hu
    obtain ⟨v1, e1, h⟩ := h
    obtain rfl : v = v1 := by simpa using e1
    simp only [execOp, hop, h2, hy]
    rcases h with ⟨rfl, rfl⟩ | ⟨x, ad, es, rfl, rfl, _⟩ <;> simp [binOp, eqGuard, h3, Result.andThen])⟩⟩
theorem nck_q {v : Value} {ad : Addr} {x : Operand} (e1 : v = .pointer (some ad))
    (ho : ops[i]? = some o) (hd : o.dst = some d) (hN : Nat.blt d N = true) (hw : Region.wanted o (yv e ops) = true) (hop : o.op = .nilCheck x) (hx : ev e x = v) : Qv P N ops e s.w i d (.pointer (some ad)) :=
  ⟨o, ho, hd, hN, by simp only [selB, hop], .inl ⟨hw, (by subst e1; simp [execOp, hop, hx])⟩⟩
theorem lnm_q {t kt et b c : Nat} {mm : MD} {x : Operand} (hB : MpF s b mm c) (hm : P.underlying t = some (.map kt et))
    (ho : ops[i]? = some o) (hd : o.dst = some d) (hN : Nat.blt d N = true) (hw : Region.wanted o (yv e ops) = true) (hop : o.op = .call { callee := .builtin .len, args := #[x], argTypes := #[t] }) (hx : ev e x = .map (some b)) : Qv P N ops e s.w i d (.int .i64 (mm.length : Int)) :=
  ⟨o, ho, hd, hN, by simp only [selB, hop], .inl ⟨hw, (by
    obtain ⟨es, cl, hb, hc, he⟩ := hB
    have hl : es.size = mm.length := by have := congrArg List.length he; simpa using this
    simp [execOp, hop, resolve, invoke, builtin, Builtin.len_, hx, run_underlying hm, Go.MapKept.run_getObj_map hb, goInt, hl, Result.andThen])⟩⟩
end
section
variable {P : Program} {f : Who} {N : Nat} {O ρ : Type} {m : Option O} {G : O → Option ρ} {R : ρ → Ending → World → Prop} {e : Env} {s : St} {k : List Item} {ops : Array Oper} {i d : Nat} {rest : List Nat} {o : Oper} {α : Type}
theorem qvt {w : World} {v : Value} (q : Qv P N ops e w i d v) (h : TM P f N m G R (.inRegion ops rest :: k) (upd e d v) w) : TM P f N m G R (.inRegion ops (i :: rest) :: k) e w := by
 obtain ⟨o, ho, hd, hN, _, ⟨hw, hr⟩ | ⟨hw, rfl⟩⟩ := q
 · exact vl ho hd hN hw hr h
 · exact uw ho hd hN hw h
end
end Go.Proofs.YtlpbggnpiogioaaGreat.V
set_option linter.unusedVariables false
set_option linter.unusedSimpArgs false
namespace Go.Proofs.YtlpbggnpiogioaaGreat.V
open Go
def CutA (v : Value) (n a b l : Nat) (v' : Value) : Prop := ∃ A cap, v = .slice A l cap ∧ a ≤ b ∧ b ≤ cap ∧ v' = .slice (if cap = a then A else A.map (·.add (a * n))) (b - a) (cap - a)
section
variable {P : Program} {N : Nat} {e : Env} {s : St} {ops : Array Oper} {i d : Nat} {o : Oper} {α : Type}
theorem cut_a {te : TypeId} {K : Kd α} {v : Value} {xs : List α} {C : List Nat} {a b : Nat} (hF : RdF (Kd.sl te K) s [v] xs C) (hab : a ≤ b) (hb : b ≤ xs.length) :
    ∃ v', RdF (Kd.sl te K) s [v'] ((xs.take b).drop a) C ∧ CutA v K.n a b xs.length v' := by
  obtain ⟨v1, e1, A, cap, cells, hv, hcap, hels, hc⟩ := hF
  obtain rfl : v = v1 := by simpa using e1
  subst hv
  exact ⟨_, ⟨_, rfl, cut_rd ⟨A, cap, cells, rfl, hcap, hels, hc⟩ hab hb⟩, A, cap, rfl, hab, by omega, rfl⟩
theorem cut_lo {te : TypeId} {K : Kd α} {v : Value} {xs : List α} {C : List Nat} {a : Int} (hF : RdF (Kd.sl te K) s [v] xs C) (h : 0 ≤ a ∧ a ≤ (xs.length : Int)) :
    ∃ v', RdF (Kd.sl te K) s [v'] (xs.drop a.toNat) C ∧ CutA v K.n a.toNat xs.length xs.length v' := by
  obtain ⟨v', h1, h2⟩ := cut_a (a := a.toNat) (b := xs.length) hF (by omega) (Nat.le_refl _)
  exact ⟨v', by simpa using h1, h2⟩
theorem sla_q {t te n l : Nat} {v v' : Value} {x p : Operand} {k1 : IntKind} {a : Int} (hC : CutA v n a.toNat l l v') (h0 : 0 ≤ a) (hu : P.underlying t = some (.slice te)) (hs : (P.info? te).map (·.size) = some n)
    (ho : ops[i]? = some o) (hd : o.dst = some d) (hN : Nat.blt d N = true) (hw : Region.wanted o (yv e ops) = true) (hop : o.op = .slice t x (some p) none none) (hx : ev e x = v) (hp : ev e p = .int k1 a) : Qv P N ops e s.w i d v' := by
  obtain ⟨A, cap, rfl, h1, h2, rfl⟩ := hC
  have hcut := cut_run (P := P) (w := s.w) (A := A) (len := l) (cap := cap) (a := a.toNat) (b := l) (lo := some (.int k1 a)) (hi := none) hu hs h1 h2 (.inr ⟨k1, by rw [Int.toNat_of_nonneg h0]⟩) (.inl ⟨rfl, rfl⟩)
  exact ⟨o, ho, hd, hN, by simp only [selB, hop], .inl ⟨hw, (by simp [execOp, hop, hx, hp, hcut, Result.andThen])⟩⟩
theorem sla_q' {t te n l : Nat} {v v' : Value} {x p : Operand} {k1 : IntKind} {a : Int} (hC : CutA v n a.toNat l l v') (h0 : 0 ≤ a) (hu : P.underlying t = some (.slice te)) (hs : (P.info? te).map (·.size) = some n) (t4 : E7 (ops[i]?) (some o) (o.dst) (some d) (Nat.blt d N) (true) (Region.wanted o (yv e ops)) (true) (o.op) (.slice t x (some p) none none) (ev e x) (v) (ev e p) (.int k1 a)) : Qv P N ops e s.w i d v' := sla_q hC h0 hu hs (e7_ t4).1 (e7_ t4).2.1 (e7_ t4).2.2.1 (e7_ t4).2.2.2.1 (e7_ t4).2.2.2.2.1 (e7_ t4).2.2.2.2.2.1 (e7_ t4).2.2.2.2.2.2
end
end Go.Proofs.YtlpbggnpiogioaaGreat.V
set_option linter.unusedVariables false
set_option linter.unusedSimpArgs false
namespace Go.Proofs.YtlpbggnpiogioaaGreat.V
open Go
def RcF (te : TypeId) (sz : Nat) (s : St) (v : Value) (n : Nat) (cells : List Value) (c : Nat) : Prop := ∃ os, RowAt s.w te sz v n cells os ∧ ∀ b ∈ os, s.g b = c
theorem RcF.st {te sz n c : Nat} {s s' : St} {v : Value} {cells : List Value} {S : List Nat} (h : RcF te sz s v n cells c) (p : Stp S s s') (d : memb S c = false) : RcF te sz s' v n cells c := by
 obtain ⟨os, hr, hc⟩ := h
 exact ⟨os, hr.frame fun b hb hl => (p.same b hl (by rw [hc b hb]; exact d)).2, fun b hb => by rw [(p.same b (hr.lt b hb) (by rw [hc b hb]; exact d)).1, hc b hb]⟩
def SrF (s : St) (ad : Addr) (cs : List Value) : Prop := ∀ j u, cs[j]? = some u → s.w.cell? (ad.add j) = some u
theorem RcF.src {te sz n c g cap : Nat} {s : St} {cells : List Value} (h : RcF te sz s (.slice (some ⟨g, 0, none⟩) n cap) n cells c) (o : Nat) (cs : List Value) (hcs : ∀ j u, cs[j]? = some u → cells[o + j]? = some u) : SrF s ⟨g, o, none⟩ cs := by
 obtain ⟨os, hr, _⟩ := h
 intro j u hj
 have := RowAt.at_ hr rfl (o + j) u (hcs j u hj)
 rw [show (⟨g, o, none⟩ : Addr).add j = (⟨g, 0, none⟩ : Addr).add (o + j) by unfold Addr.add; by_cases h1 : j = 0 <;> by_cases h2 : o = 0 <;> simp [h1, h2]]
 exact this
theorem BlF.src {s : St} {b te c : Nat} {cs : List Value} (h : BlF s b te cs c) : SrF s ⟨b, 0, none⟩ cs := by
 intro j u hj
 have : (⟨b, 0, none⟩ : Addr).add j = ⟨b, j, none⟩ := by unfold Addr.add; split <;> simp_all
 rw [this]
 exact bl_cell h hj
theorem RowAt.more {w : World} {te sz n cap g : Nat} {cells : List Value} {os : List Nat} (h : RowAt w te sz (.slice (some ⟨g, 0, none⟩) n cap) n cells os) (k : Nat) (hk : n + k ≤ cap) :
    ∃ junk, junk.length = k * sz ∧ RowAt w te sz (.slice (some ⟨g, 0, none⟩) (n + k) cap) (n + k) (cells ++ junk) os := by
  rcases h.2 with ⟨h1, _⟩ | ⟨g', cap', cur, e1, e2, e3, e4, e5, e6, e7⟩
  · cases h1
  · obtain ⟨rfl, rfl⟩ : g = g' ∧ cap = cap' := by injection e1 with a _ b; injection a with a; injection a with a; exact ⟨a, b⟩
    have hl := h.1
    have hmul : (n + k) * sz ≤ cap * sz := Nat.mul_le_mul_right _ hk
    have hadd : (n + k) * sz = n * sz + k * sz := Nat.add_mul _ _ _
    rw [hadd] at hmul
    have e5' : cur.toList.length = cap * sz := by rw [Array.length_toList]; exact e5
    refine ⟨(cur.toList.drop (n * sz)).take (k * sz), by rw [List.length_take, List.length_drop, e5']; omega, by rw [List.length_append, List.length_take, List.length_drop, e5', hl, hadd]; omega, .inr ⟨g, cap, cur, rfl, e2, hk, e4, e5, ?_, e7⟩⟩
    rw [hadd, List.take_add, e6]
theorem RowAt.less {w : World} {te sz n cap g i : Nat} {cells : List Value} {os : List Nat} (h : RowAt w te sz (.slice (some ⟨g, 0, none⟩) n cap) n cells os) (hi : i ≤ n) :
    RowAt w te sz (.slice (some ⟨g, 0, none⟩) i cap) i (cells.take (i * sz)) os := by
  rcases h.2 with ⟨h1, _⟩ | ⟨g', cap', cur, e1, e2, e3, e4, e5, e6, e7⟩
  · cases h1
  · obtain ⟨rfl, rfl⟩ : g = g' ∧ cap = cap' := by injection e1 with a _ b; injection a with a; injection a with a; exact ⟨a, b⟩
    have hl := h.1
    have hmul : i * sz ≤ n * sz := Nat.mul_le_mul_right _ hi
    exact ⟨by rw [List.length_take]; omega, .inr ⟨g, cap, cur, rfl, e2, by omega, e4, e5, by rw [← e6, List.take_take, Nat.min_eq_left hmul], e7⟩⟩
def sp (cells : List Value) (o : Nat) (cs : List Value) : List Value := cells.take o ++ cs ++ cells.drop (o + cs.length)
theorem sp_len {cells : List Value} {o : Nat} {cs : List Value} (h : o + cs.length ≤ cells.length) : (sp cells o cs).length = cells.length := by unfold sp; simp; omega
theorem fin_B {cells Z cv : List Value} {i n sz : Nat} (hc : cells.length = n * sz) (hv : cv.length = sz) (hi : i ≤ n) (hz : Z.length = (n + 1 - i) * sz) :
    sp (sp (cells.take (i * sz) ++ Z) (i * sz) cv) ((i + 1) * sz) (cells.drop (i * sz)) = cells.take (i * sz) ++ cv ++ cells.drop (i * sz) := by
  have h1 : i * sz ≤ n * sz := Nat.mul_le_mul_right _ hi
  have h2 : (i + 1) * sz = i * sz + sz := Nat.succ_mul _ _
  have h3 : (n + 1 - i) * sz = (n - i) * sz + sz := by rw [show n + 1 - i = (n - i) + 1 by omega, Nat.succ_mul]
  have h4 : n * sz = i * sz + (n - i) * sz := by rw [← Nat.add_mul]; congr 1; omega
  have hT : (cells.take (i * sz)).length = i * sz := by rw [List.length_take]; omega
  have e1 : sp (cells.take (i * sz) ++ Z) (i * sz) cv = cells.take (i * sz) ++ cv ++ Z.drop sz := by
    unfold sp
    rw [List.take_left' hT, ← List.drop_drop, List.drop_left' hT, hv]
  rw [e1]
  unfold sp
  have hC : (cells.take (i * sz) ++ cv).length = (i + 1) * sz := by rw [List.length_append, hT, hv, h2]
  have e2 : (cells.take (i * sz) ++ cv ++ Z.drop sz).drop ((i + 1) * sz + (cells.drop (i * sz)).length) = [] := List.drop_eq_nil_of_le (by rw [List.length_append, hC, List.length_drop, List.length_drop]; omega)
  rw [e2, List.append_nil, List.take_left' hC]
theorem fin_C {cells junk cv : List Value} {i n sz : Nat} (hc : cells.length = n * sz) (hv : cv.length = sz) (hi : i ≤ n) (hz : junk.length = 1 * sz) :
    sp (sp (cells ++ junk) ((i + 1) * sz) (cells.drop (i * sz))) (i * sz) cv = cells.take (i * sz) ++ cv ++ cells.drop (i * sz) := by
  have h1 : i * sz ≤ n * sz := Nat.mul_le_mul_right _ hi
  have h2 : (i + 1) * sz = i * sz + sz := Nat.succ_mul _ _
  have h4 : n * sz = i * sz + (n - i) * sz := by rw [← Nat.add_mul]; congr 1; omega
  have e1 : sp (cells ++ junk) ((i + 1) * sz) (cells.drop (i * sz)) = (cells ++ junk).take ((i + 1) * sz) ++ cells.drop (i * sz) := by
    unfold sp
    have e2 : (cells ++ junk).drop ((i + 1) * sz + (cells.drop (i * sz)).length) = [] := List.drop_eq_nil_of_le (by rw [List.length_append, List.length_drop]; omega)
    rw [e2, List.append_nil]
  rw [e1]
  have hT : ((cells ++ junk).take ((i + 1) * sz)).length = (i + 1) * sz := by rw [List.length_take, List.length_append]; omega
  unfold sp
  rw [List.take_append_of_le_length (by omega), List.take_take, Nat.min_eq_left (by omega), List.take_append_of_le_length (by omega)]
  rw [hv, ← h2, List.drop_left' hT]
section
variable {P : Program} {w : World}
theorem zeros_grow {t tn te ty : TypeId} {n : Nat} {g lx cap k : Nat} {cells : List Value} {os : List Nat} {kq kn : IntKind} {z : Value} (hT : SlT P t te n) (hz : (P.info? te).bind (·.zero) = some z) (htn : P.underlying tn = some (.int kn)) (hR : RowAt w te n (.slice (some ⟨g, 0, none⟩) lx cap) lx cells os) (hroom : cap < lx + k) (hk0 : 0 < k) (hl : lx + k ≤ Lim) :
    ∃ q Z w', (Builtin.append_ #[t, tn] ty #[.slice (some ⟨g, 0, none⟩) lx cap, .int kq k]).run P w = .ok (.slice (some ⟨w.heap.size, 0, none⟩) (lx + k) q) w' ∧ Z.length = k * n ∧ lx + k ≤ q ∧ RowAt w' te n (.slice (some ⟨w.heap.size, 0, none⟩) (lx + k) q) (lx + k) (cells ++ Z) [w.heap.size] ∧ w.grownBy w' none := by
  obtain ⟨hu, z', by_, hi, hzs, hn, hb⟩ := hT
  obtain ⟨ti, hti, hzz⟩ := Option.map_eq_some_iff.1 hi
  simp only [Prod.mk.injEq] at hzz
  obtain rfl : z' = z := by rw [hti] at hz; simp [hzz.1] at hz; exact hz
  have hk : (k : Int) ≤ 9223372036854775807 := by unfold Lim at hl; omega
  have hbk : k * ti.bytes ≤ 4294967296 * 32768 := Nat.mul_le_mul (by unfold Lim at hl; omega) (by rw [hzz.2.2]; exact hb)
  have h48i : ¬ (281474976710656 < (k : Int) * (ti.bytes : Int)) := by
    rw [← Int.natCast_mul]
    omega
  have hlen : (cells ++ (Builtin.zeroCells z'.cells k).toList).length = (lx + k) * n := by
    rw [List.length_append, hR.1, Array.length_toList, size_zeroCells, hzs, Nat.add_mul]
  have hsz : ¬ (k * ti.size = 0) := Nat.mul_ne_zero (by omega) (by rw [hzz.2.1]; omega)
  have h63 : lx + k ≤ maxLen := by unfold Lim at hl; simp only [maxLen]; omega
  have h63' : ((lx + k : Nat) : Int) ≤ 9223372036854775807 := by unfold Lim at hl; omega
  have hbytes : (lx + k) * ti.bytes ≤ 140737488355328 := by
    have : (lx + k) * ti.bytes ≤ 4294967296 * 32768 := Nat.mul_le_mul (by unfold Lim at hl; omega) (by rw [hzz.2.2]; exact hb)
    omega
  have hnc : lx ≤ cap := by
    rcases hR.2 with ⟨h, _⟩ | ⟨g', cap', cur, e1, _, e3, _⟩
    · cases h
    · injection e1 with _ _ b; omega
  have holds : ∀ j u, cells[j]? = some u → w.cell? ((⟨g, 0, none⟩ : Addr).add j) = some u := RowAt.at_ hR rfl
  have hfo := run_firstCells_some (P := P) w.drew n lx ⟨g, 0, none⟩ lx cap cells hR.1 (by simpa using holds)
  have hr := Lib.run_append_grow_zeros (P := P) w t tn ty te ti z' kq kn hu htn hti hzz.1 (some ⟨g, 0, none⟩) lx cap cells (by rw [hzz.2.1]; exact hfo) k (by omega) (by rw [hzz.2.1]; omega) (by omega) h63' (by omega) (growslice_fits (by omega) hbytes)
  have hge := grownCap_ge w (lx + k) cap te
  have hcm : grownCap w (lx + k) cap te ≤ maxLen := grownCap_le_maxLen w (lx + k) cap te h63
  refine ⟨_, _, _, hr, ?_, hge, ⟨hlen, .inr ⟨w.heap.size, _, _, rfl, .mk (heap_alloc_new w.drew _), hge, hcm, ?_, ?_, rfl⟩⟩, ⟨rfl, rfl, rfl, by simp, fun k hk _ => heap_alloc_old w.drew _ hk⟩⟩
  · rw [Array.length_toList, size_zeroCells, hzs]
  · simp only [Array.size_append, List.size_toArray, size_zeroCells, hzs, hR.1, ← Nat.add_mul]
    congr 1
    omega
  · simp only [Array.toList_append, List.append_assoc]
    rw [← List.append_assoc, ← hlen]
    exact List.take_left
theorem copy_at {t te ty sz : TypeId} {g lx cap o dl dc sl sc : Nat} {cells cs : List Value} {os : List Nat} {ad : Addr} (hu : P.underlying t = some (.slice te)) (hs : (P.info? te).map (·.size) = some sz) (hR : RowAt w te sz (.slice (some ⟨g, 0, none⟩) lx cap) lx cells os)
    (hcs : cs.length = Nat.min sl dl * sz) (hld : ∀ j u, cs[j]? = some u → w.cell? (ad.add j) = some u) (h1 : ∀ u ∈ cs, u.oneCell' = true) (hfit : o + cs.length ≤ lx * sz) :
    ∃ w', (Builtin.copy_ #[t, t] ty #[.slice (some ⟨g, o, none⟩) dl dc, .slice (some ad) sl sc]).run P w = .ok (goInt (Nat.min sl dl)) w' ∧ RowAt w' te sz (.slice (some ⟨g, 0, none⟩) lx cap) lx (sp cells o cs) os ∧ w.grownBy w' (some g) := by
  have hRl := hR.1
  rcases hR.2 with ⟨h, _⟩ | ⟨g', cap', cur, e1, e2, e3, e4, e5, e6, e7⟩
  · cases h
  · obtain ⟨rfl, rfl⟩ : g = g' ∧ cap = cap' := by injection e1 with a _ b; injection a with a; injection a with a; exact ⟨a, b⟩
    have hcap : lx * sz ≤ cap * sz := Nat.mul_le_mul_right _ e3
    have hfo := run_firstCells_some (P := P) w sz (Nat.min sl dl) ad sl sc cs hcs hld
    have hst := storeCells_hr P g o te cs 0 cur w e2 (by rw [e5]; omega) h1
    simp only [Nat.add_zero] at hst
    refine ⟨w.setRow g (cur.toList.take o ++ cs ++ cur.toList.drop (o + cs.length)).toArray, ?_, ⟨by rw [sp_len (by omega)]; exact hRl, .inr ⟨g, cap, _, rfl, e2.row3 o cs (by rw [e5]; omega), e3, e4, ?_, ?_, e7⟩⟩, ⟨rfl, rfl, rfl, by simp, fun k _ hk => setRow_other w g k _ (fun e => hk (by simp [e]))⟩⟩
    · obtain ⟨ti, hti, hsz⟩ := Option.map_eq_some_iff.1 hs
      subst hsz
      simp [Builtin.copy_, run_underlying hu, Builtin.lenOf, sizeOf, typeInfo, hti, hfo, hst]
    · simp only [List.size_toArray, List.length_append, List.length_take, List.length_drop, Array.length_toList]
      omega
    · unfold sp
      rw [← e6]
      have hl : (cur.toList.take o ++ cs).length = o + cs.length := by rw [List.length_append, List.length_take, Array.length_toList]; omega
      rw [List.take_append, List.take_of_length_le (by omega), hl, List.take_take, Nat.min_eq_left (by omega), List.drop_take]
end
section
variable {P : Program} {N : Nat} {e : Env} {w : World} {ops : Array Oper} {i d : Nat} {o : Oper}
theorem puE_q {v v' : Value} (he : v' = v) (ho : ops[i]? = some o) (hd : o.dst = some d) (hN : Nat.blt d N = true) (hw : Region.wanted o (yv e ops) = true) (hs : selB o = false) (hx : ex e o.op = some v') : Qv P N ops e w i d v := by
 subst he; exact ⟨o, ho, hd, hN, hs, .inl ⟨hw, ex_run hx⟩⟩
theorem Yi {v v' : Value} (he : v' = v) (t1 : E6 (ops[i]?) (some o) (o.dst) (some d) (Nat.blt d N) (true) (Region.wanted o (yv e ops)) (true) (selB o) (false) (ex e o.op) (some v')) : Qv P N ops e w i d v := puE_q he (e6_ t1).1 (e6_ t1).2.1 (e6_ t1).2.2.1 (e6_ t1).2.2.2.1 (e6_ t1).2.2.2.2.1 (e6_ t1).2.2.2.2.2
theorem lnS_q {t te l cap : Nat} {A : Option Addr} {x : Operand} (hu : P.underlying t = some (.slice te))
    (ho : ops[i]? = some o) (hd : o.dst = some d) (hN : Nat.blt d N = true) (hw : Region.wanted o (yv e ops) = true) (hop : o.op = .call { callee := .builtin .len, args := #[x], argTypes := #[t] }) (hx : ev e x = .slice A l cap) : Qv P N ops e w i d (.int .i64 (l : Int)) :=
  ⟨o, ho, hd, hN, by simp only [selB, hop], .inl ⟨hw, (by simp [execOp, hop, resolve, invoke, builtin, Builtin.len_, hx, run_underlying hu, goInt, Result.andThen])⟩⟩
theorem cpS_q {t te l cap : Nat} {A : Option Addr} {x : Operand} (hu : P.underlying t = some (.slice te))
    (ho : ops[i]? = some o) (hd : o.dst = some d) (hN : Nat.blt d N = true) (hw : Region.wanted o (yv e ops) = true) (hop : o.op = .call { callee := .builtin .cap, args := #[x], argTypes := #[t] }) (hx : ev e x = .slice A l cap) : Qv P N ops e w i d (.int .i64 (cap : Int)) :=
  ⟨o, ho, hd, hN, by simp only [selB, hop], .inl ⟨hw, (by simp [execOp, hop, resolve, invoke, builtin, Builtin.cap_, hx, run_underlying hu, goInt, Result.andThen])⟩⟩
theorem ctU_q {t te n l cap a : Nat} {A : Option Addr} {x p : Operand} {kk : IntKind} (ha : a ≤ l) (hl : l ≤ cap) (hu : P.underlying t = some (.slice te)) (hs : (P.info? te).map (·.size) = some n)
    (ho : ops[i]? = some o) (hd : o.dst = some d) (hN : Nat.blt d N = true) (hw : Region.wanted o (yv e ops) = true) (hop : o.op = .slice t x (some p) none none) (hx : ev e x = .slice A l cap) (hp : ev e p = .int kk (a : Int)) : Qv P N ops e w i d (.slice (if cap = a then A else A.map (·.add (a * n))) (l - a) (cap - a)) := by
  have hcut := cut_run (P := P) (w := w) (A := A) (len := l) (cap := cap) (a := a) (b := l) (lo := some (.int kk a)) (hi := none) hu hs ha hl (.inr ⟨kk, rfl⟩) (.inl ⟨rfl, rfl⟩)
  exact ⟨o, ho, hd, hN, by simp only [selB, hop], .inl ⟨hw, (by simp [execOp, hop, hx, hp, hcut, Result.andThen])⟩⟩
theorem ctL_q {t te n l cap a g : Nat} {x p : Operand} {kk : IntKind} (ha : a ≤ l) (hl : l ≤ cap) (hc : a < cap) (hu : P.underlying t = some (.slice te)) (hs : (P.info? te).map (·.size) = some n)
    (ho : ops[i]? = some o) (hd : o.dst = some d) (hN : Nat.blt d N = true) (hw : Region.wanted o (yv e ops) = true) (hop : o.op = .slice t x (some p) none none) (hx : ev e x = .slice (some ⟨g, 0, none⟩) l cap) (hp : ev e p = .int kk (a : Int)) : Qv P N ops e w i d (.slice (some ⟨g, a * n, none⟩) (l - a) (cap - a)) := by
  have h := ctU_q (w := w) ha hl hu hs ho hd hN hw hop hx hp
  rw [if_neg (by omega)] at h
  have e1 : (some (⟨g, 0, none⟩ : Addr)).map (·.add (a * n)) = some ⟨g, a * n, none⟩ := by simp only [Option.map_some]; unfold Addr.add; split <;> simp_all
  rw [e1] at h; exact h
theorem ctH_q {t te n l cap b : Nat} {A : Option Addr} {x q : Operand} {kk : IntKind} (hb : b ≤ cap) (hu : P.underlying t = some (.slice te)) (hs : (P.info? te).map (·.size) = some n)
    (ho : ops[i]? = some o) (hd : o.dst = some d) (hN : Nat.blt d N = true) (hw : Region.wanted o (yv e ops) = true) (hop : o.op = .slice t x none (some q) none) (hx : ev e x = .slice A l cap) (hq : ev e q = .int kk (b : Int)) : Qv P N ops e w i d (.slice A b cap) := by
  have hcut := cut_run (P := P) (w := w) (A := A) (len := l) (cap := cap) (a := 0) (b := b) (lo := none) (hi := some (.int kk b)) hu hs (Nat.zero_le _) hb (.inl ⟨rfl, rfl⟩) (.inr ⟨kk, rfl⟩)
  have e1 : (if cap = 0 then A else A.map (·.add (0 * n))) = A := by
    split
    · rfl
    · cases A with
      | none => rfl
      | some ad => simp [Addr.add]
  rw [e1] at hcut
  exact ⟨o, ho, hd, hN, by simp only [selB, hop], .inl ⟨hw, (by simp [execOp, hop, hx, hq, hcut, Result.andThen])⟩⟩
end
section
variable {P : Program} {f : Who} {N : Nat} {O ρ : Type} {m : Option O} {G : O → Option ρ} {R : ρ → Ending → World → Prop} {e : Env} {s : St} {k : List Item} {ops : Array Oper} {i d : Nat} {rest : List Nat} {o : Oper}
theorem grown_sx {w' : World} {r : Option Nat} (hg : s.w.grownBy w' r) (c2 : Nat) (S : List Nat) (hr : ∀ b, r = some b → memb S (s.g b) = true) : ∃ s' : St, s'.w = w' ∧ Stp S s s' ∧ (∀ b, b < s.w.heap.size → s'.g b = s.g b) ∧ ∀ b, s.w.heap.size ≤ b → s'.g b = c2 := by
 refine ⟨⟨w', fun b => if b < s.w.heap.size then s.g b else c2⟩, rfl, ⟨hg.os, hg.tape, hg.output, hg.size, fun b hb _ => by simp [hb], fun b hb hm => ⟨by simp [hb], hg.block b hb fun h => by rw [hr b h.symm] at hm; cases hm⟩⟩, fun b hb => by simp [hb], fun b hb => ?_⟩
 have : ¬ b < s.w.heap.size := by omega
 simp [this]
theorem apZg (c2 : Nat) {t tn te sz g lx cap kx c : Nat} {cells : List Value} {kq kn : IntKind} {z : Value} {x y : Operand} (hT : SlT P t te sz) (hz : (P.info? te).bind (·.zero) = some z) (htn : P.underlying tn = some (.int kn)) (hR : RcF te sz s (.slice (some ⟨g, 0, none⟩) lx cap) lx cells c) (hroom : cap < lx + kx) (hk0 : 0 < kx) (hl : lx + kx ≤ Lim)
    (ho : ops[i]? = some o) (hd : o.dst = some d) (hN : Nat.blt d N = true) (hw : Region.wanted o (yv e ops) = true) (hop : o.op = .call { callee := .builtin .append, args := #[x, y], argTypes := #[t, tn] }) (hx : ev e x = .slice (some ⟨g, 0, none⟩) lx cap) (hy : ev e y = .int kq (kx : Int))
    (h : ∀ g2 q Z s', Stp [] s s' → Z.length = kx * sz → lx + kx ≤ q → RcF te sz s' (.slice (some ⟨g2, 0, none⟩) (lx + kx) q) (lx + kx) (cells ++ Z) c2 → TM P f N m G R (.inRegion ops rest :: k) (upd e d (.slice (some ⟨g2, 0, none⟩) (lx + kx) q)) s'.w) : TM P f N m G R (.inRegion ops (i :: rest) :: k) e s.w := by
  obtain ⟨os, hR, _⟩ := hR
  obtain ⟨q, Z, w', hr, hZ, hq, hR', hgr⟩ := zeros_grow (P := P) (ty := o.type) (kq := kq) (k := kx) hT hz htn hR hroom hk0 hl
  obtain ⟨s', rfl, p, _, hnew⟩ := grown_sx hgr c2 [] (fun b hb => by cases hb)
  refine vl (v := .slice (some ⟨s.w.heap.size, 0, none⟩) (lx + kx) q) (w' := s'.w) ho hd hN hw (by simp [execOp, hop, resolve, invoke, builtin, hx, hy, hr, Result.andThen]) ?_
  exact h _ q Z s' p hZ hq ⟨_, hR', fun b hb => by simp at hb; subst hb; exact hnew _ (Nat.le_refl _)⟩
theorem cpyS {t te sz g lx cap of dl dc sl sc c : Nat} {cells cs : List Value} {ad : Addr} {x y : Operand} (hu : P.underlying t = some (.slice te)) (hs : (P.info? te).map (·.size) = some sz) (hR : RcF te sz s (.slice (some ⟨g, 0, none⟩) lx cap) lx cells c) (hS : SrF s ad cs) (hcs : cs.length = Nat.min sl dl * sz) (h1 : ∀ u ∈ cs, u.oneCell' = true) (hfit : of + cs.length ≤ lx * sz)
    (ho : ops[i]? = some o) (hd : o.dst = some d) (hN : Nat.blt d N = true) (hw : Region.wanted o (yv e ops) = true) (hop : o.op = .call { callee := .builtin .copy, args := #[x, y], argTypes := #[t, t] }) (hx : ev e x = .slice (some ⟨g, of, none⟩) dl dc) (hy : ev e y = .slice (some ad) sl sc)
    (h : ∀ s', Stp [c] s s' → RcF te sz s' (.slice (some ⟨g, 0, none⟩) lx cap) lx (sp cells of cs) c → TM P f N m G R (.inRegion ops rest :: k) (upd e d (goInt (Nat.min sl dl))) s'.w) : TM P f N m G R (.inRegion ops (i :: rest) :: k) e s.w := by
  obtain ⟨os, hR, hc⟩ := hR
  obtain ⟨w', hr, hR', hgr⟩ := copy_at (P := P) (ty := o.type) (dc := dc) (sc := sc) hu hs hR hcs hS h1 hfit
  have hg : ∀ b, (some g : Option Nat) = some b → memb [c] (s.g b) = true := fun b hb => by
    obtain rfl := Option.some.inj hb
    have : g ∈ os := by
      rcases hR.2 with ⟨h, _⟩ | ⟨g', cap', cur, e1, _, _, _, _, _, e7⟩
      · cases h
      · injection e1 with a _ _; injection a with a; injection a with a; rw [e7, a]; simp
    rw [hc g this]; simp [memb]
  obtain ⟨s', rfl, p, hold, _⟩ := grown_sx hgr c [c] hg
  refine vl (v := goInt (Nat.min sl dl)) (w' := s'.w) ho hd hN hw (by simp [execOp, hop, resolve, invoke, builtin, hx, hy, hr, Result.andThen]) ?_
  exact h s' p ⟨os, hR', fun b hb => by rw [hold b (hR.lt b hb)]; exact hc b hb⟩
theorem apC {t te sz lx c mc gv cb : Nat} {v : Value} {cells cv : List Value} {x y : Operand} (hT : SlT P t te sz) (hR : RcF te sz s v lx cells c) (hB : BlF s gv te cv cb) (hcv : cv.length = sz) (h1 : ∀ u ∈ cv, u.oneCell' = true) (hl : lx + 1 ≤ Lim)
    (ho : ops[i]? = some o) (hd : o.dst = some d) (hN : Nat.blt d N = true) (hw : Region.wanted o (yv e ops) = true) (hop : o.op = .call { callee := .builtin .append, args := #[x, y], argTypes := #[t, t] }) (hx : ev e x = v) (hy : ev e y = .slice (some ⟨gv, 0, none⟩) 1 mc)
    (h : ∀ v' s', Stp [c] s s' → RcF te sz s' v' (lx + 1) (cells ++ cv) c → TM P f N m G R (.inRegion ops rest :: k) (upd e d v') s'.w) : TM P f N m G R (.inRegion ops (i :: rest) :: k) e s.w := by
  obtain ⟨os, hR, hc⟩ := hR
  have hS : SlV s.w (.slice (some ⟨gv, 0, none⟩) 1 mc) 1 sz cv := ⟨_, mc, rfl, by omega, h1, fun _ => ⟨_, rfl, hB.src⟩⟩
  obtain ⟨v', w', hr, hR', hgr, hb⟩ := append_core (P := P) (ty := o.type) hT hR hS hl
  have hg : ∀ b, v.ownBlock = some b → memb [c] (s.g b) = true := fun b hb => by rw [hc b (blk_own hR hb)]; simp [memb]
  obtain ⟨s', rfl, p, hold, hnew⟩ := grown_sx hgr c [c] hg
  refine vl (v := v') (w' := s'.w) ho hd hN hw (by simp [execOp, hop, resolve, invoke, builtin, hx, hy, hr, Result.andThen]) ?_
  refine h v' s' p ⟨_, hR', fun b hb' => ?_⟩
  rcases hb b hb' with h1 | h1
  · rw [hold b (hR.lt b h1)]; exact hc b h1
  · exact hnew b h1
theorem ovS {t tR te sz g gv lx cap cb c la ca lb cc ofb : Nat} {fn : Func} {gf : FuncId} {cells cv : List Value} {ts : Array TypeId} {x y : Operand} (hu : P.underlying t = some (.slice te)) (hs : (P.info? te).map (·.size) = some sz) (hR : RcF te sz s (.slice (some ⟨g, 0, none⟩) lx cap) lx cells c) (hB : BlF s gv te cv cb) (hne : gv ≠ g) (hpos : 0 < cap * sz)
    (ho : ops[i]? = some o) (hd : o.dst = some d) (hN : Nat.blt d N = true) (hw : Region.wanted o (yv e ops) = true) (hop : o.op = .call { callee := .value (.func gf), args := #[x, y], argTypes := ts }) (hg : P.funcs[gf]? = some fn) (hb : fn.body = none)
    (hn : (fn.name == "runtime.NumGoroutine") = false) (hnx : Extern.findNext fn = none) (hf : Extern.find fn = some (Extern.SlicesOverlaps.overlaps #[t, t] #[tR])) (hx : ev e x = .slice (some ⟨gv, 0, none⟩) la ca) (hy : ev e y = .slice (some ⟨g, ofb, none⟩) lb cc)
    (h : TM P f N m G R (.inRegion ops rest :: k) (upd e d (.bool false)) s.w) : TM P f N m G R (.inRegion ops (i :: rest) :: k) e s.w := by
  obtain ⟨os, hR, hc⟩ := hR
  rcases hR.2 with ⟨h', _⟩ | ⟨g', cap', cur, e1, ⟨fz, e2, _⟩, e3, e4, e5, e6, e7⟩
  · cases h'
  · obtain ⟨rfl, rfl⟩ : g = g' ∧ cap = cap' := by injection e1 with a _ b; injection a with a; injection a with a; exact ⟨a, b⟩
    refine vl ho hd hN hw (ext_run hop hg hb hn hnx hf ?_) h
    rw [show (#[x, y] : Array Operand).map (ev e) = #[ev e x, ev e y] from by simp, hx, hy]
    exact Lib.run_overlaps_apart s.w t tR te hu sz (fun w => size_run hs) ⟨gv, 0, none⟩ ⟨g, ofb, none⟩ la ca lb cc hne te te cv.length cur.size (by simp [World.shape?, hB.1]) (by simp [World.shape?, e2]) (by omega) (by simp [World.frozen?, hB.1]) (by simp [World.frozen?, hB.1])
end
theorem nmin_l {a b : Nat} (h : a ≤ b) : Nat.min a b = a := Nat.min_eq_left h
theorem nmin_r {a b : Nat} (h : b ≤ a) : Nat.min a b = b := Nat.min_eq_right h
theorem insS (w : World) (os : List Nat) (gv : Nat) (hng : gv ∉ os) : ∃ s0 : St, s0.w = w ∧ Kp s0 s0 ∧ (∀ b ∈ os, s0.g b = 40) ∧ (∀ b, b ∉ os → s0.g b < 2) ∧ s0.g gv = 0 :=
 ⟨⟨w, fun b => if b ∈ os then 40 else if b = gv then 0 else 1⟩, rfl, ⟨rfl, rfl, rfl, Nat.le_refl _, fun _ _ _ => rfl, fun _ _ _ => rfl⟩, fun b hb => by simp [hb], fun b hb => by simp only [if_neg hb]; split <;> omega, by simp [hng]⟩
theorem insE {te sz n nn c : Nat} {os : List Nat} {s0 s : St} {v : Value} {cells goal : List Value} (hk40 : ∀ b ∈ os, s0.g b = 40) (hks : ∀ b, b ∉ os → s0.g b < 2) (hn : nn = n + 1) (K : Kp s0 s) (R : RcF te sz s v nn cells c) (eq : cells = goal) (hc : Nat.ble 40 c = true) :
    ∃ os', RowAt s.w te sz v (n + 1) goal os' ∧ ∀ b ∈ os', b ∈ os ∨ s0.w.heap.size ≤ b := by
  subst hn; subst eq
  obtain ⟨os', hR, hcol⟩ := R
  have hc := Nat.le_of_ble_eq_true hc
  refine ⟨os', hR, fun b hb => ?_⟩
  by_cases hl : b < s0.w.heap.size
  · left
    by_cases hm : b ∈ os
    · exact hm
    · have h1 := hks b hm
      have h2 := K.col b hl (by omega)
      have h3 := hcol b hb
      omega
  · right; omega
theorem insK {os : List Nat} {s0 s : St} (hk40 : ∀ b ∈ os, s0.g b = 40) (hks : ∀ b, b ∉ os → s0.g b < 2) (K : Kp s0 s) : Ky os s0.w s.w := ⟨K.os, K.tape, K.output, K.size, fun b hb hm => K.same b hb (hks b hm)⟩
def InsC (P : Program) (f te sz : Nat) : Prop := ∀ (n i : Nat) (w : World) (w0 : Value) (cells : List Value) (os : List Nat) (gv mc : Nat) (cv : List Value), RowAt w te sz w0 n cells os → (∀ u ∈ cells, u.oneCell' = true) → i ≤ n → cv.length = sz → (∀ u ∈ cv, u.oneCell' = true) → w.heap[gv]? = some (.cells cv.toArray te (0, 0)) → gv ∉ os → n + 1 ≤ Lim →
 Calls P f #[w0, .int .i64 (i : Int), .slice (some ⟨gv, 0, none⟩) 1 mc] w fun en w' => ∃ v, en = .returned v ∧ (∃ os', RowAt w' te sz v (n + 1) (cells.take (i * sz) ++ cv ++ cells.drop (i * sz)) os' ∧ ∀ b ∈ os', b ∈ os ∨ w.heap.size ≤ b) ∧ Ky os w w'
theorem RowAt.nd {w : World} {te sz n : Nat} {v : Value} {cells : List Value} {os : List Nat} (h : RowAt w te sz v n cells os) : os.Nodup := by
 rcases h.2 with ⟨_, _, rfl⟩ | ⟨g, cap, cur, _, _, _, _, _, _, rfl⟩ <;> simp
section
variable {P : Program} {f : Who} {N : Nat} {O ρ : Type} {m : Option O} {G : O → Option ρ} {R : ρ → Ending → World → Prop} {e : Env} {s : St} {k : List Item} {ops : Array Oper} {i d : Nat} {rest : List Nat} {o : Oper}
theorem clI {α : Type} {K : Kd α} {gf : FuncId} {te c ca cb b mc : Nat} {fn : Func} {cc : Code} {v : Value} {xs : List α} {x : α} {es : List Value} {ii : Int} {X I Y : Operand} {ts : Array TypeId} (hc : InsC P gf te K.n) (hO : OwF (Kd.sl te K) s [v] xs c) (hx : OwF K s es x ca) (hB : BlF s b te es cb)
    (h40 : Nat.ble 40 c = true) (h40a : Nat.ble 40 ca = true) (hcc : Nat.beq c ca = false) (hcb : Nat.beq cb c = false)
    (ho : ops[i]? = some o) (hd : o.dst = some d) (hN : Nat.blt d N = true) (hw : Region.wanted o (yv e ops) = true) (hop : o.op = .call { callee := .value (.func gf), args := #[X, I, Y], argTypes := ts }) (hg : P.funcs[gf]? = some fn) (hb : fn.body = some cc) (hn : (fn.name == "runtime.NumGoroutine") = false)
    (hX : ev e X = v) (hI : ev e I = .int .i64 ii) (hY : ev e Y = .slice (some ⟨b, 0, none⟩) 1 mc)
    (h : ∀ v' s', Stp [c, ca] s s' → OwF (Kd.sl te K) s' [v'] (xs.take ii.toNat ++ x :: xs.drop ii.toNat) c → TM P f N m G R (.inRegion ops rest :: k) (upd e d v') s'.w) :
    TM P f N (if 0 ≤ ii ∧ ii ≤ (xs.length : Int) ∧ xs.length + 1 ≤ Lim then m else none) G R (.inRegion ops (i :: rest) :: k) e s.w := by
  refine mg fun hgd => ?_
  obtain ⟨q, rfl⟩ := Int.eq_ofNat_of_zero_le hgd.1
  obtain ⟨os, ⟨v1, e1, cells, o1, o2, rfl, hR, hE⟩, hnd, hcol⟩ := hO
  obtain rfl : v = v1 := by simpa using e1
  obtain ⟨px, hxo, hxn, hxc⟩ := hx
  have h40 := Nat.le_of_ble_eq_true h40
  have h40a := Nat.le_of_ble_eq_true h40a
  have hne : c ≠ ca := fun h => by rw [h, Nat.beq_refl] at hcc; cases hcc
  have hne2 : cb ≠ c := fun h => by rw [h, Nat.beq_refl] at hcb; cases hcb
  have hn1 := List.nodup_append.1 hnd
  have hesl := K.rd_len (K.ow_rd hxo)
  show TM P f N ((some ()).bind fun _ => m) G R _ e s.w
  refine cl (Q := fun _ v' w' => (∃ os', RowAt w' te K.n v' (xs.length + 1) (cells.take (q * K.n) ++ es ++ cells.drop (q * K.n)) os' ∧ ∀ b ∈ os', b ∈ o1 ∨ s.w.heap.size ≤ b) ∧ Ky o1 s.w w') (vs := [v, .int .i64 (q : Int), .slice (some ⟨b, 0, none⟩) 1 mc]) ho hd hN hw hop hg hb hn (by simp [hX, hI, hY])
    (fun _ _ => hc xs.length q s.w v cells o1 b mc es hR hE.rd.one (by omega) hesl (K.rd_one (K.ow_rd hxo)) hB.1 (fun hm => hne2 (hB.2.symm.trans (hcol b (List.mem_append_left _ hm)))) hgd.2.2) ?_
  rintro _ v' w' _ ⟨⟨os', hR', hsub⟩, ky⟩
  obtain ⟨o2a, o2b, e2, hEa, hEb⟩ := hE.take q
  have hin : ∀ y, y ∈ o2 → y ∉ o1 := fun y hy hy1 => hn1.2.2 y hy1 y hy rfl
  have hpx : ∀ y, y ∈ px → y ∉ o1 := fun y hy hy1 => hne ((hcol y (List.mem_append_left _ hy1)).symm.trans (hxc y hy))
  have hEa' := hEa.frame (w' := w') fun y hy hl => ky.same y hl (hin y (by rw [e2]; exact List.mem_append_left _ hy))
  have hEb' := hEb.frame (w' := w') fun y hy hl => ky.same y hl (hin y (by rw [e2]; exact List.mem_append_right _ hy))
  have hxo' := K.ow_frame (w' := w') hxo fun y hy hl => ky.same y hl (hpx y hy)
  have hElx : ElsO K w' [x] es px := ⟨es, [], px, [], by simp, by simp, hxo', rfl, rfl⟩
  have hEls := (hEa'.append hElx).append hEb'
  have hlt2 : ∀ y, y ∈ o2 → y < s.w.heap.size := fun y hy => hE.lt y hy
  have hltx : ∀ y, y ∈ px → y < s.w.heap.size := fun y hy => K.ow_lt hxo y hy
  have hc2 : ∀ y, y ∈ o2 → s.g y = c := fun y hy => hcol y (List.mem_append_right _ hy)
  refine h v' ⟨w', fun y => if y < s.w.heap.size then (if s.g y = ca then c else s.g y) else c⟩ ⟨ky.os, ky.tape, ky.output, ky.size, fun y hy hl => ?_, fun y hy hm => ⟨?_, ky.same y hy fun hy1 => ?_⟩⟩ ⟨os' ++ (o2a ++ px ++ o2b), ⟨v', rfl, _, os', o2a ++ px ++ o2b, rfl, ?_, by simpa using hEls⟩, ?_, fun y hy => ?_⟩
  · have : s.g y ≠ ca := by omega
    simp [hy, this]
  · have : s.g y ≠ ca := fun h => by rw [h] at hm; simp [memb] at hm
    simp [hy, this]
  · rw [hcol y (List.mem_append_left _ hy1)] at hm; simp [memb] at hm
  · have : (xs.take ((q : Int)).toNat ++ x :: xs.drop ((q : Int)).toNat).length = xs.length + 1 := by simp; omega
    rw [this]; simpa using hR'
  · have hnd2 : (o2a ++ o2b).Nodup := by rw [← e2]; exact hn1.2.1
    have hab := List.nodup_append.1 hnd2
    refine List.nodup_append.2 ⟨hR'.nd, ?_, fun y hy z hz hyz => ?_⟩
    · refine List.nodup_append.2 ⟨List.nodup_append.2 ⟨hab.1, hxn, fun y hy z hz hyz => ?_⟩, hab.2.1, fun y hy z hz hyz => ?_⟩
      · subst hyz
        exact hne ((hc2 y (by rw [e2]; exact List.mem_append_left _ hy)).symm.trans (hxc y hz))
      · subst hyz
        rcases List.mem_append.1 hy with h1 | h1
        · exact hab.2.2 y h1 y hz rfl
        · exact hne ((hc2 y (by rw [e2]; exact List.mem_append_right _ hz)).symm.trans (hxc y h1))
    · subst hyz
      have hold : y < s.w.heap.size ∧ y ∉ o1 := by
        rcases List.mem_append.1 hz with h1 | h1
        · rcases List.mem_append.1 h1 with h1 | h1
          · have : y ∈ o2 := by rw [e2]; exact List.mem_append_left _ h1
            exact ⟨hlt2 y this, hin y this⟩
          · exact ⟨hltx y h1, hpx y h1⟩
        · have : y ∈ o2 := by rw [e2]; exact List.mem_append_right _ h1
          exact ⟨hlt2 y this, hin y this⟩
      rcases hsub y hy with h1 | h1
      · exact hold.2 h1
      · omega
  · show (if y < s.w.heap.size then (if s.g y = ca then c else s.g y) else c) = c
    rcases List.mem_append.1 hy with h1 | h1
    · rcases hsub y h1 with h2 | h2
      · rw [hcol y (List.mem_append_left _ h2)]; simp
      · have : ¬ y < s.w.heap.size := by omega
        simp [this]
    · rcases List.mem_append.1 h1 with h1 | h1
      · rcases List.mem_append.1 h1 with h1 | h1
        · rw [hc2 y (by rw [e2]; exact List.mem_append_left _ h1)]; simp
        · rw [hxc y h1]; simp
      · rw [hc2 y (by rw [e2]; exact List.mem_append_right _ h1)]; simp
theorem ltB (c : Nat) {t te l n : Nat} {z : Value} {parts : Array (Nat × Operand)} {cells : List Value} (hu : P.underlying t = some (.slice te)) (hs : (P.info? te).map (·.size) = some n) (hz : (P.info? te).bind (·.zero) = some z)
    (ho : ops[i]? = some o) (hd : o.dst = some d) (hN : Nat.blt d N = true) (hw : Region.wanted o (yv e ops) = true) (hop : o.op = .buildSlice t l parts) (hln : Nat.ble (l * n) 16777216 = true) (hpos : Nat.ble 1 (l * n) = true)
    (hzn : z.cells.toList.length = n) (hfill : lfill (fun i => some (i * n, n)) (List.replicate l z.cells.toList).flatten (parts.toList.map fun (i, x) => (i, ev e x)) = some cells)
    (h : ∀ b s', Stp [] s s' → BlF s' b te cells c → TM P f N m G R (.inRegion ops rest :: k) (upd e d (.slice (some ⟨b, 0, none⟩) l l)) s'.w) :
    TM P f N m G R (.inRegion ops (i :: rest) :: k) e s.w := by
  obtain ⟨s', hs', p, nn⟩ := s.made (.cells cells.toArray te) c
  refine vl (w' := s'.w) ho hd hN hw (by rw [hs']; exact lit_run hu hs hz hln hpos hzn hfill hop) (h _ s' p ⟨?_, nn.new _ (Nat.le_refl _)⟩)
  rw [hs']; exact heap_alloc_new s.w _
end
end Go.Proofs.YtlpbggnpiogioaaGreat.V
set_option linter.unusedVariables false
set_option linter.unusedSimpArgs false
namespace Go.Proofs.YtlpbggnpiogioaaGreat.V
open Go
theorem takeW {α : Type} [Inhabited α] {K : Kd α} {te : Nat} {s : St} {v : Value} {xs : List α} {c : Nat} {ii : Int} {ad : Addr} {es : List Value} {C : List Nat} (a c2 : Nat)
    (hO : OwF (Kd.sl te K) s [v] xs c) (h0 : 0 ≤ ii) (h1 : ii < xs.length) (hA : IxA v K.n ii ad) (hC : CeF s ad es C) (hel : Nat.beq es.length K.n = true) (h40 : Nat.ble 40 c = true) (hcol : (!memb [a, c2] c && !Nat.beq a c2) = true) :
    ∃ s' : St, s.w = s'.w ∧ Stp [c] s s' ∧ OwF K s' es (at_ xs ii) a ∧ HoG te K s' v xs ii c c2 ∧ CeF s' ad es [c] := by
  have h40' := Nat.le_of_ble_eq_true h40
  have hel' := Nat.eq_of_beq_eq_true hel
  simp only [Bool.and_eq_true, Bool.not_eq_true', memb, Bool.or_eq_false_iff] at hcol
  obtain ⟨⟨hac, hc2c, _⟩, hac2⟩ := hcol
  obtain ⟨os, ⟨v1, e1, cells, o1, o2, rfl, hR, hE⟩, hnd, hcol⟩ := hO
  obtain rfl : v = v1 := by simpa using e1
  obtain ⟨Aa, l, cap, hv, rfl⟩ := hA
  have hi : ii.toNat < xs.length := by omega
  obtain ⟨hl, hR2⟩ := hR
  rcases hR2 with ⟨h2, _⟩ | ⟨g, cap', cur, h2, hg, hlc, hcm', hsz, htk, rfl⟩
  · rw [h2] at hv; cases hv
  rw [h2] at hv
  simp only [Value.slice.injEq, Option.some.injEq] at hv
  obtain ⟨rfl, rfl, rfl⟩ := hv
  obtain ⟨p1, pe, p3, rfl, hE1, hK, hE3⟩ := hE.split3 ii.toNat hi
  have hat := at_eq xs ii hi
  have hmul : (ii.toNat + 1) * K.n ≤ xs.length * K.n := Nat.mul_le_mul_right _ hi
  rw [Nat.add_mul, Nat.one_mul] at hmul
  have hcl : cells.length = xs.length * K.n := hl
  have hchunk : (cells.drop (ii.toNat * K.n)).take K.n = es := by
    apply List.ext_getElem?
    intro j
    by_cases hj : j < K.n
    · have hcell := hC.2 j es[j] (List.getElem?_eq_getElem (by omega))
      rw [Addr.add_add', Addr.add_mid, Nat.zero_add] at hcell
      have hw2 : s.w.cell? ⟨g, ii.toNat * K.n + j, none⟩ = cur[ii.toNat * K.n + j]? := hg.cell _
      rw [hw2, ← Array.getElem?_toList] at hcell
      rw [List.getElem?_take, if_pos hj, List.getElem?_drop, ← htk, List.getElem?_take, if_pos (by omega), hcell, List.getElem?_eq_getElem (by omega)]
    · rw [List.getElem?_eq_none (by simp; omega), List.getElem?_eq_none (by omega)]
  rw [hchunk, ← hat] at hK
  have hcnt : ∀ b, ([g] ++ (p1 ++ (pe ++ p3))).count b ≤ 1 := fun b => List.nodup_iff_count.1 hnd b
  simp only [List.count_append] at hcnt
  have cm : ∀ {b : Nat} {l : List Nat}, b ∈ l → 1 ≤ l.count b := fun h => List.count_pos_iff.2 h
  have hg1 : ([g] : List Nat).count g = 1 := by simp
  have hcA : ∀ b, b ∈ pe ∨ b ∈ p1 ++ p3 → s.g b = c := fun b hb => hcol b (by
    simp at hb ⊢
    rcases hb with hb | hb | hb <;> simp [hb])
  let col : Nat → Nat := fun b => open Classical in if b ∈ pe then a else if b ∈ p1 ++ p3 then c2 else s.g b
  have colo : ∀ b, s.g b ≠ c → col b = s.g b := fun b hb => by
    have h1 : b ∉ pe := fun h => hb (hcA b (.inl h))
    have h2 : b ∉ p1 ++ p3 := fun h => hb (hcA b (.inr h))
    simp only [col, if_neg h1, if_neg h2]
  have colg : col g = c := by
    have hh := hcnt g
    rw [hg1] at hh
    have h1 : g ∉ pe := fun h => by have := cm h; omega
    have h2 : g ∉ p1 ++ p3 := fun h => by
      have := cm h
      simp only [List.count_append] at this
      omega
    simp only [col, if_neg h1, if_neg h2]
    exact hcol g (by simp)
  have coll : ∀ b ∈ pe, col b = a := fun b hb => by simp only [col, if_pos hb]
  have colp : ∀ b, b ∈ p1 ++ p3 → col b = c2 := fun b hb => by
    have h0 := cm hb
    simp only [List.count_append] at h0
    have h1 : b ∉ pe := fun h => by have := cm h; have := hcnt b; omega
    simp only [col, if_neg h1, if_pos hb]
  refine ⟨⟨s.w, col⟩, rfl, ⟨rfl, rfl, rfl, Nat.le_refl _, fun b hb hlo => colo b (by omega), fun b hb hm => ⟨colo b fun h => by rw [h] at hm; simp [memb] at hm, rfl⟩⟩, ⟨pe, hK, ?_, coll⟩, ?_, ?_, ?_⟩
  · rw [List.nodup_iff_count]; intro b; have := hcnt b; omega
  · refine ⟨g, cap', cur, p1, p3, h2, hg, hlc, hcm', hsz, colg, hi, ?_, fun b hb => colp b hb, ?_, ?_⟩
    · rw [List.nodup_iff_count]; intro b; have := hcnt b; simp only [List.count_append]; omega
    · have e : cur.toList.take (ii.toNat * K.n) = cells.take (ii.toNat * K.n) := by rw [← htk, List.take_take]; congr 1; omega
      rw [e]; exact hE1
    · rw [htk]; exact hE3
  · rw [add_block]
    show memb [c] (col g) = true
    rw [colg]; simp [memb]
  · exact hC.2
theorem putW {α : Type} [Inhabited α] {K : Kd α} {te : TypeId} {s : St} {v : Value} {es : List Value} {xs : List α} {c c2 d' : Nat} {ii : Int} {ad : Addr} {x' : α}
    (hG : HoG te K s v xs ii c c2) (hA : IxA v K.n ii ad) (hC : CeF s ad es [c]) (hX : OwF K s es x' d') (hcc : (!Nat.beq c c2 && !Nat.beq c d' && !Nat.beq c2 d' && Nat.ble 40 c2 && Nat.ble 40 d') = true) :
    ∃ s' : St, s.w = s'.w ∧ Stp [c, c2, d'] s s' ∧ OwF (Kd.sl te K) s' [v] (xs.set ii.toNat x') c := by
  simp only [Bool.and_eq_true, Bool.not_eq_true'] at hcc
  obtain ⟨⟨⟨⟨hcc2, hcd⟩, hc2d⟩, h40⟩, h40'⟩ := hcc
  have ne : ∀ {x y : Nat}, Nat.beq x y = false → x ≠ y := fun h e => by subst e; rw [Nat.beq_refl] at h; cases h
  have hcc2 := ne hcc2
  have hcd := ne hcd
  have hc2d := ne hc2d
  have h40 := Nat.le_of_ble_eq_true h40
  have h40' := Nat.le_of_ble_eq_true h40'
  obtain ⟨g, cap, cur, p1, p3, rfl, hg, hlc, hcm, hsz, hgc, hi, hnd, hcol, hE1, hE3⟩ := hG
  obtain ⟨ox, hxo, hxn, hxc⟩ := hX
  obtain ⟨Aa, l, cap2, hv, rfl⟩ := hA
  simp only [Value.slice.injEq, Option.some.injEq] at hv
  obtain ⟨rfl, rfl, rfl⟩ := hv
  have hel' : es.length = K.n := K.rd_len (K.ow_rd hxo)
  have hmul : (ii.toNat + 1) * K.n ≤ xs.length * K.n := Nat.mul_le_mul_right _ hi
  have hcapm : xs.length * K.n ≤ cap * K.n := Nat.mul_le_mul_right _ hlc
  rw [Nat.add_mul, Nat.one_mul] at hmul
  have hlen : cur.toList.length = cap * K.n := by rw [Array.length_toList, hsz]
  have hchunk : (cur.toList.drop (ii.toNat * K.n)).take K.n = es := by
    apply List.ext_getElem?
    intro j
    by_cases hj : j < K.n
    · have hcell := hC.2 j es[j] (List.getElem?_eq_getElem (by omega))
      rw [Addr.add_add', Addr.add_mid, Nat.zero_add] at hcell
      have hw2 : s.w.cell? ⟨g, ii.toNat * K.n + j, none⟩ = cur[ii.toNat * K.n + j]? := hg.cell _
      rw [hw2, ← Array.getElem?_toList] at hcell
      rw [List.getElem?_take, if_pos hj, List.getElem?_drop, hcell, List.getElem?_eq_getElem (by omega)]
    · rw [List.getElem?_eq_none (by simp; omega), List.getElem?_eq_none (by omega)]
  have hpg : ∀ b ∈ p1 ++ p3, b ≠ g := fun b hb e => by subst e; exact hcc2 (hgc.symm.trans (hcol _ hb))
  have hxg : ∀ b ∈ ox, b ≠ g := fun b hb e => by subst e; exact hcd (hgc.symm.trans (hxc _ hb))
  have hxp : ∀ b ∈ ox, b ∉ p1 ++ p3 := fun b hb h => hc2d ((hcol b h).symm.trans (hxc b hb))
  have hj := ElsO.join3 hi hE1 hxo hE3
  have hcells : cur.toList.take (ii.toNat * K.n) ++ (es ++ (cur.toList.take (xs.length * K.n)).drop ((ii.toNat + 1) * K.n)) = cur.toList.take (xs.length * K.n) := by
    have e3 : (cur.toList.take (xs.length * K.n)).take (ii.toNat * K.n) = cur.toList.take (ii.toNat * K.n) := by rw [List.take_take]; congr 1; omega
    have e4 : ((cur.toList.take (xs.length * K.n)).drop (ii.toNat * K.n)).take K.n = es := by rw [← hchunk, List.drop_take, List.take_take]; congr 1; omega
    rw [← e3, ← e4, Nat.add_mul, Nat.one_mul, ← List.drop_drop, List.take_append_drop, List.take_append_drop]
  rw [hcells] at hj
  refine ⟨⟨s.w, fun b => if s.g b = c2 ∨ s.g b = d' then c else s.g b⟩, rfl, ⟨rfl, rfl, rfl, Nat.le_refl _, fun b _ hlo => if_neg (fun h => by rcases h with h | h <;> omega), fun b hb hm => ⟨?_, rfl⟩⟩, [g] ++ (p1 ++ (ox ++ p3)), ⟨_, rfl, _, [g], _, rfl, ⟨?_, .inr ⟨g, cap, cur, by rw [List.length_set], hg, by simpa using hlc, hcm, hsz, by rw [List.length_set], rfl⟩⟩, hj⟩, ?_, fun b hb => ?_⟩
  · simp only [memb, Bool.or_eq_false_iff] at hm
    obtain ⟨m1, m2, m3, _⟩ := hm
    exact if_neg (fun h => by rcases h with h | h <;> rw [h] at m2 m3 <;> simp at m2 m3)
  · rw [List.length_set, List.length_take]; omega
  · rw [List.nodup_iff_count]; intro b
    have h1 := List.nodup_iff_count.1 hnd b
    have h2 := List.nodup_iff_count.1 hxn b
    simp only [List.count_append] at h1 ⊢
    by_cases hb : b = g
    · subst hb
      have k1 : p1.count b = 0 := List.count_eq_zero.2 fun h => hpg b (List.mem_append_left _ h) rfl
      have k3 : p3.count b = 0 := List.count_eq_zero.2 fun h => hpg b (List.mem_append_right _ h) rfl
      have k2 : ox.count b = 0 := List.count_eq_zero.2 fun h => hxg b h rfl
      have k4 : ([b] : List Nat).count b = 1 := by simp
      omega
    · have k4 : ([g] : List Nat).count b = 0 := List.count_eq_zero.2 fun h => hb (List.mem_singleton.1 h)
      rcases Nat.eq_zero_or_pos (ox.count b) with h | h
      · omega
      · have := hxp b (List.count_pos_iff.1 h)
        have k1 : p1.count b = 0 := List.count_eq_zero.2 fun h => this (List.mem_append_left _ h)
        have k3 : p3.count b = 0 := List.count_eq_zero.2 fun h => this (List.mem_append_right _ h)
        omega
  · show (if s.g b = c2 ∨ s.g b = d' then c else s.g b) = c
    simp only [List.mem_append, List.mem_singleton] at hb
    rcases hb with hb | hb | hb | hb
    · subst hb; rw [hgc]; split <;> rfl
    · rw [if_pos (.inl (hcol b (List.mem_append_left _ hb)))]
    · rw [if_pos (.inr (hxc b hb))]
    · rw [if_pos (.inl (hcol b (List.mem_append_right _ hb)))]
section
variable {P : Program} {f : Who} {N : Nat} {O ρ : Type} {m : Option O} {G : O → Option ρ} {R : ρ → Ending → World → Prop} {e : Env} {s : St} {k : List Item} {ops : Array Oper} {i d : Nat} {rest : List Nat} {o : Oper}
theorem stE {α : Type} {K : Kd α} {t te : TypeId} {x y : Operand} {v u : Value} {es : List Value} {xs : List α} {c c2 q : Nat} {ii : Int} {ad : Addr}
    (hG : HoG te K s v xs ii c c2) (hA : IxA v K.n ii ad) (hC : CeF s ad es [c]) (hu : u.oneCell' = true) (hel : Nat.beq es.length K.n = true) (hq : Nat.blt q K.n = true) (hcc : Nat.beq c c2 = false) (hs : (P.info? t).map (·.size) = some 1)
    (ho : ops[i]? = some o) (hd : o.dst = none) (hw : Region.wanted o (yv e ops) = true) (hop : o.op = .store t x y) (hx : ev e x = .pointer (some (ad.add q))) (hy : ev e y = u)
    (h : ∀ s', Stp [c] s s' → HoG te K s' v xs ii c c2 → CeF s' ad (es.set q u) [c] → TM P f N m G R (.inRegion ops rest :: k) e s'.w) : TM P f N m G R (.inRegion ops (i :: rest) :: k) e s.w := by
  have ne : ∀ {x y : Nat}, Nat.beq x y = false → x ≠ y := fun h e => by subst e; rw [Nat.beq_refl] at h; cases h
  have hcc2 := ne hcc
  have hel' := Nat.eq_of_beq_eq_true hel
  have hq' : q < K.n := Nat.le_of_ble_eq_true hq
  obtain ⟨g, cap, cur, p1, p3, rfl, hg, hlc, hcm, hsz, hgc, hi, hnd, hcol, hE1, hE3⟩ := hG
  obtain ⟨Aa, l, cap2, hv, rfl⟩ := hA
  simp only [Value.slice.injEq, Option.some.injEq] at hv
  obtain ⟨rfl, rfl, rfl⟩ := hv
  have hmul : (ii.toNat + 1) * K.n ≤ xs.length * K.n := Nat.mul_le_mul_right _ hi
  have hcapm : xs.length * K.n ≤ cap * K.n := Nat.mul_le_mul_right _ hlc
  have hmul' := hmul
  rw [Nat.add_mul, Nat.one_mul] at hmul
  have had : ((⟨g, 0, none⟩ : Addr).add (ii.toNat * K.n)).add q = ⟨g, ii.toNat * K.n + q, none⟩ := by rw [Addr.add_add', Addr.add_mid, Nat.zero_add]
  rw [had] at hx
  have hlen : cur.toList.length = cap * K.n := by rw [Array.length_toList, hsz]
  refine stG (vs := [u]) (n := 1) (a := ii.toNat * K.n + q) hg (by simpa using hu) rfl (by rw [hsz]; omega) hs ho hd hw hop hx (by rw [hy]; exact oc hu) (fun w' hw' hgn hoth => ?_)
  have hpg : ∀ b ∈ p1 ++ p3, b ≠ g := fun b hb e => by subst e; exact hcc2 (hgc.symm.trans (hcol _ hb))
  have hget := spl_get cur.toList [u] (ii.toNat * K.n + q) 1 rfl (by rw [hlen]; omega)
  refine h ⟨w', s.g⟩ ⟨by rw [hw']; rfl, by rw [hw']; rfl, by rw [hw']; rfl, by rw [hw']; simp, fun _ _ _ => rfl, fun b hb hm => ⟨rfl, hoth b fun e => by rw [e, hgc] at hm; simp [memb] at hm⟩⟩
    ⟨g, cap, _, p1, p3, rfl, hgn, hlc, hcm, ?_, hgc, hi, hnd, hcol, ?_, ?_⟩ ⟨?_, fun j u' hj => ?_⟩
  · simp only [List.size_toArray, List.length_append, List.length_take, List.length_drop, List.length_cons, List.length_nil, hlen]
    omega
  · have e : (cur.toList.take (ii.toNat * K.n + q) ++ [u] ++ cur.toList.drop (ii.toNat * K.n + q + [u].length)).take (ii.toNat * K.n) = cur.toList.take (ii.toNat * K.n) := by
      apply List.ext_getElem?
      intro m
      rw [List.getElem?_take, List.getElem?_take]
      split
      · rw [hget, if_pos (by omega)]
      · rfl
    rw [List.toList_toArray, e]
    exact hE1.frame fun b hb _ => hoth b (hpg b (List.mem_append_left _ hb))
  · have e : ((cur.toList.take (ii.toNat * K.n + q) ++ [u] ++ cur.toList.drop (ii.toNat * K.n + q + [u].length)).take (xs.length * K.n)).drop ((ii.toNat + 1) * K.n) = (cur.toList.take (xs.length * K.n)).drop ((ii.toNat + 1) * K.n) := by
      apply List.ext_getElem?
      intro m
      rw [List.getElem?_drop, List.getElem?_drop, List.getElem?_take, List.getElem?_take]
      split
      · rw [hget, if_neg (by rw [Nat.add_mul]; omega), if_neg (by rw [Nat.add_mul]; omega)]
      · rfl
    rw [List.toList_toArray, e]
    exact hE3.frame fun b hb _ => hoth b (hpg b (List.mem_append_right _ hb))
  · rw [add_block]; show memb [c] (s.g g) = true; rw [hgc]; simp [memb]
  · rw [Addr.add_add', Addr.add_mid, Nat.zero_add]
    rw [show w'.cell? ⟨g, ii.toNat * K.n + j, none⟩ = _ from hgn.cell _, ← Array.getElem?_toList, List.toList_toArray, hget]
    have hjl : j < es.length := by
      rw [← List.length_set (as := es) (i := q) (a := u)]
      exact (List.getElem?_eq_some_iff.1 hj).1
    rw [List.getElem?_set] at hj
    have hold : ∀ x, es[j]? = some x → cur.toList[ii.toNat * K.n + j]? = some x := fun x hx => by
      have hcell := hC.2 j x hx
      rw [Addr.add_add', Addr.add_mid, Nat.zero_add] at hcell
      have hw2 : s.w.cell? ⟨g, ii.toNat * K.n + j, none⟩ = cur[ii.toNat * K.n + j]? := hg.cell _
      rw [hw2, ← Array.getElem?_toList] at hcell
      exact hcell
    by_cases hqj : q = j
    · subst hqj
      rw [if_neg (by omega), if_pos (by omega), show ii.toNat * K.n + q - (ii.toNat * K.n + q) = 0 by omega]
      simpa [hjl] using hj
    · rw [if_neg hqj] at hj
      rcases Nat.lt_or_ge j q with h1 | h1
      · rw [if_pos (by omega)]; exact hold _ hj
      · rw [if_neg (by omega), if_neg (by omega)]; exact hold _ hj
end
noncomputable def vwL (D : List Nat) (M : List (Nat × Nat)) (cR : Nat) (s : St) : St := ⟨s.w, fun b => if s.g b = cR then 897 else phi D M (s.g b)⟩
noncomputable def bkL (M : List (Nat × Nat)) (cn cR : Nat) (s s' : St) : St := ⟨s'.w, fun b => open Classical in if b < s.w.heap.size ∧ s.g b ≠ cR then s.g b else if s'.g b = 897 then cR else lkr cn M (s'.g b)⟩
def okL (D : List Nat) (M : List (Nat × Nat)) (cR : Nat) : Bool := okM D M && Nat.ble 40 cR && !memb D cR && !memb (M.map (·.1)) cR
section
variable {D C : List Nat} {M : List (Nat × Nat)} {s s' : St} {c k cn cR : Nat} {α : Type} {K : Kd α} {te : TypeId}
theorem okL_out (h : okL D M cR = true) : okM D M = true ∧ 40 ≤ cR ∧ memb D cR = false ∧ ∀ p ∈ M, p.1 ≠ cR := by
 simp only [okL, Bool.and_eq_true, Bool.not_eq_true'] at h
 obtain ⟨⟨⟨h1, h2⟩, h3⟩, h4⟩ := h
 exact ⟨h1, Nat.le_of_ble_eq_true h2, h3, fun p hp e => by
  have : cR ∈ M.map (·.1) := List.mem_map.2 ⟨p, hp, e⟩
  rw [memb_iff.2 this] at h4; cases h4⟩
theorem OwF.vwL {cs : List Value} {x : α} (hf : OwF K s cs x cR) : OwF K (vwL D M cR s) cs x 897 := by
 obtain ⟨os, ho, hn, hc⟩ := hf
 exact ⟨os, ho, hn, fun b hb => by show (if s.g b = cR then 897 else phi D M (s.g b)) = 897; rw [if_pos (hc b hb)]⟩
theorem RdF.vwL {cs : List Value} {x : α} (hf : RdF K s cs x C) (h : okL D M cR = true) (hs : V.sub C D = true) : RdF K (vwL D M cR s) cs x [0] := K.rd_mono hf fun b hb _ => by
 show memb [0] (if s.g b = cR then 897 else phi D M (s.g b)) = true
 rw [if_neg (fun e => by rw [e] at hb; have h1 := sub_out hs hb; rw [(okL_out h).2.2.1] at h1; cases h1)]
 exact vw_0 hs hb
theorem BlF.vwL {b : Nat} {t : TypeId} {cs : List Value} (hf : BlF s b t cs c) (h : okL D M cR = true) (hm : (c, k) ∈ M) : BlF (vwL D M cR s) b t cs k := ⟨hf.1, by
 show (if s.g b = cR then 897 else phi D M (s.g b)) = k
 rw [hf.2, if_neg ((okL_out h).2.2.2 _ hm)]; exact vw_phi (okL_out h).1 hm⟩
theorem bkL_old (h : okL D M cR = true) (p : Kp (V.vwL D M cR s) s') {b : Nat} (hb : b < s.w.heap.size) (hr : s.g b ≠ cR) : s'.g b = phi D M (s.g b) := by
 have e : (V.vwL D M cR s).g b = phi D M (s.g b) := if_neg hr
 have := p.col b hb (by rw [e]; exact phi_lt (okL_out h).1 _)
 rw [this, e]
theorem bkL_g (h : okL D M cR = true) (hm : (c, k) ∈ M) (p : Kp (V.vwL D M cR s) s') {b : Nat} (hb : s'.g b = k) : (bkL M cn cR s s').g b = c := by
 have h3 := okM_mem (okL_out h).1 hm
 show (if b < s.w.heap.size ∧ s.g b ≠ cR then s.g b else if s'.g b = 897 then cR else lkr cn M (s'.g b)) = c
 split
 · rename_i hl
   have h2 := bkL_old h p hl.1 hl.2
   rw [hb] at h2
   unfold phi at h2
   split at h2
   · omega
   · exact (lkp_mem (okL_out h).1 hm).2.1 _ h2.symm
 · rw [hb, if_neg (by omega)]; exact (lkp_mem (okL_out h).1 hm).2.2 cn
theorem bkL_st (h : okL D M cR = true) (p : Kp (V.vwL D M cR s) s') : Stp (cR :: M.map (·.1)) s (bkL M cn cR s s') := by
  have h40 := (okL_out h).2.1
  refine ⟨p.os, p.tape, p.output, p.size, fun b hb hl => if_pos ⟨hb, by omega⟩, fun b hb hm => ?_⟩
  simp only [memb, Bool.or_eq_false_iff] at hm
  have hr : s.g b ≠ cR := fun e => by rw [e] at hm; simp at hm
  refine ⟨if_pos ⟨hb, hr⟩, p.same b hb ?_⟩
  show (if s.g b = cR then 897 else phi D M (s.g b)) < 2
  rw [if_neg hr]
  unfold phi
  split
  · omega
  · have : ∀ (M : List (Nat × Nat)) (c : Nat), memb (M.map (·.1)) c = false → lkp M c = 1 := by
      intro M
      induction M with
      | nil => intro c _; rfl
      | cons q M ih =>
        intro c hc
        simp only [List.map_cons, memb, Bool.or_eq_false_iff] at hc
        unfold lkp
        rw [if_neg (by rw [hc.1]; decide)]
        exact ih c hc.2
    rw [this _ _ hm.2]; omega
theorem OwF.bkL {cs : List Value} {x : α} (hf : OwF K s' cs x 897) (h : okL D M cR = true) (p : Kp (V.vwL D M cR s) s') : OwF K (V.bkL M cn cR s s') cs x cR := by
 obtain ⟨os, ho, hn, hc⟩ := hf
 refine ⟨os, ho, hn, fun b hb => ?_⟩
 show (if b < s.w.heap.size ∧ s.g b ≠ cR then s.g b else if s'.g b = 897 then cR else lkr cn M (s'.g b)) = cR
 split
 · rename_i hl
   have h2 := bkL_old h p hl.1 hl.2
   rw [hc b hb] at h2
   have := phi_lt (okL_out h).1 (s.g b)
   omega
 · rw [if_pos (hc b hb)]
theorem OwF.bkLn {cs : List Value} {x : α} (hf : OwF K s' cs x 898) (h : okL D M cR = true) (p : Kp (V.vwL D M cR s) s') : OwF K (V.bkL M cn cR s s') cs x cn := by
 obtain ⟨os, ho, hn, hc⟩ := hf
 refine ⟨os, ho, hn, fun b hb => ?_⟩
 show (if b < s.w.heap.size ∧ s.g b ≠ cR then s.g b else if s'.g b = 897 then cR else lkr cn M (s'.g b)) = cn
 split
 · rename_i hl
   have h2 := bkL_old h p hl.1 hl.2
   rw [hc b hb] at h2
   have := phi_lt (okL_out h).1 (s.g b)
   omega
 · rw [hc b hb, if_neg (by decide)]; exact lkr_big (okL_out h).1 (.inr (by decide))
theorem BlF.bkL {b : Nat} {t : TypeId} {cs : List Value} (hf : BlF s' b t cs k) (h : okL D M cR = true) (hm : (c, k) ∈ M) (p : Kp (V.vwL D M cR s) s') : BlF (V.bkL M cn cR s s') b t cs c := ⟨hf.1, bkL_g h hm p hf.2⟩
end
section
variable {P : Program} {f : Who} {N : Nat} {O ρ : Type} {G : O → Option ρ} {R : ρ → Ending → World → Prop} {k : List Item} {e : Env} {ops : Array Oper}
theorem clV {α : Type} {x : Option α} {km : α → Option O} {i d : Nat} {rest : List Nat} {o : Oper} {g : FuncId} {fn : Func} {c : Code} {args : Array Operand} {ts : Array TypeId} {vs : List Value} {s : St} {V : α → Value} (cc : Nat) (t0 : E5 (ops[i]?) (some o) (o.dst) (some d) (Nat.blt d N) (true) (Region.wanted o (yv e ops)) (true) (o.op) (.call { callee := .value (.func g), args := args, argTypes := ts })) (hg : P.funcs[g]? = some fn) (t6 : E3 (fn.body) (some c) ((fn.name == "runtime.NumGoroutine")) (false) (args.toList.map (ev e)) (vs)) (hc : ∀ a, x = some a → Calls P g vs.toArray s.w fun en w' => ∃ v, en = .returned v ∧ v = V a ∧ Ky [] s.w w')
  (h : ∀ a s', Stp [] s s' → Nw s s' cc → TM P f N (km a) G R (.inRegion ops rest :: k) (upd e d (V a)) s'.w) : TM P f N (x.bind km) G R (.inRegion ops (i :: rest) :: k) e s.w :=
 cl (e5_ t0).1 (e5_ t0).2.1 (e5_ t0).2.2.1 (e5_ t0).2.2.2.1 (e5_ t0).2.2.2.2 hg (e3_ t6).1 (e3_ t6).2.1 (e3_ t6).2.2 hc fun a v w' _ hq => by
  obtain ⟨rfl, ky⟩ := hq
  obtain ⟨s', rfl, p, n⟩ := nwx s w' cc ky
  exact h a s' p n
theorem clO {α : Type} {x : Option α} {km : α → Option O} {i d : Nat} {rest : List Nat} {o : Oper} {g : FuncId} {fn : Func} {c : Code} {args : Array Operand} {ts : Array TypeId} {vs : List Value} {s : St} {β : Type} {K : Kd β} {X : α → β} (cc : Nat) (t0 : E5 (ops[i]?) (some o) (o.dst) (some d) (Nat.blt d N) (true) (Region.wanted o (yv e ops)) (true) (o.op) (.call { callee := .value (.func g), args := args, argTypes := ts })) (hg : P.funcs[g]? = some fn) (t6 : E3 (fn.body) (some c) ((fn.name == "runtime.NumGoroutine")) (false) (args.toList.map (ev e)) (vs)) (hc : ∀ a, x = some a → Calls P g vs.toArray s.w fun en w' => ∃ v, en = .returned v ∧ FO K s.w w' [v] (X a) ∧ Ky [] s.w w')
  (h : ∀ a v s', Stp [] s s' → OwF K s' [v] (X a) cc → TM P f N (km a) G R (.inRegion ops rest :: k) (upd e d v) s'.w) : TM P f N (x.bind km) G R (.inRegion ops (i :: rest) :: k) e s.w :=
 cl (e5_ t0).1 (e5_ t0).2.1 (e5_ t0).2.2.1 (e5_ t0).2.2.2.1 (e5_ t0).2.2.2.2 hg (e3_ t6).1 (e3_ t6).2.1 (e3_ t6).2.2 hc fun a v w' _ hq => by
  obtain ⟨f, ky⟩ := hq
  obtain ⟨s', rfl, p, n⟩ := nwx s w' cc ky
  exact h a v s' p (f.c n)
end
end Go.Proofs.YtlpbggnpiogioaaGreat.V
