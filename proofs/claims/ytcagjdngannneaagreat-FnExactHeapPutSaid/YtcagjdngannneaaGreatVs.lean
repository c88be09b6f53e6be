
import Derived.Test.YtcagjdngannneaaGreatVr
set_option linter.unusedVariables false
set_option linter.unusedSimpArgs false
namespace Go.Proofs.YtcagjdngannneaaGreat.V
open Go
def LensG {α β : Type} (K : Kd α) (A : Kd β) (q : Nat) (get : α → β) (set : α → β → α) : Prop :=
  ∀ w es x os, K.ow w es x os → ∃ e1 e2 e3 o1 o2 o3, es = e1 ++ (e2 ++ e3) ∧ e1.length = q ∧ os = o1 ++ (o2 ++ o3) ∧ A.ow w e2 (get x) o2 ∧
    ∀ w' y e2' o2', A.ow w' e2' y o2' → Agr w w' (· ∈ o1 ++ o3) → K.ow w' (e1 ++ (e2' ++ e3)) (set x y) (o1 ++ (o2' ++ o3))
theorem lg_id {α : Type} {K : Kd α} : LensG K K 0 (fun x => x) (fun _ y => y) := fun w es x os h =>
  ⟨[], es, [], [], os, [], by simp, rfl, by simp, h, fun w' y e2' o2' hy _ => by simpa using hy⟩
section
variable {P : Program} {f : FuncId} {N : Nat} {O ρ : Type} {m : Option O} {G : O → Option ρ} {R : ρ → Ending → World → Prop} {e : Env} {s : St} {k : List Item} {ops : Array Oper} {i d : Nat} {rest : List Nat} {o : Oper}
theorem sog {α β : Type} [Inhabited α] {K : Kd α} {A : Kd β} {q : Nat} {get : α → β} {set : α → β → α} {t te : TypeId} {x y : Operand} {v : Value} {vs : List Value} {xs : List α} {c d' : Nat} {ii : Int} {ad : Addr} {x' : β} (L : LensG K A q get set)
    (hO : OwF (Kd.sl te K) s [v] xs c) (hA : IxA v K.n ii ad) (h0 : 0 ≤ ii) (h1 : ii < xs.length) (hX : OwF A s vs x' d') (hcd : Nat.beq c d' = false) (h10 : Nat.ble 40 d' = true) (hs : (P.info? t).map (·.size) = some A.n)
    (ho : ops[i]? = some o) (hd : o.dst = none) (hw : Region.wanted o (yv e ops) = true) (hop : o.op = .store t x y) (hx : ev e x = .pointer (some (ad.add q))) (hy : (ev e y).cells = vs.toArray)
    (h : ∀ s', Stp [c, d'] s s' → OwF (Kd.sl te K) s' [v] (xs.set ii.toNat (set (at_ xs ii) x')) c → TM P f N m G R (.inRegion ops rest :: k) e s'.w) : TM P f N m G R (.inRegion ops (i :: rest) :: k) e s.w := by
  have hcd' : c ≠ d' := fun h => by subst h; simp at hcd
  obtain ⟨os, ⟨v1, e1, cells, o1, o2, rfl, hR, hE⟩, hnd, hcol⟩ := hO
  obtain rfl : v = v1 := by simpa using e1
  obtain ⟨ox, hxo, hxn, hxc⟩ := hX
  have hvl : vs.length = A.n := A.rd_len (A.ow_rd hxo)
  have hv1 : ∀ u ∈ vs, u.oneCell' = true := A.rd_one (A.ow_rd hxo)
  obtain ⟨Aa, l, cap, hv, rfl⟩ := hA
  have hi : ii.toNat < xs.length := by omega
  obtain ⟨hl, hR2⟩ := hR
  rcases hR2 with ⟨h2, _⟩ | ⟨g, cap', cur, h2, hg, hlc, hcm, hsz, htk, rfl⟩
  · rw [h2] at hv; cases hv
  · rw [h2] at hv
    simp only [Value.slice.injEq, Option.some.injEq] at hv
    obtain ⟨rfl, rfl, rfl⟩ := hv
    obtain ⟨p1, p2, p3, rfl, hK, hset⟩ := hE.at_ ii.toNat hi
    rw [at_eq xs ii hi] at h
    obtain ⟨r1, r2, r3, q1, q2, q3, hes, hq, rfl, hg2, hput⟩ := L _ _ _ _ hK
    have hr2 : r2.length = A.n := A.rd_len (A.ow_rd hg2)
    have hmul : (ii.toNat + 1) * K.n ≤ xs.length * K.n := Nat.mul_le_mul_right _ hi
    have hmul' := hmul
    rw [Nat.add_mul, Nat.one_mul] at hmul'
    have hesl : ((cells.drop (ii.toNat * K.n)).take K.n).length = K.n := K.rd_len (K.ow_rd hK)
    have hq3 : q + A.n + r3.length = K.n := by rw [← hesl, hes]; simp [hq, hr2]; omega
    have hcapm : xs.length * K.n ≤ cap' * K.n := Nat.mul_le_mul_right _ hlc
    have hgl : g < s.w.heap.size := (Array.getElem?_eq_some_iff.1 hg).1
    have hgc := hcol g (by simp)
    have hst := run_storeCells_at P g (ii.toNat * K.n + q) te vs 0 cur s.w hg (by rw [hvl, hsz]; omega) hv1
    simp only [Nat.add_zero] at hst
    have had : ((⟨g, 0, none⟩ : Addr).add (ii.toNat * K.n)).add q = ⟨g, ii.toNat * K.n + q, none⟩ := by rw [Addr.add_add', Addr.add_mid, Nat.zero_add]
    rw [had] at hx
    have hrun : (Instr.storeAt t (.pointer (some ⟨g, ii.toNat * K.n + q, none⟩)) (ev e y)).run P s.w = .ok () (s.w.setRow g (cur.toList.take (ii.toNat * K.n + q) ++ vs ++ cur.toList.drop (ii.toNat * K.n + q + vs.length)).toArray) := by
      unfold Instr.storeAt
      rw [Sem.run_bind']
      simp only [Instr.sureAddr, Sem.run_pure, Result.andThen]
      unfold storeVar
      rw [Sem.run_bind', size_run hs]
      simp only [Result.andThen, hy]
      simp [hvl]
      simp [hvl] at hst
      exact hst
    have hd10 := Nat.le_of_ble_eq_true h10
    have hnd' := List.nodup_cons.1 (show (g :: (p1 ++ (q1 ++ (q2 ++ q3)) ++ p3)).Nodup from hnd)
    refine vd (w' := s.w.setRow g (cur.toList.take (ii.toNat * K.n + q) ++ vs ++ cur.toList.drop (ii.toNat * K.n + q + vs.length)).toArray) ho hd hw (by simp [execOp, hop, hx, hrun, Result.andThen]) (h ⟨_, fun b => if s.g b = d' then c else s.g b⟩ ⟨rfl, rfl, rfl, by simp, fun b hb hl => ?_, fun b hb hm => ?_⟩ ?_)
    · have : ¬ s.g b = d' := by omega
      simp [this]
    · simp only [memb, Bool.or_eq_false_iff] at hm
      have q1 : s.g b ≠ c := fun h => by rw [h] at hm; simp at hm
      have q2 : ¬ s.g b = d' := fun h => by rw [h] at hm; simp at hm
      refine ⟨by simp [q2], setRow_other s.w g b _ fun e => q1 (by rw [e]; exact hgc)⟩
    · have hoth : ∀ b, b ≠ g → (s.w.setRow g (cur.toList.take (ii.toNat * K.n + q) ++ vs ++ cur.toList.drop (ii.toNat * K.n + q + vs.length)).toArray).heap[b]? = s.w.heap[b]? := fun b hb => setRow_other s.w g b _ hb
      have hgx : g ∉ ox := fun h => hcd' (hgc.symm.trans (hxc g h))
      have hA' := A.ow_frame hxo (w' := s.w.setRow g (cur.toList.take (ii.toNat * K.n + q) ++ vs ++ cur.toList.drop (ii.toNat * K.n + q + vs.length)).toArray) fun b hb _ => hoth b fun h => hgx (h ▸ hb)
      have hK' := hput _ x' vs ox hA' fun b hb _ => hoth b fun h => hnd'.1 (by subst h; simp at hb ⊢; rcases hb with hb | hb <;> simp [hb])
      have hnew := hset _ _ _ _ hK' fun b hb _ => hoth b fun h => hnd'.1 (by subst h; simp at hb ⊢; rcases hb with hb | hb <;> simp [hb])
      have hcl : cells.length = xs.length * K.n := hl
      have hcells : cells.take (ii.toNat * K.n) ++ (r1 ++ (vs ++ r3)) ++ cells.drop ((ii.toNat + 1) * K.n) = cells.take (ii.toNat * K.n + q) ++ vs ++ cells.drop (ii.toNat * K.n + q + vs.length) := by
        have e0 : cells = cells.take (ii.toNat * K.n) ++ ((r1 ++ (r2 ++ r3)) ++ cells.drop ((ii.toNat + 1) * K.n)) := by
          rw [← hes, Nat.add_mul, Nat.one_mul, ← List.drop_drop, List.take_append_drop, List.take_append_drop]
        have hlt : (cells.take (ii.toNat * K.n)).length = ii.toNat * K.n := by rw [List.length_take]; omega
        have e5 : cells = (cells.take (ii.toNat * K.n) ++ r1) ++ (r2 ++ (r3 ++ cells.drop ((ii.toNat + 1) * K.n))) := by
          conv => lhs; rw [e0]
          simp
        have e6 : cells = (cells.take (ii.toNat * K.n) ++ (r1 ++ r2)) ++ (r3 ++ cells.drop ((ii.toNat + 1) * K.n)) := by
          conv => lhs; rw [e0]
          simp
        have t1 : cells.take (ii.toNat * K.n + q) = cells.take (ii.toNat * K.n) ++ r1 := by
          conv => lhs; rw [e5]
          exact List.take_left' (by rw [List.length_append, hlt, hq])
        have t2 : cells.drop (ii.toNat * K.n + q + vs.length) = r3 ++ cells.drop ((ii.toNat + 1) * K.n) := by
          conv => lhs; rw [e6]
          exact List.drop_left' (by rw [List.length_append, List.length_append, hlt, hq, hr2, hvl]; omega)
        rw [t1, t2]; simp
      rw [hcells] at hnew
      refine ⟨[g] ++ (p1 ++ (q1 ++ (ox ++ q3)) ++ p3), ⟨v, rfl, _, [g], _, rfl, ⟨?_, .inr ⟨g, cap', _, by rw [List.length_set]; exact h2, setRow_heap s.w g cur _ te _ hg, by simpa using hlc, hcm, ?_, ?_, rfl⟩⟩, hnew⟩, ?_, fun b hb => ?_⟩
      · simp only [List.length_set, List.length_append, List.length_take, List.length_drop, hvl, hl]
        omega
      · simp only [List.size_toArray, List.length_append, List.length_take, List.length_drop, Array.length_toList, hvl, hsz]
        omega
      · rw [List.length_set, ← htk, hvl]
        have e2 : (cur.toList.take (xs.length * K.n)).take (ii.toNat * K.n + q) = cur.toList.take (ii.toNat * K.n + q) := by rw [List.take_take]; congr 1; omega
        have e3 : (cur.toList.take (xs.length * K.n)).drop (ii.toNat * K.n + q + A.n) = (cur.toList.drop (ii.toNat * K.n + q + A.n)).take (xs.length * K.n - (ii.toNat * K.n + q + A.n)) := by rw [List.drop_take]
        rw [e2, e3]
        have hla : (cur.toList.take (ii.toNat * K.n + q) ++ vs).length = ii.toNat * K.n + q + A.n := by
          rw [List.length_append, List.length_take, Array.length_toList, hvl, hsz]; omega
        rw [List.take_append, List.take_of_length_le (by omega), hla]
      · have hdj : ∀ b, b ∈ ox → b ∉ g :: (p1 ++ (q1 ++ (q2 ++ q3)) ++ p3) := fun b hb hb2 => hcd' ((hcol b hb2).symm.trans (hxc b hb))
        rw [List.nodup_iff_count]
        intro b
        have c0 : (g :: (p1 ++ (q1 ++ (q2 ++ q3)) ++ p3)).count b ≤ 1 := List.nodup_iff_count.1 hnd b
        have c1 : ox.count b ≤ 1 := List.nodup_iff_count.1 hxn b
        rw [List.count_cons] at c0
        simp only [List.singleton_append, List.count_cons, List.count_append] at c0 ⊢
        by_cases hb : b ∈ ox
        · have z0 : (g :: (p1 ++ (q1 ++ (q2 ++ q3)) ++ p3)).count b = 0 := List.count_eq_zero.2 (hdj b hb)
          rw [List.count_cons] at z0
          simp only [List.count_append] at z0
          omega
        · have : ox.count b = 0 := List.count_eq_zero.2 hb
          omega
      · dsimp only
        simp only [List.singleton_append, List.mem_cons, List.mem_append] at hb
        rcases hb with rfl | (hb | hb | hb | hb) | hb
        · simp [hgc]
        · simp [hcol b (by simp [hb])]
        · simp [hcol b (by simp [hb])]
        · simp [hxc b hb]
        · simp [hcol b (by simp [hb])]
        · simp [hcol b (by simp [hb])]
def LoF {α : Type} (K : Kd α) (s : St) (cs : List Value) (xs : List α) (c : Nat) : Prop := ∃ os, ElsO K s.w xs cs os ∧ os.Nodup ∧ ∀ b ∈ os, s.g b = c
theorem lo_one {α : Type} {K : Kd α} {cs : List Value} {x : α} {c : Nat} (h : OwF K s cs x c) : LoF K s cs [x] c := by
  obtain ⟨os, ho, hn, hc⟩ := h
  exact ⟨os, ⟨cs, [], os, [], by simp, by simp, ho, rfl, rfl⟩, hn, hc⟩
theorem lo_cons {α : Type} {K : Kd α} {c1 c2 : List Value} {x : α} {xs : List α} {c d' : Nat} (h : OwF K s c1 x c) (h2 : LoF K s c2 xs d') (hcd : Nat.beq c d' = false) (h10 : Nat.ble 40 d' = true) : ∃ s' : St, s.w = s'.w ∧ Stp [d'] s s' ∧ LoF K s' (c1 ++ c2) (x :: xs) c := by
  have hcd' : c ≠ d' := fun h => by subst h; simp at hcd
  have h10' := Nat.le_of_ble_eq_true h10
  obtain ⟨os, ho, hn, hc⟩ := h
  obtain ⟨ps, hp, hpn, hpc⟩ := h2
  refine ⟨⟨s.w, fun b => if s.g b = d' then c else s.g b⟩, rfl, ⟨rfl, rfl, rfl, Nat.le_refl _, fun b hb hl => ?_, fun b hb hm => ⟨?_, rfl⟩⟩, os ++ ps, ⟨c1, c2, os, ps, rfl, rfl, ho, hp⟩, List.nodup_append.2 ⟨hn, hpn, fun a ha b hb hab => ?_⟩, fun b hb => ?_⟩
  · have : ¬ s.g b = d' := by omega
    simp [this]
  · have : ¬ s.g b = d' := fun h => by rw [h] at hm; simp [memb] at hm
    simp [this]
  · subst hab; exact hcd' ((hc a ha).symm.trans (hpc a hb))
  · rcases List.mem_append.1 hb with hb | hb
    · simp [hc b hb]
    · simp [hpc b hb]
theorem ltO {α : Type} {K : Kd α} {t te l : Nat} {z : Value} {parts : Array (Nat × Operand)} {cells : List Value} (xs : List α) (c : Nat) (hu : P.underlying t = some (.slice te)) (hs : (P.info? te).map (·.size) = some K.n) (hz : (P.info? te).bind (·.zero) = some z) (hE : LoF K s cells xs c)
    (ho : ops[i]? = some o) (hd : o.dst = some d) (hN : Nat.blt d N = true) (hw : Region.wanted o (yv e ops) = true) (hop : o.op = .buildSlice t l parts) (hln : Nat.ble (l * K.n) 16777216 = true) (hpos : Nat.ble 1 (l * K.n) = true) (hl : xs.length = l)
    (hzn : z.cells.toList.length = K.n) (hfill : lfill (fun i => some (i * K.n, K.n)) (List.replicate l z.cells.toList).flatten (parts.toList.map fun (i, x) => (i, ev e x)) = some cells)
    (h : ∀ v s', Stp [c] s s' → OwF (Kd.sl te K) s' [v] xs c → TM P f N m G R (.inRegion ops rest :: k) (upd e d v) s'.w) :
    TM P f N m G R (.inRegion ops (i :: rest) :: k) e s.w := by
  obtain ⟨os, hE, hn, hc⟩ := hE
  have hlen := hE.len
  have h2 := Nat.le_of_ble_eq_true hln
  have h3 := Nat.le_of_ble_eq_true hpos
  have hn' : 0 < K.n := Nat.pos_of_ne_zero fun h => by rw [h] at h3; simp at h3
  obtain ⟨s', hs', p, nn, hrow⟩ := new_row (s := s) (te := te) (n := K.n) (l := l) (cells := cells.toArray) c rfl (by simp [hlen, hl]) (by have : l * 1 ≤ l * K.n := Nat.mul_le_mul_left _ hn'; simp only [maxLen]; omega)
  refine vl (w' := s'.w) ho hd hN hw (by rw [hs']; exact lit_run hu hs hz hln hpos hzn hfill hop) (h _ s' ⟨p.os, p.tape, p.output, p.size, p.low, fun b hb _ => p.same b hb rfl⟩ ?_)
  subst hl
  have hlt := hE.lt
  refine ⟨[s.w.heap.size] ++ os, ⟨_, rfl, _, _, os, rfl, by simpa using hrow, hE.frame fun b hb hl => (p.same b hl rfl).2⟩, ?_, fun b hb => ?_⟩
  · refine List.nodup_append.2 ⟨by simp, hn, fun a ha b hb hab => ?_⟩
    simp at ha; subst hab; have := hlt a hb; omega
  · rcases List.mem_append.1 hb with hb | hb
    · simp at hb; subst hb; exact nn.new _ (Nat.le_refl _)
    · rw [nn.old b (hlt b hb), hc b hb]
end
theorem sp2 {α : Type} {K : Kd α} {s : St} {cs : List Value} {x : α} {p r : List Nat} {c : Nat} (c' : Nat) (h : K.ow s.w cs x p) (hn : (p ++ r).Nodup) (hc : ∀ b ∈ p ++ r, s.g b = c) (h10 : Nat.ble 40 c = true) :
    ∃ s' : St, s.w = s'.w ∧ Stp [c] s s' ∧ OwF K s' cs x c ∧ r.Nodup ∧ ∀ b ∈ r, s'.g b = c' := by
  have h10' := Nat.le_of_ble_eq_true h10
  have hn' := List.nodup_append.1 hn
  refine ⟨⟨s.w, fun b => open Classical in if b ∈ r then c' else s.g b⟩, rfl, ⟨rfl, rfl, rfl, Nat.le_refl _, fun b hb hl => ?_, fun b hb hm => ⟨?_, rfl⟩⟩, ⟨p, h, hn'.1, fun b hb => ?_⟩, hn'.2.1, fun b hb => by simp [hb]⟩
  · have : ¬ b ∈ r := fun h => by have := hc b (by simp [h]); omega
    simp [this]
  · have : ¬ b ∈ r := fun h => by have := hc b (by simp [h]); rw [this] at hm; simp [memb] at hm
    simp [this]
  · have : ¬ b ∈ r := fun h => hn'.2.2 b hb b h rfl
    simp only [this, if_false]
    exact hc b (by simp [hb])
theorem sp1 {α : Type} {K : Kd α} {s : St} {cs : List Value} {x : α} {p : List Nat} {c : Nat} (h : K.ow s.w cs x p) (hn : p.Nodup) (hc : ∀ b ∈ p, s.g b = c) : OwF K s cs x c := ⟨p, h, hn, hc⟩

def nextN (E : List (List Nat)) (L D : List Nat) (cs : List Nat) : Bool :=
  rangeB E.length fun i => memb cs i || memb L i || memb D i || anyB (E.getD i []) (fun j => Nat.blt j E.length && !memb L j && !memb D j)
section
variable {P : Program} {f : FuncId} {N : Nat} {O ρ : Type} {m : Option O} {G : O → Option ρ} {R : ρ → Ending → World → Prop} {k : List Item} {ops : Array Oper}
variable {E : List (List Nat)} {Ds : List (Option Nat)} {Us : List (List Nat)} {L D l : List Nat} {e Ec : Env} {w : World}
theorem zstepN (cs : List (Nat × List (Option Nat))) (tb : Tb ops E Ds Us) (z : Zr E Ds L D l e Ec) (hq : Pq P N ops Ec w L)
    (hb : (useB E Ds Us L && nextN E L D (cs.map (·.1)) && cs.all (fun p => Nat.blt p.1 E.length && !memb L p.1 && !memb D p.1) && !cs.isEmpty) = true)
    (hp : cs.all (fun p => ((pend E E.length L [p.1]).map fun i => Ds.getD i none) == p.2) = true)
    (h : ∀ p ∈ cs, ∀ l' e', Zr E Ds L D (p.1 :: l') (mix p.2 Ec e') Ec → TM P f N m G R (.inRegion ops (p.1 :: l') :: k) (mix p.2 Ec e') w) : TM P f N m G R (.inRegion ops l :: k) e w := by
  simp only [Bool.and_eq_true, Bool.not_eq_true'] at hb
  obtain ⟨⟨⟨hu, hn⟩, hall⟩, hne⟩ := hb
  induction l generalizing e with
  | nil =>
    cases cs with
    | nil => cases hne
    | cons p cs =>
      have hc := List.all_eq_true.1 hall p (by simp)
      simp only [Bool.and_eq_true, Bool.not_eq_true'] at hc
      have hc' : p.1 < E.length := by have := hc.1.1; simp [Nat.blt] at this; omega
      rcases z.ld p.1 hc' (by simp) with h | h
      · exact absurd h (nmemb hc.2)
      · exact absurd h (nmemb hc.1.2)
  | cons i l ih =>
    by_cases hi : i ∈ L
    · exact quiet tb z hq hu hi fun e' z' => ih z'
    · have hD : i ∉ D := fun h => z.done i h (by simp)
      have hlt := z.lt i (by simp)
      have := rangeB_out hn i hlt
      simp only [Bool.or_eq_true] at this
      have hic : i ∈ cs.map (·.1) := by
        rcases this with ((h | h) | h) | h
        · exact memb_iff.1 h
        · exact absurd (memb_iff.1 h) hi
        · exact absurd (memb_iff.1 h) hD
        · obtain ⟨j, hj, hp⟩ := anyB_out h
          simp only [Bool.and_eq_true, Bool.not_eq_true'] at hp
          have hjl : j ∉ i :: l := z.dep [] i l rfl j hj
          have hjlt : j < E.length := by have := hp.1.1; simp [Nat.blt] at this; omega
          rcases z.ld j hjlt hjl with h | h
          · exact absurd h (nmemb hp.2)
          · exact absurd h (nmemb hp.1.2)
      obtain ⟨⟨c, pd⟩, hmem, hcc⟩ := List.mem_map.1 hic
      simp only at hcc
      subst hcc
      have hc := List.all_eq_true.1 hall _ hmem
      simp only [Bool.and_eq_true, Bool.not_eq_true'] at hc
      have hpd := List.all_eq_true.1 hp _ hmem
      simp only [beq_iff_eq] at hpd
      have hcL := hc.1.2
      have he : e = mix pd Ec e := by
        funext t
        unfold mix
        cases hm2 : pd.any (fun x => optB x t) with
        | true => rfl
        | false =>
          refine z.env t fun j hj hjt hm3 => ?_
          have hjp : memb (pend E E.length L [c]) j = false := by
            cases hh : memb (pend E E.length L [c]) j with
            | false => rfl
            | true =>
              have : pd.any (fun x => optB x t) = true := by
                rw [List.any_eq_true]
                refine ⟨some t, ?_, optB_iff.2 rfl⟩
                rw [← hpd]
                exact List.mem_map.2 ⟨j, memb_iff.1 hh, hjt⟩
              rw [this] at hm2; cases hm2
          have hjs : j ∈ scan E E.length [c] := by
            cases hh : memb (scan E E.length [c]) j with
            | true => exact memb_iff.1 hh
            | false => exact absurd (List.mem_filter.2 ⟨hj, by simp [hh]⟩ : j ∈ pend E E.length L [c]) (nmemb hjp)
          have hnd := List.nodup_cons.1 z.nd
          have := scan_out (E := E) (l := l) (fun x hx hlt y hy hm => by
            by_cases hxi : x = c
            · subst hxi; exact z.dep [] x l rfl y hy (List.mem_cons_of_mem _ hm)
            · exact z.dn x hlt (by simp [hxi, hx]) y hy (List.mem_cons_of_mem _ hm)) (fun x hx => z.lt x (List.mem_cons_of_mem _ hx)) E.length [c] (by simpa using hnd.1) j hjs
          rcases List.mem_cons.1 hm3 with rfl | hm3
          · exact nmemb hcL hj
          · exact this hm3
      rw [he] at z ⊢
      exact h _ hmem l e z
theorem zstep2 (c1 c2 : Nat) (pd1 pd2 : List (Option Nat)) (tb : Tb ops E Ds Us) (z : Zr E Ds L D l e Ec) (hq : Pq P N ops Ec w L)
    (hb : (useB E Ds Us L && nextN E L D [c1, c2] && ([(c1, pd1), (c2, pd2)] : List (Nat × List (Option Nat))).all (fun p => Nat.blt p.1 E.length && !memb L p.1 && !memb D p.1) && !([(c1, pd1), (c2, pd2)] : List (Nat × List (Option Nat))).isEmpty) = true)
    (hp : ([(c1, pd1), (c2, pd2)] : List (Nat × List (Option Nat))).all (fun p => ((pend E E.length L [p.1]).map fun i => Ds.getD i none) == p.2) = true)
    (h1 : ∀ l' e', Zr E Ds L D (c1 :: l') (mix pd1 Ec e') Ec → TM P f N m G R (.inRegion ops (c1 :: l') :: k) (mix pd1 Ec e') w)
    (h2 : ∀ l' e', Zr E Ds L D (c2 :: l') (mix pd2 Ec e') Ec → TM P f N m G R (.inRegion ops (c2 :: l') :: k) (mix pd2 Ec e') w) : TM P f N m G R (.inRegion ops l :: k) e w :=
  zstepN [(c1, pd1), (c2, pd2)] tb z hq hb hp fun p hp l' e' => by
    simp only [List.mem_cons, List.not_mem_nil, or_false] at hp
    rcases hp with rfl | rfl
    · exact h1 l' e'
    · exact h2 l' e'
theorem zstep3 (c1 c2 c3 : Nat) (pd1 pd2 pd3 : List (Option Nat)) (tb : Tb ops E Ds Us) (z : Zr E Ds L D l e Ec) (hq : Pq P N ops Ec w L)
    (hb : (useB E Ds Us L && nextN E L D [c1, c2, c3] && ([(c1, pd1), (c2, pd2), (c3, pd3)] : List (Nat × List (Option Nat))).all (fun p => Nat.blt p.1 E.length && !memb L p.1 && !memb D p.1) && !([(c1, pd1), (c2, pd2), (c3, pd3)] : List (Nat × List (Option Nat))).isEmpty) = true)
    (hp : ([(c1, pd1), (c2, pd2), (c3, pd3)] : List (Nat × List (Option Nat))).all (fun p => ((pend E E.length L [p.1]).map fun i => Ds.getD i none) == p.2) = true)
    (h1 : ∀ l' e', Zr E Ds L D (c1 :: l') (mix pd1 Ec e') Ec → TM P f N m G R (.inRegion ops (c1 :: l') :: k) (mix pd1 Ec e') w)
    (h2 : ∀ l' e', Zr E Ds L D (c2 :: l') (mix pd2 Ec e') Ec → TM P f N m G R (.inRegion ops (c2 :: l') :: k) (mix pd2 Ec e') w)
    (h3 : ∀ l' e', Zr E Ds L D (c3 :: l') (mix pd3 Ec e') Ec → TM P f N m G R (.inRegion ops (c3 :: l') :: k) (mix pd3 Ec e') w) : TM P f N m G R (.inRegion ops l :: k) e w :=
  zstepN [(c1, pd1), (c2, pd2), (c3, pd3)] tb z hq hb hp fun p hp l' e' => by
    simp only [List.mem_cons, List.not_mem_nil, or_false] at hp
    rcases hp with rfl | rfl | rfl
    · exact h1 l' e'
    · exact h2 l' e'
    · exact h3 l' e'
end
end Go.Proofs.YtcagjdngannneaaGreat.V
