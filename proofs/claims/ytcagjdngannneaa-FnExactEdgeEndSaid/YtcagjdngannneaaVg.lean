
import Derived.Test.YtcagjdngannneaaVf
set_option linter.unusedVariables false
set_option linter.unusedSimpArgs false
namespace Go.Proofs.Ytcagjdngannneaa.V
open Go
section
variable {P : Program} {w : World}
theorem cut_run {t te n : Nat} {A : Option Addr} {len cap a b : Nat} {lo hi : Option Value} (hu : P.underlying t = some (.slice te)) (hs : (P.info? te).map (·.size) = some n) (hab : a ≤ b) (hb : b ≤ cap)
    (hlo : (lo = none ∧ a = 0) ∨ ∃ k, lo = some (.int k a)) (hhi : (hi = none ∧ b = len) ∨ ∃ k, hi = some (.int k b)) :
    (Instr.sliceAt t (.slice A len cap) lo hi none).run P w = .ok (.slice (if cap = a then A else A.map (·.add (a * n))) (b - a) (cap - a)) w := by
  have hb' : (0 : Int) ≤ (b : Int) ∧ (b : Int) ≤ (cap : Int) := by omega
  have ha' : (0 : Int) ≤ (a : Int) ∧ (a : Int) ≤ (b : Int) := by omega
  have hbounds : (Instr.sliceBounds true len cap lo hi none).run P w = .ok (a, b, cap) w := by
    rcases hlo with ⟨rfl, rfl⟩ | ⟨k1, rfl⟩ <;> rcases hhi with ⟨rfl, rfl⟩ | ⟨k2, rfl⟩ <;> simp [Instr.sliceBounds, Instr.sliceBound, asIntOf, Result.andThen, hab, hb]
  unfold Instr.sliceAt
  rw [Sem.run_bind', run_underlying hu]
  simp only [Result.andThen]
  unfold Instr.slice
  rw [Sem.run_bind', run_underlying hu]
  simp only [Result.andThen]
  rw [Sem.run_bind', hbounds]
  simp only [Result.andThen]
  rw [Sem.run_bind', size_run hs]
  simp [Result.andThen]
theorem cut_rd {α : Type} {K : Kd α} {A : Option Addr} {cap : Nat} {xs : List α} {F : Nat → Prop} (h : slRd K w (.slice A xs.length cap) xs F) {a b : Nat} (hab : a ≤ b) (hb : b ≤ xs.length) :
    slRd K w (.slice (if cap = a then A else A.map (·.add (a * K.n))) (b - a) (cap - a)) ((xs.take b).drop a) F := by
  obtain ⟨A', cap', cells, e, hcap, hels, hc⟩ := h
  simp only [Value.slice.injEq, true_and] at e
  obtain ⟨rfl, rfl⟩ := e
  have hl : ((xs.take b).drop a).length = b - a := by simp; omega
  refine ⟨_, cap - a, (cells.take (b * K.n)).drop (a * K.n), by rw [hl], by rw [hl]; omega, (hels.take b).drop a, fun hne => ?_⟩
  have hcl := hels.len
  have hne' : cells ≠ [] := fun h => hne (by simp [h])
  obtain ⟨ad, rfl, hF, hcell⟩ := hc hne'
  have hlt : a < cap := by
    rcases Nat.lt_or_ge a b with h | h
    · omega
    · exfalso; apply hne
      have : a = b := by omega
      subst this
      simp
  rw [if_neg (by omega)]
  refine ⟨ad.add (a * K.n), rfl, by rw [add_block]; exact hF, fun j u hj => ?_⟩
  rw [Addr.add_add']
  rw [List.getElem?_drop, List.getElem?_take] at hj
  split at hj
  · exact hcell _ _ hj
  · cases hj
end

section
variable {P : Program} {f : FuncId} {N : Nat} {O ρ : Type} {m : Option O} {G : O → Option ρ} {R : ρ → Ending → World → Prop} {e : Env} {s : St} {k : List Item} {ops : Array Oper} {i d : Nat} {rest : List Nat} {o : Oper}

def CellSet {α : Type} (K : Kd α) (q : Nat) (u : Value) (x x' : α) : Prop := q < K.n ∧ u.oneCell' = true ∧ ∀ w cs os, K.ow w cs x os → K.ow w (cs.set q u) x' os
theorem cs_flat {α : Type} {val : α → Value} {hv : ∀ x, (val x).oneCell' = true} {x x' : α} : CellSet (Kd.flat val hv) 0 (val x') x x' :=
  ⟨Nat.one_pos, hv _, fun w cs os h => by obtain ⟨rfl, rfl⟩ := h; exact ⟨rfl, rfl⟩⟩
theorem cs_left {α β : Type} {A : Kd α} {B : Kd β} {q : Nat} {u : Value} {x x' : α} {y : β} (h : CellSet A q u x x') : CellSet (Kd.pair A B) q u (x, y) (x', y) :=
  ⟨Nat.lt_of_lt_of_le h.1 (Nat.le_add_right _ _), h.2.1, fun w cs os ⟨c1, c2, o1, o2, e, e', h1, h2⟩ => ⟨c1.set q u, c2, o1, o2, by
    subst e; have := A.rd_len (A.ow_rd h1); have := h.1; rw [List.set_append]; simp; omega, e', h.2.2 w c1 o1 h1, h2⟩⟩
theorem cs_right {α β : Type} {A : Kd α} {B : Kd β} {q : Nat} {u : Value} {x : α} {y y' : β} (h : CellSet B q u y y') : CellSet (Kd.pair A B) (A.n + q) u (x, y) (x, y') :=
  ⟨Nat.add_lt_add_left h.1 _, h.2.1, fun w cs os ⟨c1, c2, o1, o2, e, e', h1, h2⟩ => ⟨c1, c2.set q u, o1, o2, by
    subst e; have hl := A.rd_len (A.ow_rd h1); rw [List.set_append, if_neg (by omega), hl]; congr 2; omega, e', h1, h.2.2 w c2 o2 h2⟩⟩
theorem cs_iso {α β : Type} {A : Kd α} {g : β → α} {q : Nat} {u : Value} {x x' : β} (h : CellSet A q u (g x) (g x')) : CellSet (Kd.iso A g) q u x x' := h
theorem so {α : Type} [Inhabited α] {K : Kd α} {t te q : Nat} {x y : Operand} {v u : Value} {xs : List α} {c : Nat} {ii : Int} {ad : Addr} {x' : α} (hO : OwF (Kd.sl te K) s [v] xs c) (hA : IxA v K.n ii ad) (h0 : 0 ≤ ii) (h1 : ii < xs.length) (hC : CellSet K q u (at_ xs ii) x') (hs : (P.info? t).map (·.size) = some 1)
    (ho : ops[i]? = some o) (hd : o.dst = none) (hw : Region.wanted o (yv e ops) = true) (hop : o.op = .store t x y) (hx : ev e x = .pointer (some (ad.add q))) (hy : ev e y = u)
    (h : ∀ s', Stp [c] s s' → OwF (Kd.sl te K) s' [v] (xs.set ii.toNat x') c → TM P f N m G R (.inRegion ops rest :: k) e s'.w) : TM P f N m G R (.inRegion ops (i :: rest) :: k) e s.w := by
  obtain ⟨os, ⟨v1, e1, cells, o1, o2, rfl, hR, hE⟩, hnd, hcol⟩ := hO
  obtain rfl : v = v1 := by simpa using e1
  obtain ⟨A, l, cap, hv, rfl⟩ := hA
  obtain ⟨hl, hR2⟩ := hR
  have hi : ii.toNat < xs.length := by omega
  rcases hR2 with ⟨h2, _⟩ | ⟨g, cap', cur, h2, hg, hlc, hcm, hsz, htk, rfl⟩
  · rw [h2] at hv; cases hv
  · rw [h2] at hv
    simp only [Value.slice.injEq, Option.some.injEq] at hv
    obtain ⟨rfl, rfl, rfl⟩ := hv
    obtain ⟨p1, p2, p3, rfl, hK, hset⟩ := hE.at_ ii.toNat hi
    rw [at_eq xs ii hi] at hC
    have hq := hC.1
    have hmul : (ii.toNat + 1) * K.n ≤ xs.length * K.n := Nat.mul_le_mul_right _ hi
    rw [Nat.add_mul] at hmul
    have hcapm : xs.length * K.n ≤ cap' * K.n := Nat.mul_le_mul_right _ hlc
    have had : ((⟨g, 0, none⟩ : Addr).add (ii.toNat * K.n)).add q = ⟨g, ii.toNat * K.n + q, none⟩ := by rw [Addr.add_add', Addr.add_mid]; simp
    have hgc := hcol g (by simp)
    refine vd (w' := s.w.setCell ⟨g, ii.toNat * K.n + q, none⟩ u) ho hd hw ?_ (h ⟨s.w.setCell ⟨g, ii.toNat * K.n + q, none⟩ u, s.g⟩ ⟨rfl, rfl, rfl, by simp [World.setCell], fun _ _ _ => rfl, fun b' hb hm => ⟨rfl, ?_⟩⟩ ?_)
    · rw [had] at hx
      have hst := store_run (P := P) (w := s.w) (o := ii.toNat * K.n + q) hs hC.2.1 hg (by rw [hsz]; omega)
      simp [execOp, hop, hx, hy, hst, Result.andThen]
    · have hne : b' ≠ g := by
        intro h; subst h; rw [hgc] at hm; simp [memb] at hm
      exact heap_setCell_other s.w ⟨g, _, none⟩ b' u (fun e => hne e)
    · have hnd' := List.nodup_cons.1 (show (g :: (p1 ++ p2 ++ p3)).Nodup from hnd)
      have hagr : ∀ b, b ∈ p1 ++ p2 ++ p3 → (s.w.setCell ⟨g, ii.toNat * K.n + q, none⟩ u).heap[b]? = s.w.heap[b]? := fun b hb => heap_setCell_other s.w ⟨g, _, none⟩ b u (fun e => hnd'.1 (by rw [← show b = g from e]; exact hb))
      have hK' := hC.2.2 _ _ _ (K.ow_frame hK fun b hb _ => hagr b (by simp [hb]))
      have hnew := hset (s.w.setCell ⟨g, ii.toNat * K.n + q, none⟩ u) _ x' p2 hK' fun b hb _ => hagr b (by simp at hb ⊢; rcases hb with hb | hb <;> simp [hb])
      refine ⟨[g] ++ (p1 ++ p2 ++ p3), ⟨v, rfl, _, [g], _, rfl, ?_, hnew⟩, hnd, hcol⟩
      have hcl : cells.length = xs.length * K.n := hl
      have hcells : cells.take (ii.toNat * K.n) ++ ((cells.drop (ii.toNat * K.n)).take K.n).set q u ++ cells.drop ((ii.toNat + 1) * K.n) = cells.set (ii.toNat * K.n + q) u := by
        have e1 : cells = cells.take (ii.toNat * K.n) ++ ((cells.drop (ii.toNat * K.n)).take K.n ++ cells.drop ((ii.toNat + 1) * K.n)) := by
          rw [Nat.add_mul, Nat.one_mul, ← List.drop_drop, List.take_append_drop, List.take_append_drop]
        conv => rhs; rw [e1]
        rw [List.set_append, if_neg (by simp; omega), List.set_append, if_pos (by simp; omega)]
        simp only [List.length_take]
        rw [show ii.toNat * K.n + q - min (ii.toNat * K.n) cells.length = q by omega]
        simp
      refine ⟨by rw [List.length_set, hcells, List.length_set]; exact hl, .inr ⟨g, cap', cur.setIfInBounds (ii.toNat * K.n + q) u, by rw [List.length_set]; exact h2, ?_, by simpa using hlc, hcm, by simpa using hsz, ?_, rfl⟩⟩
      · exact heap_setCell_same s.w g _ cur te u hg
      · rw [hcells, ← htk, Array.toList_setIfInBounds, List.take_set, List.length_set]


def PlF (P : Program) (t : Nat) (pl : Array (Nat × Nat)) : Prop := ∃ fs, P.underlying t = some (.struct fs) ∧ ∀ w : World, (fs.mapM fun (f : Field) => do pure (f.offset, ← sizeOf f.type) : Sem (Array (Nat × Nat))).run P w = .ok pl w

def ovr (ds : List Nat) (junk e : Env) : Env := fun t => bif memb ds t then junk t else e t
def Ag (ds : List Nat) (e e' : Env) : Prop := ∀ t, memb ds t = false → e' t = e t
theorem Ag.refl (ds : List Nat) (e : Env) : Ag ds e e := fun _ _ => rfl
theorem Ag.put {ds : List Nat} {e e' : Env} {d : Nat} {v : Value} (h : Ag ds e e') (hd : memb ds d = true) : Ag ds e (upd e' d v) := fun t ht => by
  have : t ≠ d := fun h => by rw [h, hd] at ht; cases ht
  rw [upd_ne _ _ _ _ this]; exact h t ht
theorem Ag.ovr {ds : List Nat} {e e' : Env} (h : Ag ds e e') : e' = V.ovr ds e' e := by
  funext t
  unfold V.ovr
  cases hm : memb ds t with
  | true => rfl
  | false => exact h t hm
theorem jb {α : Type} {x : Option α} {km : α → Option O} {todo : List Item} {w : World} (J : ∀ Gj : α → Option ρ, Gj = (fun a => (km a).bind G) → TM P f N x Gj R todo e w) : TM P f N (x.bind km) G R todo e w := by
  intro o ho r hr
  obtain ⟨a, ha, hk⟩ := Option.bind_eq_some_iff.1 ho
  exact J _ rfl a ha r (by show (km a).bind G = some r; rw [hk]; exact hr)
theorem jn {α : Type} {a : α} {km : α → Option O} {todo : List Item} {w : World} (h : TM P f N (km a) G R todo e w) : TM P f N (some a) (fun a => (km a).bind G) R todo e w := by
  intro o ho r hr
  obtain rfl := Option.some.inj ho
  obtain ⟨o', ho', hr'⟩ := Option.bind_eq_some_iff.1 hr
  exact h o' ho' r hr'
end
end Go.Proofs.Ytcagjdngannneaa.V
