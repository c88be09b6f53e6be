import Derived.Test.YtiofnjnnocjbhaaDoorG1
import Derived.RangeFuncRecord
import Derived.Lib.ConvBytes
set_option linter.unusedVariables false
set_option linter.unusedSimpArgs false
namespace Go.Proofs.YtiofnjnnocjbhaaDoor.V
open Go
def HoL {α β : Type} [Inhabited α] (te : TypeId) (K : Kd α) (A : Kd β) (q : Nat) (set : α → β → α) (s : St) (v : Value) (xs : List α) (ii : Int) (c : Nat) : Prop :=
 ∃ g cap cur c1 u0 c3 p1 p3, v = .slice (some ⟨g, 0, none⟩) xs.length cap ∧ Hr s.w g cur te ∧ xs.length ≤ cap ∧ cap ≤ maxLen ∧ cur.size = cap * K.n ∧
  cur.toList.take (xs.length * K.n) = c1 ++ (u0 ++ c3) ∧ u0.length = A.n ∧ c1.length = ii.toNat * K.n + q ∧ (g :: (p1 ++ p3)).Nodup ∧ (∀ b ∈ g :: (p1 ++ p3), s.g b = c ∧ b < s.w.heap.size) ∧ ii.toNat < xs.length ∧
  ∀ w' e2 y o2, A.ow w' e2 y o2 → Agr s.w w' (· ∈ p1 ++ p3) → ElsO K w' (xs.set ii.toNat (set (at_ xs ii) y)) (c1 ++ (e2 ++ c3)) (p1 ++ (o2 ++ p3))
theorem HoL.st {α β : Type} [Inhabited α] {te : TypeId} {K : Kd α} {A : Kd β} {q : Nat} {set : α → β → α} {s s' : St} {v : Value} {xs : List α} {ii : Int} {c : Nat} {S : List Nat} (h : HoL te K A q set s v xs ii c) (p : Stp S s s') (d : memb S c = false) : HoL te K A q set s' v xs ii c := by
 obtain ⟨g, cap, cur, c1, u0, c3, p1, p3, e1, e2, e3, e4, e5, e6, e7, e8, e9, e10, e11, e12⟩ := h
 have hs : ∀ b ∈ g :: (p1 ++ p3), s'.g b = s.g b ∧ s'.w.heap[b]? = s.w.heap[b]? := fun b hb => p.same b (e10 b hb).2 (by rw [(e10 b hb).1]; exact d)
 refine ⟨g, cap, cur, c1, u0, c3, p1, p3, e1, e2.eq (hs g (by simp)).2, e3, e4, e5, e6, e7, e8, e9, fun b hb => ⟨by rw [(hs b hb).1]; exact (e10 b hb).1, Nat.lt_of_lt_of_le (e10 b hb).2 p.size⟩, e11, fun w' e2 y o2 hy ha => e12 w' e2 y o2 hy fun b hb hl => ?_⟩
 rw [ha b hb (Nat.lt_of_lt_of_le hl p.size), (hs b (by simp at hb ⊢; rcases hb with hb | hb <;> simp [hb])).2]
section
variable {P : Program} {f : Who} {N : Nat} {O ρ : Type} {m : Option O} {G : O → Option ρ} {R : ρ → Ending → World → Prop} {e : Env} {s : St} {k : List Item} {ops : Array Oper} {i d : Nat} {rest : List Nat} {o : Oper}
end
theorem RwF.sub {α : Type} {e : TypeId} {K : Kd α} {s : St} {v : Value} {xs : List α} {c : Nat} {C : List Nat} (h : RwF e K s v xs c C) {D : List Nat} (d : V.sub C D = true) : RwF e K s v xs c D := by
 obtain ⟨cells, os, h1, h2, h3⟩ := h
 exact ⟨cells, os, h1, h2, h3.mono fun b hb _ => sub_out d hb⟩
end Go.Proofs.YtiofnjnnocjbhaaDoor.V
set_option linter.unusedVariables false
set_option linter.unusedSimpArgs false
namespace Go.Proofs.YtiofnjnnocjbhaaDoor.V
open Go
theorem ElsR.set {α : Type} {K : Kd α} {w : World} {F : Nat → Prop} {xs : List α} {cells c' : List Value} {y : α} (h : ElsR K w F xs cells) (i : Nat) (hi : i < xs.length) (hy : K.rd w c' y F) : ElsR K w F (xs.set i y) (cells.take (i * K.n) ++ c' ++ cells.drop ((i + 1) * K.n)) := by
 rw [List.set_eq_take_append_cons_drop, if_pos hi, List.append_assoc]
 exact (h.take i).append ⟨c', _, rfl, hy, h.drop (i + 1)⟩
section
variable {P : Program} {f : Who} {N : Nat} {O ρ : Type} {m : Option O} {G : O → Option ρ} {R : ρ → Ending → World → Prop} {e : Env} {s : St} {k : List Item} {ops : Array Oper} {i d : Nat} {rest : List Nat} {o : Oper}
end
end Go.Proofs.YtiofnjnnocjbhaaDoor.V
set_option linter.unusedVariables false
set_option linter.unusedSimpArgs false
namespace Go.Proofs.YtiofnjnnocjbhaaDoor.V
open Go
section
variable {P : Program} {f : Who} {N : Nat} {O ρ : Type} {m : Option O} {G : O → Option ρ} {R : ρ → Ending → World → Prop} {e : Env} {s : St} {k : List Item} {ops : Array Oper} {i d : Nat} {rest : List Nat} {o : Oper}
end
end Go.Proofs.YtiofnjnnocjbhaaDoor.V
set_option linter.unusedVariables false
set_option linter.unusedSimpArgs false
namespace Go.Proofs.YtiofnjnnocjbhaaDoor.V
open Go
section
variable {P : Program} {f : Who} {N : Nat} {O ρ : Type} {m : Option O} {G : O → Option ρ} {R : ρ → Ending → World → Prop} {e : Env} {k : List Item} {ops : Array Oper}
variable {s : St} {i d : Nat} {rest : List Nat} {o : Oper}
end
end Go.Proofs.YtiofnjnnocjbhaaDoor.V
set_option linter.unusedVariables false
set_option linter.unusedSimpArgs false
namespace Go.Proofs.YtiofnjnnocjbhaaDoor.V
open Go
abbrev RT {ρ : Type} (Q : ρ → Value → World → Prop) (r : ρ) (en : Ending) (w' : World) : Prop := ∃ v, en = .returned v ∧ Q r v w'
end Go.Proofs.YtiofnjnnocjbhaaDoor.V
set_option linter.unusedVariables false
set_option linter.unusedSimpArgs false
namespace Go.Proofs.YtiofnjnnocjbhaaDoor.V
open Go
section
variable {α : Type} {K : Kd α} {te : TypeId} {s : St} {v v' : Value} {xs : List α} {c : Nat}
end
section
variable {P : Program} {f : Who} {N : Nat} {O ρ : Type} {m : Option O} {G : O → Option ρ} {R : ρ → Ending → World → Prop} {e : Env} {s : St} {k : List Item} {ops : Array Oper} {i d : Nat} {rest : List Nat} {o : Oper}
end
end Go.Proofs.YtiofnjnnocjbhaaDoor.V
set_option linter.unusedVariables false
set_option linter.unusedSimpArgs false
set_option linter.unusedSectionVars false
namespace Go.Proofs.YtiofnjnnocjbhaaDoor.V
open Go
section
variable {α : Type} [Inhabited α]
end
section
variable {β : Type} [Inhabited β] {K : Kd β} {te : TypeId}
def PkB (K : Kd β) (s : St) (ps : List (Pk β × List Nat)) (c : Nat) : Prop := (∀ p ∈ ps, K.ow s.w p.1.cs p.1.x p.2) ∧ ((ps.map (·.2)).flatten).Nodup ∧ ∀ b ∈ (ps.map (·.2)).flatten, s.g b = c
theorem mem_fl {ps : List (Pk β × List Nat)} {p : Pk β × List Nat} (h : p ∈ ps) {b : Nat} (hb : b ∈ p.2) : b ∈ (ps.map (·.2)).flatten := List.mem_flatten.2 ⟨p.2, List.mem_map.2 ⟨p, h, rfl⟩, hb⟩
theorem PkB.st {s s' : St} {S : List Nat} {ps : List (Pk β × List Nat)} {c : Nat} (h : PkB K s ps c) (p : Stp S s s') (d : memb S c = false) : PkB K s' ps c := by
 refine ⟨fun q hq => K.ow_frame (h.1 q hq) fun b hb hl => (p.same b hl (by rw [h.2.2 b (mem_fl hq hb)]; exact d)).2, h.2.1, fun b hb => ?_⟩
 obtain ⟨l, hl, hbl⟩ := List.mem_flatten.1 hb
 obtain ⟨q, hq, rfl⟩ := List.mem_map.1 hl
 rw [(p.same b (K.ow_lt (h.1 q hq) b hbl) (by rw [h.2.2 b hb]; exact d)).1, h.2.2 b hb]
end
end Go.Proofs.YtiofnjnnocjbhaaDoor.V
set_option linter.unusedVariables false
set_option linter.unusedSimpArgs false
namespace Go.Proofs.YtiofnjnnocjbhaaDoor.V
open Go
def cov : List Nat → List Nat → List Nat → Bool
 | [], _, _ => true
 | c :: D, E, C => (memb E c || memb C c) && cov D E C
theorem cov_out {D E C : List Nat} (h : cov D E C = true) {n : Nat} (hn : memb D n = true) : memb E n = true ∨ memb C n = true := by
 induction D with
 | nil => cases hn
 | cons c D ih =>
  simp only [cov, Bool.and_eq_true, Bool.or_eq_true] at h
  simp only [memb, Bool.or_eq_true] at hn
  rcases hn with hn | hn
  · have := Nat.eq_of_beq_eq_true hn
    subst this; exact h.1
  · exact ih h.2 hn
structure Rc (E : List Nat) (q : Nat) (s s' : St) : Prop where
 w : s.w = s'.w
 inn : ∀ b, memb E (s.g b) = true → s'.g b = q
 out : ∀ b, memb E (s.g b) = false → s'.g b = s.g b
theorem RdF.rc {α : Type} {K : Kd α} {s s' : St} {cs : List Value} {x : α} {D E C : List Nat} {q : Nat} (h : RdF K s cs x D) (r : Rc E q s s') (hq : memb C q = true) (hc : cov D E C = true) : RdF K s' cs x C := by
 unfold RdF at h ⊢
 rw [← r.w]
 refine K.rd_mono h fun b hb _ => ?_
 rcases cov_out hc hb with h1 | h1
 · rw [r.inn b h1]; exact hq
 · cases hm : memb E (s.g b) with
   | true => rw [r.inn b hm]; exact hq
   | false => rw [r.out b hm]; exact h1
end Go.Proofs.YtiofnjnnocjbhaaDoor.V
set_option linter.unusedVariables false
set_option linter.unusedSimpArgs false
namespace Go.Proofs.YtiofnjnnocjbhaaDoor.V
open Go
theorem ZN.bl {F : Nat → Prop} {ps : List (List Nat × Nat)} {s : St} (z : ZN F ps s) {b c : Nat} {t : TypeId} {cs : List Value} (hm : ([b], c) ∈ ps) (h : BlW s.w b t cs) : BlF s b t cs c := ⟨h, z.pt _ hm b (by simp)⟩
section
variable {P : Program} {N : Nat} {e : Env} {s : St} {ops : Array Oper} {i d : Nat} {o : Oper}
end
end Go.Proofs.YtiofnjnnocjbhaaDoor.V
set_option linter.unusedVariables false
set_option linter.unusedSimpArgs false
set_option linter.unusedSectionVars false
namespace Go.Proofs.YtiofnjnnocjbhaaDoor.V
open Go
end Go.Proofs.YtiofnjnnocjbhaaDoor.V
set_option linter.unusedVariables false
set_option linter.unusedSimpArgs false
namespace Go.Proofs.YtiofnjnnocjbhaaDoor.V
open Go
structure Wg (w w' : World) : Prop where
 os : w'.os = w.os
 tape : w'.tape = w.tape
 output : w'.output = w.output
 size : w.heap.size ≤ w'.heap.size
structure LpZ where
 l : Nat
 D : Nat
 lp : Loop
structure LoopF (Z : LpZ) (c : Nat) (st : LoopState) (s : St) : Prop where
 lh : s.w.heap[Z.l]? = some (.loop { Z.lp with state := st })
 dh : s.w.heap[Z.D]? = some (.deferred (some []))
 lc : s.g Z.l = c
 dc : s.g Z.D = c
 ne : Z.l ≠ Z.D
 pe : Z.lp.pending = none
theorem LoopF.st {Z : LpZ} {c : Nat} {st : LoopState} {s s' : St} {S : List Nat} (h : LoopF Z c st s) (p : Stp S s s') (d : memb S c = false) : LoopF Z c st s' := by
 have h1 := p.same Z.l (Array.getElem?_eq_some_iff.1 h.lh).1 (by rw [h.lc]; exact d)
 have h2 := p.same Z.D (Array.getElem?_eq_some_iff.1 h.dh).1 (by rw [h.dc]; exact d)
 exact ⟨h1.2.trans h.lh, h2.2.trans h.dh, h1.1.trans h.lc, h2.1.trans h.dc, h.ne, h.pe⟩
theorem LoopF.set {Z : LpZ} {c : Nat} {st : LoopState} {s : St} (h : LoopF Z c st s) (st' : LoopState) : ∃ s' : St, s'.w = s.w.putObj Z.l (.loop { Z.lp with state := st' }) ∧ Stp [c] s s' ∧ LoopF Z c st' s' := by
 refine ⟨⟨s.w.putObj Z.l (.loop { Z.lp with state := st' }), s.g⟩, rfl, ⟨rfl, rfl, rfl, by simp, fun _ _ _ => rfl, fun b hb hm => ⟨rfl, ?_⟩⟩, ⟨World.putObj_heap_same (Array.getElem?_eq_some_iff.1 h.lh).1, ?_, h.lc, h.dc, h.ne, h.pe⟩⟩
 · refine World.putObj_heap_other fun e => ?_
   subst e; rw [h.lc] at hm; simp [memb] at hm
 · exact (World.putObj_heap_other (Ne.symm h.ne)).trans h.dh
def JF {σ : Type} (J : σ → World → Prop) (s : St) (y : σ) : Prop := J y s.w
theorem Stp.ky {s s' : St} (p : Stp [] s s') : Ky [] s.w s'.w := ⟨p.os, p.tape, p.output, p.size, fun b hb _ => (p.same b hb rfl).2⟩
theorem JF.st {σ : Type} {J : σ → World → Prop} {s s' : St} {y : σ} (h : JF J s y) (hJ : ∀ y w w', J y w → Ky [] w w' → J y w') (p : Stp [] s s') : JF J s' y := hJ _ _ _ h p.ky
section
variable {P : Program} {f : Who} {N : Nat} {O ρ : Type} {m : Option O} {G : O → Option ρ} {R : ρ → Ending → World → Prop} {e : Env} {s : St} {w : World} {k : List Item} {ops : Array Oper} {i d : Nat} {rest : List Nat} {o : Oper}
end
end Go.Proofs.YtiofnjnnocjbhaaDoor.V
set_option linter.unusedVariables false
set_option linter.unusedSimpArgs false
namespace Go.Proofs.YtiofnjnnocjbhaaDoor.V
open Go
def bts (x : ByteArray) : List Int := x.data.toList.map fun b => (b.toNat : Int)
theorem bts_len (x : ByteArray) : (bts x).length = x.size := by simp [bts]
theorem Hr.mark {P : Program} {w : World} {g : Nat} {cur : Array Value} {e : TypeId} (h : Hr w g cur e) : (markStringish ⟨g, 0, none⟩).run P w = .ok () (w.freeze ⟨g, cur.size, none⟩ 1) ∧ Hr (w.freeze ⟨g, cur.size, none⟩ 1) g cur e ∧ (∀ b, b ≠ g → (w.freeze ⟨g, cur.size, none⟩ 1).heap[b]? = w.heap[b]?) ∧ (w.freeze ⟨g, cur.size, none⟩ 1).heap.size = w.heap.size := by
 obtain ⟨⟨lo, hi⟩, h, h2⟩ := h
 have hsh : w.shape? g = some (e, cur.size) := by unfold World.shape?; rw [h]
 refine ⟨?_, ⟨(if lo == hi then (cur.size, cur.size + 1) else (min lo cur.size, max hi (cur.size + 1))), ?_, ?_⟩, fun b hb => ?_, ?_⟩
 · simp [markStringish, hsh, Result.andThen]
 · simp only [World.freeze, Nat.one_ne_zero, if_false]
   rw [Array.getElem?_modify, if_pos rfl, h]; rfl
 · right
   split
   · exact Nat.le_refl _
   · rcases h2 with h2 | h2
     · obtain ⟨rfl, rfl⟩ := Prod.mk.inj h2
       rename_i hh; simp at hh
     · simp only at h2 ⊢; omega
 · simp only [World.freeze, Nat.one_ne_zero, if_false]
   rw [Array.getElem?_modify, if_neg (fun e => hb e.symm)]
 · simp [World.freeze]
def Kd.glb (bs : List Nat) (Φ : World → Prop) (hΦ : ∀ w w' : World, (∀ b ∈ bs, w'.heap[b]? = w.heap[b]?) → Φ w → Φ w') : Kd Unit where
 n := 0
 rd := fun w cs _ F => cs = [] ∧ Φ w ∧ ∀ b ∈ bs, F b ∧ b < w.heap.size
 ow := fun _ _ _ _ => False
 rd_len := fun h => by rw [h.1]; rfl
 rd_one := fun h v hv => by rw [h.1] at hv; cases hv
 rd_frame := fun {w w' cs x F} h ha => ⟨h.1, hΦ w w' (fun b hb => ha b (h.2.2 b hb).1 (h.2.2 b hb).2) h.2.1, fun b hb => ⟨(h.2.2 b hb).1, by
  have h1 := ha b (h.2.2 b hb).1 (h.2.2 b hb).2
  rw [Array.getElem?_eq_getElem (h.2.2 b hb).2] at h1
  exact (Array.getElem?_eq_some_iff.1 h1).1⟩⟩
 rd_mono := fun h hF => ⟨h.1, h.2.1, fun b hb => ⟨hF b (h.2.2 b hb).1 (h.2.2 b hb).2, (h.2.2 b hb).2⟩⟩
 ow_frame := fun h => h.elim
 ow_lt := fun h => h.elim
 ow_rd := fun h => h.elim
theorem var_fr {P : Program} {w w' : World} {nm : String} {g : Nat} (hg : P.globalNamed nm = some g) (h : w'.heap[g]? = w.heap[g]?) : w'.var? P nm = w.var? P nm := by
 unfold World.var?
 rw [hg]
 simp only [Option.bind_some, h]
theorem var_lt {P : Program} {w : World} {nm : String} {g : Nat} {cs : Array Value} (hg : P.globalNamed nm = some g) (h : w.var? P nm = some cs) : g < w.heap.size := by
 unfold World.var? at h
 rw [hg] at h
 simp only [Option.bind_some] at h
 cases hh : w.heap[g]? with
 | none => rw [hh] at h; cases h
 | some o => exact (Array.getElem?_eq_some_iff.1 hh).1
def enum : Nat → List Value → List (Nat × Value)
 | _, [] => []
 | q, v :: vs => (q, v) :: enum (q + 1) vs
theorem lfill_lin : ∀ (vs : List Value) (pre zs : List Value), vs.all (·.oneCell') = true → vs.length = zs.length → lfill (fun i => some (i * 1, 1)) (pre ++ zs) (enum pre.length vs) = some (pre ++ vs)
 | [], pre, zs, _, hl => by
  obtain rfl : zs = [] := List.eq_nil_of_length_eq_zero hl.symm
  rfl
 | v :: vs, pre, [], _, hl => by cases hl
 | v :: vs, pre, z :: zs, h1, hl => by
  simp only [List.all_cons, Bool.and_eq_true] at h1
  have hc : v.cells = #[v] := by cases v <;> first | rfl | cases h1.1
  have ih := lfill_lin vs (pre ++ [v]) zs h1.2 (by simpa using hl)
  simp only [enum, lfill, Nat.mul_one, hc, List.length_cons, List.length_nil, List.length_append, sets]
  rw [if_neg (by omega), List.set_append_right _ _ (Nat.le_refl _), Nat.sub_self, List.set_cons_zero]
  simpa using ih
theorem lfill_c {n l : Nat} {z : Value} {parts : List (Nat × Value)} {cells : List Value} (hn : n = 1) (hz : z.cells.toList.length = 1) (hl : cells.length = l) (h1 : cells.all (·.oneCell') = true) (hp : parts = enum 0 cells) :
    lfill (fun i => some (i * n, n)) (List.replicate l z.cells.toList).flatten parts = some cells := by
  subst hn
  subst hp
  have := lfill_lin cells [] (List.replicate l z.cells.toList).flatten h1 (by simp [hl]; rw [show z.cells.size = 1 by simpa using hz]; exact (Nat.mul_one _).symm)
  simpa using this
theorem els_strs {w : World} {F : Nat → Prop} : ∀ {xs : List ByteArray} {cells : List Value}, ElsR Kd.str w F xs cells → cells = xs.map (.string ·)
 | [], cells, h => h
 | x :: xs, cells, ⟨c1, c2, e, h1, h2⟩ => by
  have h1' : c1 = [.string x] := h1
  rw [e, h1', els_strs h2]; rfl
theorem elsO_ints {w : World} : ∀ (xs : List Int), ElsO (Kd.int .u8) w xs (xs.map (.int .u8)) []
 | [] => ⟨rfl, rfl⟩
 | x :: xs => ⟨[.int .u8 x], xs.map (.int .u8), [], [], rfl, rfl, ⟨rfl, rfl⟩, elsO_ints xs⟩
section
variable {P : Program} {f : Who} {N : Nat} {O ρ : Type} {m : Option O} {G : O → Option ρ} {R : ρ → Ending → World → Prop} {e : Env} {s : St} {k : List Item} {ops : Array Oper} {i d : Nat} {rest : List Nat} {o : Oper}
theorem cvm {t te : TypeId} {x : Operand} {v : Value} {xs : List Int} {c : Nat} (hF : OwF (Kd.sl te (Kd.int .u8)) s [v] xs c) (hn : Nat.blt 0 xs.length = true) (hu : P.underlying t = some (.slice te)) (he : P.underlying te = some (.int .u8))
    (ho : ops[i]? = some o) (hd : o.dst = some d) (hN : Nat.blt d N = true) (hw : Region.wanted o (yv e ops) = true) (hop : o.op = .convert t t x) (hx : ev e x = v)
    (h : ∀ s', Stp [c] s s' → OwF (Kd.sl te (Kd.int .u8)) s' [v] xs c → TM P f N m G R (.inRegion ops rest :: k) (upd e d v) s'.w) : TM P f N m G R (.inRegion ops (i :: rest) :: k) e s.w := by
  obtain ⟨os, ⟨v1, e1, cells, o1, o2, rfl, hR, hE⟩, hnd, hcol⟩ := hF
  obtain rfl : v = v1 := by simpa using e1
  have hn' := Nat.le_of_ble_eq_true hn
  rcases hR.2 with ⟨_, h2, _⟩ | ⟨g, cap, cur, rfl, hg, hlc, hcm, hsz, htk, rfl⟩
  · omega
  · obtain ⟨k1, k2, k3, k4⟩ := hg.mark (P := P)
    have hgc := hcol g (by simp)
    refine vl (v := .slice (some ⟨g, 0, none⟩) xs.length cap) (w' := s.w.freeze ⟨g, cur.size, none⟩ 1) ho hd hN hw ?_ (h ⟨s.w.freeze ⟨g, cur.size, none⟩ 1, s.g⟩ ⟨rfl, rfl, rfl, by rw [k4]; exact Nat.le_refl _, fun _ _ _ => rfl, fun b hb hm => ⟨rfl, k3 b fun hb2 => ?_⟩⟩ ?_)
    · simp [execOp, hop, hx, convert, run_underlying hu, run_underlying he, k1, Result.andThen]
    · subst hb2; rw [hgc] at hm; simp [memb] at hm
    · exact ⟨[g] ++ [], ⟨_, rfl, cells, [g], [], rfl, ⟨hR.1, .inr ⟨g, cap, cur, rfl, k2, hlc, hcm, hsz, htk, rfl⟩⟩, by simpa using Xi.els _ (hE.rd.mono (F' := fun _ => True) fun _ _ _ => trivial)⟩, by simp, fun b hb => by simp at hb; subst hb; exact hgc⟩
theorem s2b {t t1 te : TypeId} {x : Operand} {a : ByteArray} (c : Nat) (hu : P.underlying t1 = some .string) (hu2 : P.underlying t = some (.slice te)) (he : P.underlying te = some (.int .u8))
    (ho : ops[i]? = some o) (hd : o.dst = some d) (hN : Nat.blt d N = true) (hw : Region.wanted o (yv e ops) = true) (hop : o.op = .convert t1 t x) (hx : ev e x = .string a)
    (h : ∀ v s', Stp [] s s' → OwF (Kd.sl te (Kd.int .u8)) s' [v] (bts a) c → TM P f N m G R (.inRegion ops rest :: k) (upd e d v) s'.w) :
    TM P f N (if a.size ≤ Lim then m else none) G R (.inRegion ops (i :: rest) :: k) e s.w := by
  refine mg fun hl => ?_
  have hl' : a.size ≤ maxLen := by unfold Lim at hl; simp only [maxLen]; omega
  have hcap := grownCap_ge s.w a.size 0 te
  have hcm := grownCap_le_maxLen s.w a.size 0 te hl'
  have hsz : (Lib.bytesCells s.w te a).size = grownCap s.w a.size 0 te := by simp [Lib.bytesCells]; omega
  refine vl (v := .slice (some ⟨s.w.heap.size, 0, none⟩) a.size (grownCap s.w a.size 0 te)) (w' := Lib.bytesWorld s.w te a) ho hd hN hw (by simp [execOp, hop, hx, Lib.run_convert_string_bytes s.w t1 t te a hu hu2 he, Result.andThen])
    (h _ ⟨Lib.bytesWorld s.w te a, fun b => if b < s.w.heap.size then s.g b else c⟩ ⟨rfl, rfl, rfl, by rw [Lib.bytesWorld_size]; omega, fun b hb _ => by simp [hb], fun b hb _ => ⟨by simp [hb], Lib.bytesWorld_at_old s.w te a b hb⟩⟩ ?_)
  have hbl := bts_len a
  refine ⟨[s.w.heap.size] ++ [], ⟨_, rfl, (bts a).map (.int .u8), [s.w.heap.size], [], rfl, ⟨by rw [List.length_map]; exact (Nat.mul_one _).symm, .inr ⟨s.w.heap.size, _, Lib.bytesCells s.w te a, by rw [hbl], ⟨_, Lib.bytesWorld_at_new s.w te a, .inr (Nat.le_refl _)⟩, by rw [hbl]; exact hcap, hcm, by rw [hsz]; exact (Nat.mul_one _).symm, ?_, rfl⟩⟩, ?_⟩, by simp, fun b hb => ?_⟩
  · rw [show (Kd.int .u8).n = 1 from rfl, Nat.mul_one, hbl]
    simp only [Lib.bytesCells, Array.toList_append, Array.toList_map]
    rw [List.take_left' (by simp)]
    simp [bts]
  · exact elsO_ints _
  · simp at hb; subst hb; simp
theorem sad {t t2 : TypeId} {x y : Operand} {a b : ByteArray}
    (ho : ops[i]? = some o) (hd : o.dst = some d) (hN : Nat.blt d N = true) (hw : Region.wanted o (yv e ops) = true) (hop : o.op = .binOp .add t x y t2) (hx : ev e x = .string a) (hy : ev e y = .string b)
    (h : TM P f N m G R (.inRegion ops rest :: k) (upd e d (.string (a ++ b))) s.w) : TM P f N (if a.size + b.size ≤ Lim then m else none) G R (.inRegion ops (i :: rest) :: k) e s.w := by
  refine mg fun hl => ?_
  have h1 : ¬ (((a.size + b.size : Nat) : Int) > IntKind.i64.max) := by unfold Lim at hl; have : IntKind.i64.max = 9223372036854775807 := rfl; omega
  refine vl ho hd hN hw ?_ h
  simp only [execOp, hop, hx, hy]
  have h2 : (eqGuard .add t x y (.string a) (.string b)).run P s.w = .ok () s.w := by simp [eqGuard]
  have h3 : (binOp .add t (.string a) (.string b)).run P s.w = .ok (.string (a ++ b)) s.w := by
    simp only [binOp, Op.stringOp]
    rw [if_neg h1]; rfl
  simp only [Sem.run_bind', h2, h3, Result.andThen, Sem.run_pure]
theorem sxi_q {t : TypeId} {x q : Operand} {a : ByteArray} {kk : IntKind} {ii : Int} (hu : P.underlying t = some .string) (hg : 0 ≤ ii ∧ ii < (a.size : Int))
    (ho : ops[i]? = some o) (hd : o.dst = some d) (hN : Nat.blt d N = true) (hw : Region.wanted o (yv e ops) = true) (hop : o.op = .index t x q) (hx : ev e x = .string a) (hq : ev e q = .int kk ii) : Qv P N ops e s.w i d (.int .u8 (at_ (bts a) ii)) := by
  have hl : ii.toNat < a.size := by omega
  have hb := bts_len a
  refine ⟨o, ho, hd, hN, by simp only [selB, hop], .inl ⟨hw, ?_⟩⟩
  rw [at_eq (bts a) ii (by omega)]
  have h2 : a[ii.toNat]? = some a[ii.toNat] := by simp [hl]
  simp [execOp, hop, hx, hq, Instr.index, asIntOf, run_underlying hu, hg.1, h2, Result.andThen, bts]
  rfl
end
section
variable {P : Program} {f : Who} {N : Nat} {O ρ : Type} {G : O → Option ρ} {R : ρ → Ending → World → Prop} {k : List Item} {e : Env} {ops : Array Oper}
theorem clV {α : Type} {x : Option α} {km : α → Option O} {i d : Nat} {rest : List Nat} {o : Oper} {g : FuncId} {fn : Func} {c : Code} {args : Array Operand} {ts : Array TypeId} {vs : List Value} {s : St} {V : α → Value} (cc : Nat) (t0 : E5 (ops[i]?) (some o) (o.dst) (some d) (Nat.blt d N) (true) (Region.wanted o (yv e ops)) (true) (o.op) (.call { callee := .value (.func g), args := args, argTypes := ts })) (hg : P.funcs[g]? = some fn) (t6 : E3 (fn.body) (some c) ((fn.name == "runtime.NumGoroutine")) (false) (args.toList.map (ev e)) (vs)) (hc : ∀ a, x = some a → Calls P g vs.toArray s.w fun en w' => ∃ v, en = .returned v ∧ v = V a ∧ Ky [] s.w w')
  (h : ∀ a s', Stp [] s s' → Nw s s' cc → TM P f N (km a) G R (.inRegion ops rest :: k) (upd e d (V a)) s'.w) : TM P f N (x.bind km) G R (.inRegion ops (i :: rest) :: k) e s.w :=
 cl (e5_ t0).1 (e5_ t0).2.1 (e5_ t0).2.2.1 (e5_ t0).2.2.2.1 (e5_ t0).2.2.2.2 hg (e3_ t6).1 (e3_ t6).2.1 (e3_ t6).2.2 hc fun a v w' _ hq => by
  obtain ⟨rfl, ky⟩ := hq
  obtain ⟨s', rfl, p, n⟩ := nwx s w' cc ky
  exact h a s' p n
theorem clO {α : Type} {x : Option α} {km : α → Option O} {i d : Nat} {rest : List Nat} {o : Oper} {g : FuncId} {fn : Func} {c : Code} {args : Array Operand} {ts : Array TypeId} {vs : List Value} {s : St} {β : Type} {K : Kd β} {X : α → β} (cc : Nat) (t0 : E5 (ops[i]?) (some o) (o.dst) (some d) (Nat.blt d N) (true) (Region.wanted o (yv e ops)) (true) (o.op) (.call { callee := .value (.func g), args := args, argTypes := ts })) (hg : P.funcs[g]? = some fn) (t6 : E3 (fn.body) (some c) ((fn.name == "runtime.NumGoroutine")) (false) (args.toList.map (ev e)) (vs)) (hc : ∀ a, x = some a → Calls P g vs.toArray s.w fun en w' => ∃ v, en = .returned v ∧ FO K s.w w' [v] (X a) ∧ Ky [] s.w w')
  (h : ∀ a v s', Stp [] s s' → OwF K s' [v] (X a) cc → TM P f N (km a) G R (.inRegion ops rest :: k) (upd e d v) s'.w) : TM P f N (x.bind km) G R (.inRegion ops (i :: rest) :: k) e s.w :=
 cl (e5_ t0).1 (e5_ t0).2.1 (e5_ t0).2.2.1 (e5_ t0).2.2.2.1 (e5_ t0).2.2.2.2 hg (e3_ t6).1 (e3_ t6).2.1 (e3_ t6).2.2 hc fun a v w' _ hq => by
  obtain ⟨f, ky⟩ := hq
  obtain ⟨s', rfl, p, n⟩ := nwx s w' cc ky
  exact h a v s' p (f.c n)
end
end Go.Proofs.YtiofnjnnocjbhaaDoor.V
