import Derived.Test.YtiofnjnnocjbhaaDoorG1
import Derived.RangeFuncRecord
import Derived.Lib.ConvBytes
set_option linter.unusedVariables false
set_option linter.unusedSimpArgs false
set_option linter.unusedSectionVars false
namespace Go.Proofs.YtiofnjnnocjbhaaDoor.V
open Go
section
variable {α : Type} [Inhabited α]
end
section
variable {β : Type} [Inhabited β] {K : Kd β} {te : TypeId}
def PkB (K : Kd β) (s : St) (ps : List (Pk β × List Nat)) (c : Nat) : Prop := (∀ p ∈ ps, K.ow s.w p.1.cs p.1.x p.2) ∧ ((ps.map (·.2)).flatten).Nodup ∧ ∀ b ∈ (ps.map (·.2)).flatten, s.g b = c
theorem mem_fl {ps : List (Pk β × List Nat)} {p : Pk β × List Nat} (h : p ∈ ps) {b : Nat} (hb : b ∈ p.2) : b ∈ (ps.map (·.2)).flatten := List.mem_flatten.2 ⟨p.2, List.mem_map.2 ⟨p, h, rfl⟩, hb⟩
theorem PkB.st {s s' : St} {S : List Nat} {ps : List (Pk β × List Nat)} {c : Nat} (h : PkB K s ps c) (p : Stp S s s') (d : memb S c = false) : PkB K s' ps c := by
 refine ⟨fun q hq => K.ow_frame (h.1 q hq) fun b hb hl => (p.same b hl (by rw [h.2.2 b (mem_fl hq hb)]; exact d)).2, h.2.1, fun b hb => ?_⟩
 obtain ⟨l, hl, hbl⟩ := List.mem_flatten.1 hb
 obtain ⟨q, hq, rfl⟩ := List.mem_map.1 hl
 rw [(p.same b (K.ow_lt (h.1 q hq) b hbl) (by rw [h.2.2 b hb]; exact d)).1, h.2.2 b hb]
end
end Go.Proofs.YtiofnjnnocjbhaaDoor.V
set_option linter.unusedVariables false
set_option linter.unusedSimpArgs false
namespace Go.Proofs.YtiofnjnnocjbhaaDoor.V
open Go
def cov : List Nat → List Nat → List Nat → Bool
 | [], _, _ => true
 | c :: D, E, C => (memb E c || memb C c) && cov D E C
theorem cov_out {D E C : List Nat} (h : cov D E C = true) {n : Nat} (hn : memb D n = true) : memb E n = true ∨ memb C n = true := by
 induction D with
 | nil => cases hn
 | cons c D ih =>
  simp only [cov, Bool.and_eq_true, Bool.or_eq_true] at h
  simp only [memb, Bool.or_eq_true] at hn
  rcases hn with hn | hn
  · have := Nat.eq_of_beq_eq_true hn
    subst this; exact h.1
  · exact ih h.2 hn
structure Rc (E : List Nat) (q : Nat) (s s' : St) : Prop where
 w : s.w = s'.w
 inn : ∀ b, memb E (s.g b) = true → s'.g b = q
 out : ∀ b, memb E (s.g b) = false → s'.g b = s.g b
theorem RdF.rc {α : Type} {K : Kd α} {s s' : St} {cs : List Value} {x : α} {D E C : List Nat} {q : Nat} (h : RdF K s cs x D) (r : Rc E q s s') (hq : memb C q = true) (hc : cov D E C = true) : RdF K s' cs x C := by
 unfold RdF at h ⊢
 rw [← r.w]
 refine K.rd_mono h fun b hb _ => ?_
 rcases cov_out hc hb with h1 | h1
 · rw [r.inn b h1]; exact hq
 · cases hm : memb E (s.g b) with
   | true => rw [r.inn b hm]; exact hq
   | false => rw [r.out b hm]; exact h1
end Go.Proofs.YtiofnjnnocjbhaaDoor.V
set_option linter.unusedVariables false
set_option linter.unusedSimpArgs false
namespace Go.Proofs.YtiofnjnnocjbhaaDoor.V
open Go
theorem ZN.bl {F : Nat → Prop} {ps : List (List Nat × Nat)} {s : St} (z : ZN F ps s) {b c : Nat} {t : TypeId} {cs : List Value} (hm : ([b], c) ∈ ps) (h : BlW s.w b t cs) : BlF s b t cs c := ⟨h, z.pt _ hm b (by simp)⟩
section
variable {P : Program} {N : Nat} {e : Env} {s : St} {ops : Array Oper} {i d : Nat} {o : Oper}
end
end Go.Proofs.YtiofnjnnocjbhaaDoor.V
set_option linter.unusedVariables false
set_option linter.unusedSimpArgs false
set_option linter.unusedSectionVars false
namespace Go.Proofs.YtiofnjnnocjbhaaDoor.V
open Go
end Go.Proofs.YtiofnjnnocjbhaaDoor.V
set_option linter.unusedVariables false
set_option linter.unusedSimpArgs false
namespace Go.Proofs.YtiofnjnnocjbhaaDoor.V
open Go
structure Wg (w w' : World) : Prop where
 os : w'.os = w.os
 tape : w'.tape = w.tape
 output : w'.output = w.output
 size : w.heap.size ≤ w'.heap.size
structure LpZ where
 l : Nat
 D : Nat
 lp : Loop
structure LoopF (Z : LpZ) (c : Nat) (st : LoopState) (s : St) : Prop where
 lh : s.w.heap[Z.l]? = some (.loop { Z.lp with state := st })
 dh : s.w.heap[Z.D]? = some (.deferred (some []))
 lc : s.g Z.l = c
 dc : s.g Z.D = c
 ne : Z.l ≠ Z.D
 pe : Z.lp.pending = none
theorem LoopF.st {Z : LpZ} {c : Nat} {st : LoopState} {s s' : St} {S : List Nat} (h : LoopF Z c st s) (p : Stp S s s') (d : memb S c = false) : LoopF Z c st s' := by
 have h1 := p.same Z.l (Array.getElem?_eq_some_iff.1 h.lh).1 (by rw [h.lc]; exact d)
 have h2 := p.same Z.D (Array.getElem?_eq_some_iff.1 h.dh).1 (by rw [h.dc]; exact d)
 exact ⟨h1.2.trans h.lh, h2.2.trans h.dh, h1.1.trans h.lc, h2.1.trans h.dc, h.ne, h.pe⟩
theorem LoopF.set {Z : LpZ} {c : Nat} {st : LoopState} {s : St} (h : LoopF Z c st s) (st' : LoopState) : ∃ s' : St, s'.w = s.w.putObj Z.l (.loop { Z.lp with state := st' }) ∧ Stp [c] s s' ∧ LoopF Z c st' s' := by
 refine ⟨⟨s.w.putObj Z.l (.loop { Z.lp with state := st' }), s.g⟩, rfl, ⟨rfl, rfl, rfl, by simp, fun _ _ _ => rfl, fun b hb hm => ⟨rfl, ?_⟩⟩, ⟨World.putObj_heap_same (Array.getElem?_eq_some_iff.1 h.lh).1, ?_, h.lc, h.dc, h.ne, h.pe⟩⟩
 · refine World.putObj_heap_other fun e => ?_
   subst e; rw [h.lc] at hm; simp [memb] at hm
 · exact (World.putObj_heap_other (Ne.symm h.ne)).trans h.dh
def JF {σ : Type} (J : σ → World → Prop) (s : St) (y : σ) : Prop := J y s.w
theorem Stp.ky {s s' : St} (p : Stp [] s s') : Ky [] s.w s'.w := ⟨p.os, p.tape, p.output, p.size, fun b hb _ => (p.same b hb rfl).2⟩
theorem JF.st {σ : Type} {J : σ → World → Prop} {s s' : St} {y : σ} (h : JF J s y) (hJ : ∀ y w w', J y w → Ky [] w w' → J y w') (p : Stp [] s s') : JF J s' y := hJ _ _ _ h p.ky
section
variable {P : Program} {f : Who} {N : Nat} {O ρ : Type} {m : Option O} {G : O → Option ρ} {R : ρ → Ending → World → Prop} {e : Env} {s : St} {w : World} {k : List Item} {ops : Array Oper} {i d : Nat} {rest : List Nat} {o : Oper}
end
end Go.Proofs.YtiofnjnnocjbhaaDoor.V
set_option linter.unusedVariables false
set_option linter.unusedSimpArgs false
namespace Go.Proofs.YtiofnjnnocjbhaaDoor.V
open Go
def bts (x : ByteArray) : List Int := x.data.toList.map fun b => (b.toNat : Int)
theorem bts_len (x : ByteArray) : (bts x).length = x.size := by simp [bts]
theorem Hr.mark {P : Program} {w : World} {g : Nat} {cur : Array Value} {e : TypeId} (h : Hr w g cur e) : (markStringish ⟨g, 0, none⟩).run P w = .ok () (w.freeze ⟨g, cur.size, none⟩ 1) ∧ Hr (w.freeze ⟨g, cur.size, none⟩ 1) g cur e ∧ (∀ b, b ≠ g → (w.freeze ⟨g, cur.size, none⟩ 1).heap[b]? = w.heap[b]?) ∧ (w.freeze ⟨g, cur.size, none⟩ 1).heap.size = w.heap.size := by
 obtain ⟨⟨lo, hi⟩, h, h2⟩ := h
 have hsh : w.shape? g = some (e, cur.size) := by unfold World.shape?; rw [h]
 refine ⟨?_, ⟨(if lo == hi then (cur.size, cur.size + 1) else (min lo cur.size, max hi (cur.size + 1))), ?_, ?_⟩, fun b hb => ?_, ?_⟩
 · simp [markStringish, hsh, Result.andThen]
 · simp only [World.freeze, Nat.one_ne_zero, if_false]
   rw [Array.getElem?_modify, if_pos rfl, h]; rfl
 · right
   split
   · exact Nat.le_refl _
   · rcases h2 with h2 | h2
     · obtain ⟨rfl, rfl⟩ := Prod.mk.inj h2
       rename_i hh; simp at hh
     · simp only at h2 ⊢; omega
 · simp only [World.freeze, Nat.one_ne_zero, if_false]
   rw [Array.getElem?_modify, if_neg (fun e => hb e.symm)]
 · simp [World.freeze]
def Kd.glb (bs : List Nat) (Φ : World → Prop) (hΦ : ∀ w w' : World, (∀ b ∈ bs, w'.heap[b]? = w.heap[b]?) → Φ w → Φ w') : Kd Unit where
 n := 0
 rd := fun w cs _ F => cs = [] ∧ Φ w ∧ ∀ b ∈ bs, F b ∧ b < w.heap.size
 ow := fun _ _ _ _ => False
 rd_len := fun h => by rw [h.1]; rfl
 rd_one := fun h v hv => by rw [h.1] at hv; cases hv
 rd_frame := fun {w w' cs x F} h ha => ⟨h.1, hΦ w w' (fun b hb => ha b (h.2.2 b hb).1 (h.2.2 b hb).2) h.2.1, fun b hb => ⟨(h.2.2 b hb).1, by
  have h1 := ha b (h.2.2 b hb).1 (h.2.2 b hb).2
  rw [Array.getElem?_eq_getElem (h.2.2 b hb).2] at h1
  exact (Array.getElem?_eq_some_iff.1 h1).1⟩⟩
 rd_mono := fun h hF => ⟨h.1, h.2.1, fun b hb => ⟨hF b (h.2.2 b hb).1 (h.2.2 b hb).2, (h.2.2 b hb).2⟩⟩
 ow_frame := fun h => h.elim
 ow_lt := fun h => h.elim
 ow_rd := fun h => h.elim
theorem var_fr {P : Program} {w w' : World} {nm : String} {g : Nat} (hg : P.globalNamed nm = some g) (h : w'.heap[g]? = w.heap[g]?) : w'.var? P nm = w.var? P nm := by
 unfold World.var?
 rw [hg]
 simp only [Option.bind_some, h]
theorem var_lt {P : Program} {w : World} {nm : String} {g : Nat} {cs : Array Value} (hg : P.globalNamed nm = some g) (h : w.var? P nm = some cs) : g < w.heap.size := by
 unfold World.var? at h
 rw [hg] at h
 simp only [Option.bind_some] at h
 cases hh : w.heap[g]? with
 | none => rw [hh] at h; cases h
 | some o => exact (Array.getElem?_eq_some_iff.1 hh).1
def enum : Nat → List Value → List (Nat × Value)
 | _, [] => []
 | q, v :: vs => (q, v) :: enum (q + 1) vs
theorem lfill_lin : ∀ (vs : List Value) (pre zs : List Value), vs.all (·.oneCell') = true → vs.length = zs.length → lfill (fun i => some (i * 1, 1)) (pre ++ zs) (enum pre.length vs) = some (pre ++ vs)
 | [], pre, zs, _, hl => by
  obtain rfl : zs = [] := List.eq_nil_of_length_eq_zero hl.symm
  rfl
 | v :: vs, pre, [], _, hl => by cases hl
 | v :: vs, pre, z :: zs, h1, hl => by
  simp only [List.all_cons, Bool.and_eq_true] at h1
  have hc : v.cells = #[v] := by cases v <;> first | rfl | cases h1.1
  have ih := lfill_lin vs (pre ++ [v]) zs h1.2 (by simpa using hl)
  simp only [enum, lfill, Nat.mul_one, hc, List.length_cons, List.length_nil, List.length_append, sets]
  rw [if_neg (by omega), List.set_append_right _ _ (Nat.le_refl _), Nat.sub_self, List.set_cons_zero]
  simpa using ih
theorem lfill_c {n l : Nat} {z : Value} {parts : List (Nat × Value)} {cells : List Value} (hn : n = 1) (hz : z.cells.toList.length = 1) (hl : cells.length = l) (h1 : cells.all (·.oneCell') = true) (hp : parts = enum 0 cells) :
    lfill (fun i => some (i * n, n)) (List.replicate l z.cells.toList).flatten parts = some cells := by
  subst hn
  subst hp
  have := lfill_lin cells [] (List.replicate l z.cells.toList).flatten h1 (by simp [hl]; rw [show z.cells.size = 1 by simpa using hz]; exact (Nat.mul_one _).symm)
  simpa using this
def EV (v : Value) (b : Bool) : Prop := (b = true ∧ v = .nilIface) ∨ (b = false ∧ ∃ t p, v = .iface t p)
section
variable {P : Program} {f : Who} {N : Nat} {O ρ : Type} {m : Option O} {G : O → Option ρ} {R : ρ → Ending → World → Prop} {e : Env} {s : St} {k : List Item} {ops : Array Oper} {i d : Nat} {rest : List Nat} {o : Oper}
theorem cvm {t te : TypeId} {x : Operand} {v : Value} {xs : List Int} {c : Nat} (hF : OwF (Kd.sl te (Kd.int .u8)) s [v] xs c) (hn : Nat.blt 0 xs.length = true) (hu : P.underlying t = some (.slice te)) (he : P.underlying te = some (.int .u8))
    (ho : ops[i]? = some o) (hd : o.dst = some d) (hN : Nat.blt d N = true) (hw : Region.wanted o (yv e ops) = true) (hop : o.op = .convert t t x) (hx : ev e x = v)
    (h : ∀ s', Stp [c] s s' → OwF (Kd.sl te (Kd.int .u8)) s' [v] xs c → TM P f N m G R (.inRegion ops rest :: k) (upd e d v) s'.w) : TM P f N m G R (.inRegion ops (i :: rest) :: k) e s.w := by
  obtain ⟨os, ⟨v1, e1, cells, o1, o2, rfl, hR, hE⟩, hnd, hcol⟩ := hF
  obtain rfl : v = v1 := by simpa using e1
  have hn' := Nat.le_of_ble_eq_true hn
  rcases hR.2 with ⟨_, h2, _⟩ | ⟨g, cap, cur, rfl, hg, hlc, hcm, hsz, htk, rfl⟩
  · omega
  · obtain ⟨k1, k2, k3, k4⟩ := hg.mark (P := P)
    have hgc := hcol g (by simp)
    refine vl (v := .slice (some ⟨g, 0, none⟩) xs.length cap) (w' := s.w.freeze ⟨g, cur.size, none⟩ 1) ho hd hN hw ?_ (h ⟨s.w.freeze ⟨g, cur.size, none⟩ 1, s.g⟩ ⟨rfl, rfl, rfl, by rw [k4]; exact Nat.le_refl _, fun _ _ _ => rfl, fun b hb hm => ⟨rfl, k3 b fun hb2 => ?_⟩⟩ ?_)
    · simp [execOp, hop, hx, convert, run_underlying hu, run_underlying he, k1, Result.andThen]
    · subst hb2; rw [hgc] at hm; simp [memb] at hm
    · exact ⟨[g] ++ [], ⟨_, rfl, cells, [g], [], rfl, ⟨hR.1, .inr ⟨g, cap, cur, rfl, k2, hlc, hcm, hsz, htk, rfl⟩⟩, by simpa using Xf.els _ (hE.rd.mono (F' := fun _ => True) fun _ _ _ => trivial)⟩, by simp, fun b hb => by simp at hb; subst hb; exact hgc⟩
theorem sxi {t : TypeId} {x q : Operand} {a : ByteArray} {kk : IntKind} {ii : Int} (hu : P.underlying t = some .string)
    (ho : ops[i]? = some o) (hd : o.dst = some d) (hN : Nat.blt d N = true) (hw : Region.wanted o (yv e ops) = true) (hop : o.op = .index t x q) (hx : ev e x = .string a) (hq : ev e q = .int kk ii)
    (h : TM P f N m G R (.inRegion ops rest :: k) (upd e d (.int .u8 (at_ (bts a) ii))) s.w) : TM P f N (if 0 ≤ ii ∧ ii < (a.size : Int) then m else none) G R (.inRegion ops (i :: rest) :: k) e s.w := by
  refine mg fun hg => ?_
  have hl : ii.toNat < a.size := by omega
  have hb := bts_len a
  refine vl ho hd hN hw ?_ h
  rw [at_eq (bts a) ii (by omega)]
  have h2 : a[ii.toNat]? = some a[ii.toNat] := by simp [hl]
  simp [execOp, hop, hx, hq, Instr.index, asIntOf, run_underlying hu, hg.1, h2, Result.andThen, bts]
  rfl
theorem sct {t : TypeId} {x : Operand} {lo hi : Option Operand} {a : ByteArray} (p q : Int) (hu : P.underlying t = some .string)
    (ho : ops[i]? = some o) (hd : o.dst = some d) (hN : Nat.blt d N = true) (hw : Region.wanted o (yv e ops) = true) (hop : o.op = .slice t x lo hi none) (hx : ev e x = .string a)
    (hlo : (lo = none ∧ p = 0) ∨ ∃ l k, lo = some l ∧ ev e l = .int k p) (hhi : (hi = none ∧ q = (a.size : Int)) ∨ ∃ l k, hi = some l ∧ ev e l = .int k q)
    (h : TM P f N m G R (.inRegion ops rest :: k) (upd e d (.string (a.extract p.toNat q.toNat))) s.w) : TM P f N (if 0 ≤ p ∧ p ≤ q ∧ q ≤ (a.size : Int) then m else none) G R (.inRegion ops (i :: rest) :: k) e s.w := by
  refine mg fun ⟨h0, h1, h2⟩ => ?_
  refine vl ho hd hN hw ?_ h
  have h3 : 0 ≤ q := by omega
  have h4 : p ≤ max q 0 := by omega
  have h5 : q ≤ (a.size : Int) := h2
  have h6 : ((a.size : Int)).toNat = a.size := by simp
  rcases hlo with ⟨rfl, rfl⟩ | ⟨l, k1, rfl, hl⟩ <;> rcases hhi with ⟨rfl, rfl⟩ | ⟨l2, k2, rfl, hl2⟩ <;>
    simp [execOp, hop, hx, Instr.sliceAt, Instr.slice, run_underlying hu, Instr.sliceBounds, Instr.sliceBound, asIntOf, Result.andThen, *]
theorem sad {t t2 : TypeId} {x y : Operand} {a b : ByteArray}
    (ho : ops[i]? = some o) (hd : o.dst = some d) (hN : Nat.blt d N = true) (hw : Region.wanted o (yv e ops) = true) (hop : o.op = .binOp .add t x y t2) (hx : ev e x = .string a) (hy : ev e y = .string b)
    (h : TM P f N m G R (.inRegion ops rest :: k) (upd e d (.string (a ++ b))) s.w) : TM P f N (if a.size + b.size ≤ Lim then m else none) G R (.inRegion ops (i :: rest) :: k) e s.w := by
  refine mg fun hl => ?_
  have h1 : ¬ (((a.size + b.size : Nat) : Int) > IntKind.i64.max) := by unfold Lim at hl; have : IntKind.i64.max = 9223372036854775807 := rfl; omega
  refine vl ho hd hN hw ?_ h
  simp only [execOp, hop, hx, hy]
  have h2 : (eqGuard .add t x y (.string a) (.string b)).run P s.w = .ok () s.w := by simp [eqGuard]
  have h3 : (binOp .add t (.string a) (.string b)).run P s.w = .ok (.string (a ++ b)) s.w := by
    simp only [binOp, Op.stringOp]
    rw [if_neg h1]; rfl
  simp only [Sem.run_bind', h2, h3, Result.andThen, Sem.run_pure]
theorem sxi_q {t : TypeId} {x q : Operand} {a : ByteArray} {kk : IntKind} {ii : Int} (hu : P.underlying t = some .string) (hg : 0 ≤ ii ∧ ii < (a.size : Int))
    (ho : ops[i]? = some o) (hd : o.dst = some d) (hN : Nat.blt d N = true) (hw : Region.wanted o (yv e ops) = true) (hop : o.op = .index t x q) (hx : ev e x = .string a) (hq : ev e q = .int kk ii) : Qv P N ops e s.w i d (.int .u8 (at_ (bts a) ii)) := by
  have hl : ii.toNat < a.size := by omega
  have hb := bts_len a
  refine ⟨o, ho, hd, hN, by simp only [selB, hop], .inl ⟨hw, ?_⟩⟩
  rw [at_eq (bts a) ii (by omega)]
  have h2 : a[ii.toNat]? = some a[ii.toNat] := by simp [hl]
  simp [execOp, hop, hx, hq, Instr.index, asIntOf, run_underlying hu, hg.1, h2, Result.andThen, bts]
  rfl
theorem er_run {w : World} {t : TypeId} {ms : Array (String × TypeId)} {v : Value} {b : Bool} (hv : EV v b) (hu : P.underlying t = some (.interface ms)) : (Op.equal t v .nilIface).run P w = .ok b w := by
 rcases hv with ⟨rfl, rfl⟩ | ⟨rfl, tt, p, rfl⟩
 · have h : ∀ d : Nat, (Op.equalIn (d + 1) t .nilIface .nilIface).run P w = .ok true w := fun d => by simp [Op.equalIn, run_underlying hu]
   simp [Op.equal, Op.maxDepth, h 9999]
 · have h : ∀ d : Nat, (Op.equalIn (d + 1) t (.iface tt p) .nilIface).run P w = .ok false w := fun d => by simp [Op.equalIn, run_underlying hu]
   simp [Op.equal, Op.maxDepth, h 9999]
theorem er_guard {w : World} {op : BinOp} {t : TypeId} {X : Operand} {c v : Value} {b : Bool} (hv : EV v b) (ho : op = .eql ∨ op = .neq) : (eqGuard op t X (.const c) v .nilIface).run P w = .ok () w := by
 rcases hv with ⟨rfl, rfl⟩ | ⟨rfl, tt, p, rfl⟩ <;> rcases ho with rfl | rfl <;> simp [eqGuard]
theorem ernon {t t2 : TypeId} {ms : Array (String × TypeId)} {x : Operand} {c v : Value} {b : Bool} (hv : EV v b) (hu : P.underlying t = some (.interface ms))
    (ho : ops[i]? = some o) (hd : o.dst = some d) (hN : Nat.blt d N = true) (hw : Region.wanted o (yv e ops) = true) (hop : o.op = .binOp .neq t x (.const c) t2) (hx : ev e x = v) (hy : ev e (.const c) = .nilIface)
    (h : TM P f N m G R (.inRegion ops rest :: k) (upd e d (.bool (!b))) s.w) : TM P f N m G R (.inRegion ops (i :: rest) :: k) e s.w := by
  refine vl ho hd hN hw ?_ h
  simp only [execOp, hop, hx, hy]
  have h2 : (binOp .neq t v .nilIface).run P s.w = .ok (.bool (!b)) s.w := by
    rcases hv with ⟨rfl, rfl⟩ | ⟨rfl, tt, p, rfl⟩
    · simp only [binOp]; rw [Sem.run_bind', er_run (.inl ⟨rfl, rfl⟩) hu]; rfl
    · simp only [binOp]; rw [Sem.run_bind', er_run (.inr ⟨rfl, tt, p, rfl⟩) hu]; rfl
  simp only [Sem.run_bind', er_guard hv (.inr rfl), h2, Result.andThen, Sem.run_pure]
end
section
variable {P : Program} {f : Who} {N : Nat} {O ρ : Type} {G : O → Option ρ} {R : ρ → Ending → World → Prop} {k : List Item} {e : Env} {ops : Array Oper}
theorem clV {α : Type} {x : Option α} {km : α → Option O} {i d : Nat} {rest : List Nat} {o : Oper} {g : FuncId} {fn : Func} {c : Code} {args : Array Operand} {ts : Array TypeId} {vs : List Value} {s : St} {V : α → Value} (cc : Nat) (t0 : E5 (ops[i]?) (some o) (o.dst) (some d) (Nat.blt d N) (true) (Region.wanted o (yv e ops)) (true) (o.op) (.call { callee := .value (.func g), args := args, argTypes := ts })) (hg : P.funcs[g]? = some fn) (t6 : E3 (fn.body) (some c) ((fn.name == "runtime.NumGoroutine")) (false) (args.toList.map (ev e)) (vs)) (hc : ∀ a, x = some a → Calls P g vs.toArray s.w fun en w' => ∃ v, en = .returned v ∧ v = V a ∧ Ky [] s.w w')
  (h : ∀ a s', Stp [] s s' → Nw s s' cc → TM P f N (km a) G R (.inRegion ops rest :: k) (upd e d (V a)) s'.w) : TM P f N (x.bind km) G R (.inRegion ops (i :: rest) :: k) e s.w :=
 cl (e5_ t0).1 (e5_ t0).2.1 (e5_ t0).2.2.1 (e5_ t0).2.2.2.1 (e5_ t0).2.2.2.2 hg (e3_ t6).1 (e3_ t6).2.1 (e3_ t6).2.2 hc fun a v w' _ hq => by
  obtain ⟨rfl, ky⟩ := hq
  obtain ⟨s', rfl, p, n⟩ := nwx s w' cc ky
  exact h a s' p n
theorem clO {α : Type} {x : Option α} {km : α → Option O} {i d : Nat} {rest : List Nat} {o : Oper} {g : FuncId} {fn : Func} {c : Code} {args : Array Operand} {ts : Array TypeId} {vs : List Value} {s : St} {β : Type} {K : Kd β} {X : α → β} (cc : Nat) (t0 : E5 (ops[i]?) (some o) (o.dst) (some d) (Nat.blt d N) (true) (Region.wanted o (yv e ops)) (true) (o.op) (.call { callee := .value (.func g), args := args, argTypes := ts })) (hg : P.funcs[g]? = some fn) (t6 : E3 (fn.body) (some c) ((fn.name == "runtime.NumGoroutine")) (false) (args.toList.map (ev e)) (vs)) (hc : ∀ a, x = some a → Calls P g vs.toArray s.w fun en w' => ∃ v, en = .returned v ∧ FO K s.w w' [v] (X a) ∧ Ky [] s.w w')
  (h : ∀ a v s', Stp [] s s' → OwF K s' [v] (X a) cc → TM P f N (km a) G R (.inRegion ops rest :: k) (upd e d v) s'.w) : TM P f N (x.bind km) G R (.inRegion ops (i :: rest) :: k) e s.w :=
 cl (e5_ t0).1 (e5_ t0).2.1 (e5_ t0).2.2.1 (e5_ t0).2.2.2.1 (e5_ t0).2.2.2.2 hg (e3_ t6).1 (e3_ t6).2.1 (e3_ t6).2.2 hc fun a v w' _ hq => by
  obtain ⟨f, ky⟩ := hq
  obtain ⟨s', rfl, p, n⟩ := nwx s w' cc ky
  exact h a v s' p (f.c n)
end
end Go.Proofs.YtiofnjnnocjbhaaDoor.V
