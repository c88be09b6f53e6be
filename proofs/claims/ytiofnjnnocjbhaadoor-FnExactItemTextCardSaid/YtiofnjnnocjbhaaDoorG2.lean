import Derived.Test.YtiofnjnnocjbhaaDoorG1
import Derived.Lib.ConvBytes
set_option linter.unusedVariables false
set_option linter.unusedSimpArgs false
namespace Go.Proofs.YtiofnjnnocjbhaaDoor.V
open Go
def bts (x : ByteArray) : List Int := x.data.toList.map fun b => (b.toNat : Int)
theorem bts_len (x : ByteArray) : (bts x).length = x.size := by simp [bts]
theorem Hr.mark {P : Program} {w : World} {g : Nat} {cur : Array Value} {e : TypeId} (h : Hr w g cur e) : (markStringish ⟨g, 0, none⟩).run P w = .ok () (w.freeze ⟨g, cur.size, none⟩ 1) ∧ Hr (w.freeze ⟨g, cur.size, none⟩ 1) g cur e ∧ (∀ b, b ≠ g → (w.freeze ⟨g, cur.size, none⟩ 1).heap[b]? = w.heap[b]?) ∧ (w.freeze ⟨g, cur.size, none⟩ 1).heap.size = w.heap.size := by
 obtain ⟨⟨lo, hi⟩, h, h2⟩ := h
 have hsh : w.shape? g = some (e, cur.size) := by unfold World.shape?; rw [h]
 refine ⟨?_, ⟨(if lo == hi then (cur.size, cur.size + 1) else (min lo cur.size, max hi (cur.size + 1))), ?_, ?_⟩, fun b hb => ?_, ?_⟩
 · simp [markStringish, hsh, Result.andThen]
 · simp only [World.freeze, Nat.one_ne_zero, if_false]
   rw [Array.getElem?_modify, if_pos rfl, h]; rfl
 · right
   split
   · exact Nat.le_refl _
   · rcases h2 with h2 | h2
     · obtain ⟨rfl, rfl⟩ := Prod.mk.inj h2
       rename_i hh; simp at hh
     · simp only at h2 ⊢; omega
 · simp only [World.freeze, Nat.one_ne_zero, if_false]
   rw [Array.getElem?_modify, if_neg (fun e => hb e.symm)]
 · simp [World.freeze]
def Kd.glb (bs : List Nat) (Φ : World → Prop) (hΦ : ∀ w w' : World, (∀ b ∈ bs, w'.heap[b]? = w.heap[b]?) → Φ w → Φ w') : Kd Unit where
 n := 0
 rd := fun w cs _ F => cs = [] ∧ Φ w ∧ ∀ b ∈ bs, F b ∧ b < w.heap.size
 ow := fun _ _ _ _ => False
 rd_len := fun h => by rw [h.1]; rfl
 rd_one := fun h v hv => by rw [h.1] at hv; cases hv
 rd_frame := fun {w w' cs x F} h ha => ⟨h.1, hΦ w w' (fun b hb => ha b (h.2.2 b hb).1 (h.2.2 b hb).2) h.2.1, fun b hb => ⟨(h.2.2 b hb).1, by
  have h1 := ha b (h.2.2 b hb).1 (h.2.2 b hb).2
  rw [Array.getElem?_eq_getElem (h.2.2 b hb).2] at h1
  exact (Array.getElem?_eq_some_iff.1 h1).1⟩⟩
 rd_mono := fun h hF => ⟨h.1, h.2.1, fun b hb => ⟨hF b (h.2.2 b hb).1 (h.2.2 b hb).2, (h.2.2 b hb).2⟩⟩
 ow_frame := fun h => h.elim
 ow_lt := fun h => h.elim
 ow_rd := fun h => h.elim
theorem var_fr {P : Program} {w w' : World} {nm : String} {g : Nat} (hg : P.globalNamed nm = some g) (h : w'.heap[g]? = w.heap[g]?) : w'.var? P nm = w.var? P nm := by
 unfold World.var?
 rw [hg]
 simp only [Option.bind_some, h]
theorem var_lt {P : Program} {w : World} {nm : String} {g : Nat} {cs : Array Value} (hg : P.globalNamed nm = some g) (h : w.var? P nm = some cs) : g < w.heap.size := by
 unfold World.var? at h
 rw [hg] at h
 simp only [Option.bind_some] at h
 cases hh : w.heap[g]? with
 | none => rw [hh] at h; cases h
 | some o => exact (Array.getElem?_eq_some_iff.1 hh).1
def enum : Nat → List Value → List (Nat × Value)
 | _, [] => []
 | q, v :: vs => (q, v) :: enum (q + 1) vs
theorem lfill_lin : ∀ (vs : List Value) (pre zs : List Value), vs.all (·.oneCell') = true → vs.length = zs.length → lfill (fun i => some (i * 1, 1)) (pre ++ zs) (enum pre.length vs) = some (pre ++ vs)
 | [], pre, zs, _, hl => by
  obtain rfl : zs = [] := List.eq_nil_of_length_eq_zero hl.symm
  rfl
 | v :: vs, pre, [], _, hl => by cases hl
 | v :: vs, pre, z :: zs, h1, hl => by
  simp only [List.all_cons, Bool.and_eq_true] at h1
  have hc : v.cells = #[v] := by cases v <;> first | rfl | cases h1.1
  have ih := lfill_lin vs (pre ++ [v]) zs h1.2 (by simpa using hl)
  simp only [enum, lfill, Nat.mul_one, hc, List.length_cons, List.length_nil, List.length_append, sets]
  rw [if_neg (by omega), List.set_append_right _ _ (Nat.le_refl _), Nat.sub_self, List.set_cons_zero]
  simpa using ih
theorem lfill_c {n l : Nat} {z : Value} {parts : List (Nat × Value)} {cells : List Value} (hn : n = 1) (hz : z.cells.toList.length = 1) (hl : cells.length = l) (h1 : cells.all (·.oneCell') = true) (hp : parts = enum 0 cells) :
    lfill (fun i => some (i * n, n)) (List.replicate l z.cells.toList).flatten parts = some cells := by
  subst hn
  subst hp
  have := lfill_lin cells [] (List.replicate l z.cells.toList).flatten h1 (by simp [hl]; rw [show z.cells.size = 1 by simpa using hz]; exact (Nat.mul_one _).symm)
  simpa using this
theorem elsO_ints {w : World} : ∀ (xs : List Int), ElsO (Kd.int .u8) w xs (xs.map (.int .u8)) []
 | [] => ⟨rfl, rfl⟩
 | x :: xs => ⟨[.int .u8 x], xs.map (.int .u8), [], [], rfl, rfl, ⟨rfl, rfl⟩, elsO_ints xs⟩
section
variable {P : Program} {f : Who} {N : Nat} {O ρ : Type} {m : Option O} {G : O → Option ρ} {R : ρ → Ending → World → Prop} {e : Env} {s : St} {k : List Item} {ops : Array Oper} {i d : Nat} {rest : List Nat} {o : Oper}
theorem cvm {t te : TypeId} {x : Operand} {v : Value} {xs : List Int} {c : Nat} (hF : OwF (Kd.sl te (Kd.int .u8)) s [v] xs c) (hn : Nat.blt 0 xs.length = true) (hu : P.underlying t = some (.slice te)) (he : P.underlying te = some (.int .u8))
    (ho : ops[i]? = some o) (hd : o.dst = some d) (hN : Nat.blt d N = true) (hw : Region.wanted o (yv e ops) = true) (hop : o.op = .convert t t x) (hx : ev e x = v)
    (h : ∀ s', Stp [c] s s' → OwF (Kd.sl te (Kd.int .u8)) s' [v] xs c → TM P f N m G R (.inRegion ops rest :: k) (upd e d v) s'.w) : TM P f N m G R (.inRegion ops (i :: rest) :: k) e s.w := by
  obtain ⟨os, ⟨v1, e1, cells, o1, o2, rfl, hR, hE⟩, hnd, hcol⟩ := hF
  obtain rfl : v = v1 := by simpa using e1
  have hn' := Nat.le_of_ble_eq_true hn
  rcases hR.2 with ⟨_, h2, _⟩ | ⟨g, cap, cur, rfl, hg, hlc, hcm, hsz, htk, rfl⟩
  · omega
  · obtain ⟨k1, k2, k3, k4⟩ := hg.mark (P := P)
    have hgc := hcol g (by simp)
    refine vl (v := .slice (some ⟨g, 0, none⟩) xs.length cap) (w' := s.w.freeze ⟨g, cur.size, none⟩ 1) ho hd hN hw ?_ (h ⟨s.w.freeze ⟨g, cur.size, none⟩ 1, s.g⟩ ⟨rfl, rfl, rfl, by rw [k4]; exact Nat.le_refl _, fun _ _ _ => rfl, fun b hb hm => ⟨rfl, k3 b fun hb2 => ?_⟩⟩ ?_)
    · simp [execOp, hop, hx, convert, run_underlying hu, run_underlying he, k1, Result.andThen]
    · subst hb2; rw [hgc] at hm; simp [memb] at hm
    · exact ⟨[g] ++ [], ⟨_, rfl, cells, [g], [], rfl, ⟨hR.1, .inr ⟨g, cap, cur, rfl, k2, hlc, hcm, hsz, htk, rfl⟩⟩, by simpa using Xd.els _ (hE.rd.mono (F' := fun _ => True) fun _ _ _ => trivial)⟩, by simp, fun b hb => by simp at hb; subst hb; exact hgc⟩
theorem s2b {t t1 te : TypeId} {x : Operand} {a : ByteArray} (c : Nat) (hu : P.underlying t1 = some .string) (hu2 : P.underlying t = some (.slice te)) (he : P.underlying te = some (.int .u8))
    (ho : ops[i]? = some o) (hd : o.dst = some d) (hN : Nat.blt d N = true) (hw : Region.wanted o (yv e ops) = true) (hop : o.op = .convert t1 t x) (hx : ev e x = .string a)
    (h : ∀ v s', Stp [] s s' → OwF (Kd.sl te (Kd.int .u8)) s' [v] (bts a) c → TM P f N m G R (.inRegion ops rest :: k) (upd e d v) s'.w) :
    TM P f N (if a.size ≤ Lim then m else none) G R (.inRegion ops (i :: rest) :: k) e s.w := by
  refine mg fun hl => ?_
  have hl' : a.size ≤ maxLen := by unfold Lim at hl; simp only [maxLen]; omega
  have hcap := grownCap_ge s.w a.size 0 te
  have hcm := grownCap_le_maxLen s.w a.size 0 te hl'
  have hsz : (Lib.bytesCells s.w te a).size = grownCap s.w a.size 0 te := by simp [Lib.bytesCells]; omega
  refine vl (v := .slice (some ⟨s.w.heap.size, 0, none⟩) a.size (grownCap s.w a.size 0 te)) (w' := Lib.bytesWorld s.w te a) ho hd hN hw (by simp [execOp, hop, hx, Lib.run_convert_string_bytes s.w t1 t te a hu hu2 he, Result.andThen])
    (h _ ⟨Lib.bytesWorld s.w te a, fun b => if b < s.w.heap.size then s.g b else c⟩ ⟨rfl, rfl, rfl, by rw [Lib.bytesWorld_size]; omega, fun b hb _ => by simp [hb], fun b hb _ => ⟨by simp [hb], Lib.bytesWorld_at_old s.w te a b hb⟩⟩ ?_)
  have hbl := bts_len a
  refine ⟨[s.w.heap.size] ++ [], ⟨_, rfl, (bts a).map (.int .u8), [s.w.heap.size], [], rfl, ⟨by rw [List.length_map]; exact (Nat.mul_one _).symm, .inr ⟨s.w.heap.size, _, Lib.bytesCells s.w te a, by rw [hbl], ⟨_, Lib.bytesWorld_at_new s.w te a, .inr (Nat.le_refl _)⟩, by rw [hbl]; exact hcap, hcm, by rw [hsz]; exact (Nat.mul_one _).symm, ?_, rfl⟩⟩, ?_⟩, by simp, fun b hb => ?_⟩
  · rw [show (Kd.int .u8).n = 1 from rfl, Nat.mul_one, hbl]
    simp only [Lib.bytesCells, Array.toList_append, Array.toList_map]
    rw [List.take_left' (by simp)]
    simp [bts]
  · exact elsO_ints _
  · simp at hb; subst hb; simp
theorem sxi {t : TypeId} {x q : Operand} {a : ByteArray} {kk : IntKind} {ii : Int} (hu : P.underlying t = some .string)
    (ho : ops[i]? = some o) (hd : o.dst = some d) (hN : Nat.blt d N = true) (hw : Region.wanted o (yv e ops) = true) (hop : o.op = .index t x q) (hx : ev e x = .string a) (hq : ev e q = .int kk ii)
    (h : TM P f N m G R (.inRegion ops rest :: k) (upd e d (.int .u8 (at_ (bts a) ii))) s.w) : TM P f N (if 0 ≤ ii ∧ ii < (a.size : Int) then m else none) G R (.inRegion ops (i :: rest) :: k) e s.w := by
  refine mg fun hg => ?_
  have hl : ii.toNat < a.size := by omega
  have hb := bts_len a
  refine vl ho hd hN hw ?_ h
  rw [at_eq (bts a) ii (by omega)]
  have h2 : a[ii.toNat]? = some a[ii.toNat] := by simp [hl]
  simp [execOp, hop, hx, hq, Instr.index, asIntOf, run_underlying hu, hg.1, h2, Result.andThen, bts]
  rfl
theorem sad {t t2 : TypeId} {x y : Operand} {a b : ByteArray}
    (ho : ops[i]? = some o) (hd : o.dst = some d) (hN : Nat.blt d N = true) (hw : Region.wanted o (yv e ops) = true) (hop : o.op = .binOp .add t x y t2) (hx : ev e x = .string a) (hy : ev e y = .string b)
    (h : TM P f N m G R (.inRegion ops rest :: k) (upd e d (.string (a ++ b))) s.w) : TM P f N (if a.size + b.size ≤ Lim then m else none) G R (.inRegion ops (i :: rest) :: k) e s.w := by
  refine mg fun hl => ?_
  have h1 : ¬ (((a.size + b.size : Nat) : Int) > IntKind.i64.max) := by unfold Lim at hl; have : IntKind.i64.max = 9223372036854775807 := rfl; omega
  refine vl ho hd hN hw ?_ h
  simp only [execOp, hop, hx, hy]
  have h2 : (eqGuard .add t x y (.string a) (.string b)).run P s.w = .ok () s.w := by simp [eqGuard]
  have h3 : (binOp .add t (.string a) (.string b)).run P s.w = .ok (.string (a ++ b)) s.w := by
    simp only [binOp, Op.stringOp]
    rw [if_neg h1]; rfl
  simp only [Sem.run_bind', h2, h3, Result.andThen, Sem.run_pure]
end
section
variable {P : Program} {f : Who} {N : Nat} {O ρ : Type} {G : O → Option ρ} {R : ρ → Ending → World → Prop} {k : List Item} {e : Env} {ops : Array Oper}
theorem clV {α : Type} {x : Option α} {km : α → Option O} {i d : Nat} {rest : List Nat} {o : Oper} {g : FuncId} {fn : Func} {c : Code} {args : Array Operand} {ts : Array TypeId} {vs : List Value} {s : St} {V : α → Value} (cc : Nat) (t0 : E5 (ops[i]?) (some o) (o.dst) (some d) (Nat.blt d N) (true) (Region.wanted o (yv e ops)) (true) (o.op) (.call { callee := .value (.func g), args := args, argTypes := ts })) (hg : P.funcs[g]? = some fn) (t6 : E3 (fn.body) (some c) ((fn.name == "runtime.NumGoroutine")) (false) (args.toList.map (ev e)) (vs)) (hc : ∀ a, x = some a → Calls P g vs.toArray s.w fun en w' => ∃ v, en = .returned v ∧ v = V a ∧ Ky [] s.w w')
  (h : ∀ a s', Stp [] s s' → Nw s s' cc → TM P f N (km a) G R (.inRegion ops rest :: k) (upd e d (V a)) s'.w) : TM P f N (x.bind km) G R (.inRegion ops (i :: rest) :: k) e s.w :=
 cl (e5_ t0).1 (e5_ t0).2.1 (e5_ t0).2.2.1 (e5_ t0).2.2.2.1 (e5_ t0).2.2.2.2 hg (e3_ t6).1 (e3_ t6).2.1 (e3_ t6).2.2 hc fun a v w' _ hq => by
  obtain ⟨rfl, ky⟩ := hq
  obtain ⟨s', rfl, p, n⟩ := nwx s w' cc ky
  exact h a s' p n
theorem clO {α : Type} {x : Option α} {km : α → Option O} {i d : Nat} {rest : List Nat} {o : Oper} {g : FuncId} {fn : Func} {c : Code} {args : Array Operand} {ts : Array TypeId} {vs : List Value} {s : St} {β : Type} {K : Kd β} {X : α → β} (cc : Nat) (t0 : E5 (ops[i]?) (some o) (o.dst) (some d) (Nat.blt d N) (true) (Region.wanted o (yv e ops)) (true) (o.op) (.call { callee := .value (.func g), args := args, argTypes := ts })) (hg : P.funcs[g]? = some fn) (t6 : E3 (fn.body) (some c) ((fn.name == "runtime.NumGoroutine")) (false) (args.toList.map (ev e)) (vs)) (hc : ∀ a, x = some a → Calls P g vs.toArray s.w fun en w' => ∃ v, en = .returned v ∧ FO K s.w w' [v] (X a) ∧ Ky [] s.w w')
  (h : ∀ a v s', Stp [] s s' → OwF K s' [v] (X a) cc → TM P f N (km a) G R (.inRegion ops rest :: k) (upd e d v) s'.w) : TM P f N (x.bind km) G R (.inRegion ops (i :: rest) :: k) e s.w :=
 cl (e5_ t0).1 (e5_ t0).2.1 (e5_ t0).2.2.1 (e5_ t0).2.2.2.1 (e5_ t0).2.2.2.2 hg (e3_ t6).1 (e3_ t6).2.1 (e3_ t6).2.2 hc fun a v w' _ hq => by
  obtain ⟨f, ky⟩ := hq
  obtain ⟨s', rfl, p, n⟩ := nwx s w' cc ky
  exact h a v s' p (f.c n)
end
end Go.Proofs.YtiofnjnnocjbhaaDoor.V
