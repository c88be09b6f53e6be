import Derived.Test.YtbkiaccollbjnaaGreatG1
import Derived.MapKept
import Derived.Carry
import Derived.Shelf.GgSortFunc.InsertionK
set_option linter.unusedVariables false
set_option linter.unusedSimpArgs false
namespace Go.Proofs.YtbkiaccollbjnaaGreat.V
open Go
def fl_ (ps : List (List Nat × Nat)) : List Nat := (ps.map (·.1)).flatten
structure ZN (F : Nat → Prop) (ps : List (List Nat × Nat)) (s : St) : Prop where
 z : ∀ b, F b ↔ s.g b = 0
 lo : ∀ b, b ∉ fl_ ps → s.g b < 2
 pt : ∀ p ∈ ps, ∀ b ∈ p.1, s.g b = p.2
section
variable {F : Nat → Prop} {ps : List (List Nat × Nat)} {s s' : St}
theorem ZN.rd (z : ZN F ps s) {α : Type} {K : Kd α} {cs : List Value} {x : α} (h : K.rd s.w cs x F) : RdF K s cs x [0] :=
 K.rd_mono h fun b hb _ => by rw [(z.z b).1 hb]; rfl
theorem ZN.ow (z : ZN F ps s) {α : Type} {K : Kd α} {cs : List Value} {x : α} {p : List Nat} {c : Nat} (hm : (p, c) ∈ ps) (hn : p.Nodup) (h : K.ow s.w cs x p) : OwF K s cs x c := ⟨p, h, hn, fun b hb => z.pt _ hm b hb⟩
theorem ZN.ky (z : ZN F ps s) (p : Kp s s') : Ky (fl_ ps) s.w s'.w := ⟨p.os, p.tape, p.output, p.size, fun b hb hn => p.same b hb (z.lo b hn)⟩
def OwC {α : Type} (K : Kd α) (s : St) (cs : List Value) (x : α) (C : List Nat) : Prop := ∃ os, K.ow s.w cs x os ∧ os.Nodup ∧ ∀ b ∈ os, memb C (s.g b) = true
theorem ZN.fw (z : ZN F ps s) (p : Kp s s') {α : Type} {K : Kd α} {cs : List Value} {x : α} {C : List Nat} (h : OwC K s' cs x C) (hC : C.all (Nat.ble 2 ·) = true) : FW K (fl_ ps) s.w s'.w cs x := by
 obtain ⟨os, ho, hn, hc⟩ := h
 refine ⟨os, ho, hn, fun b hb => ?_⟩
 by_cases hl : b < s.w.heap.size
 · left
   refine Classical.byContradiction fun hne => ?_
   have h1 := z.lo b hne
   have h2 := p.col b hl (by omega)
   have h3 := hc b hb
   rw [h2] at h3
   have := List.all_eq_true.1 hC _ (memb_iff.1 h3)
   have := Nat.le_of_ble_eq_true this
   omega
 · right; omega
end
structure Nm (s s' : St) (os : List Nat) (c : Nat) : Prop where
 old : ∀ b, b < s.w.heap.size → b ∉ os → s'.g b = s.g b
 mv : ∀ b ∈ os, s'.g b = c
 new : ∀ b, s.w.heap.size ≤ b → s'.g b = c
theorem FW.m {α : Type} {K : Kd α} {s s' : St} {os : List Nat} {cs : List Value} {x : α} {c : Nat} (h : FW K os s.w s'.w cs x) (n : Nm s s' os c) : OwF K s' cs x c := by
 obtain ⟨os', ho, hn, hf⟩ := h
 refine ⟨os', ho, hn, fun b hb => ?_⟩
 rcases hf b hb with h | h
 · exact n.mv b h
 · exact n.new b h
section
variable {P : Program} {f : FuncId} {N : Nat} {O ρ : Type} {m : Option O} {G : O → Option ρ} {R : ρ → Ending → World → Prop} {e : Env} {s : St} {k : List Item} {ops : Array Oper} {i d : Nat} {rest : List Nat} {o : Oper}
end
end Go.Proofs.YtbkiaccollbjnaaGreat.V
set_option linter.unusedVariables false
set_option linter.unusedSimpArgs false
namespace Go.Proofs.YtbkiaccollbjnaaGreat.V
open Go
abbrev MD := List (Int × Bool)
def midx : MD → Int → Nat → Option (Nat × Bool)
 | [], _, _ => none
 | p :: m, k, i => bif k == p.1 then some (i, p.2) else midx m k (i + 1)
def mget (m : MD) (k : Int) : Bool := match midx m k 0 with
 | some p => p.2
 | none => false
def mset (m : MD) (k : Int) (v : Bool) : MD := match midx m k 0 with
 | some p => m.set p.1 (k, v)
 | none => m ++ [(k, v)]
def mcell (p : Int × Bool) : Value × Value := (.int .i64 p.1, .bool p.2)
def MpF (s : St) (b : Nat) (m : MD) (c : Nat) : Prop := ∃ es clock, s.w.heap[b]? = some (.map es clock) ∧ s.g b = c ∧ es.toList.map (fun e => (e.key, e.val)) = m.map mcell
theorem MpF.st {s s' : St} {S : List Nat} {b c : Nat} {m : MD} (h : MpF s b m c) (p : Stp S s s') (d : memb S c = false) : MpF s' b m c := by
 obtain ⟨es, cl, hb, hc, he⟩ := h
 have hl : b < s.w.heap.size := (Array.getElem?_eq_some_iff.1 hb).1
 have := p.same b hl (by rw [hc]; exact d)
 exact ⟨es, cl, by rw [this.2]; exact hb, by rw [this.1]; exact hc, he⟩
theorem midx_now (k : Int) : ∀ (es : List MapEntry) (m : MD) (i : Nat), es.map (fun e => (e.key, e.val)) = m.map mcell →
    Instr.findNow (.int .i64) (.int .i64 k) es i = some ((midx m k i).map fun p => (p.1, .bool p.2))
  | [], [], i, _ => rfl
  | [], _ :: _, i, h => by cases h
  | _ :: _, [], i, h => by cases h
  | e :: es, p :: m, i, h => by
    simp only [List.map_cons, List.cons.injEq] at h
    obtain ⟨h1, h2⟩ := h
    have hk : e.key = .int .i64 p.1 := congrArg Prod.fst h1
    have hv : e.val = .bool p.2 := congrArg Prod.snd h1
    unfold Instr.findNow midx
    rw [hk]
    simp only [Instr.sameNow, if_true]
    cases hkp : (k == p.1) with
    | true => simp [hv]
    | false => simpa using midx_now k es m (i + 1) h2
theorem midx_lt (k : Int) : ∀ (m : MD) (i j : Nat) (v : Bool), midx m k i = some (j, v) → i ≤ j ∧ j < i + m.length ∧ ∀ p, m[j - i]? = some p → p.1 = k ∧ p.2 = v
 | [], i, j, v, h => by cases h
 | p :: m, i, j, v, h => by
  unfold midx at h
  cases hkp : (k == p.1) with
  | true =>
   rw [hkp] at h
   simp only [cond_true, Option.some.injEq, Prod.mk.injEq] at h
   obtain ⟨rfl, rfl⟩ := h
   refine ⟨Nat.le_refl _, by simp, fun q hq => ?_⟩
   simp at hq; subst hq
   exact ⟨(by simpa using hkp : k = p.1).symm, rfl⟩
  | false =>
   rw [hkp] at h
   simp only [cond_false] at h
   obtain ⟨h1, h2, h3⟩ := midx_lt k m (i + 1) j v h
   refine ⟨by omega, by simp; omega, fun q hq => h3 q ?_⟩
   rw [show j - i = (j - (i + 1)) + 1 by omega] at hq
   simpa using hq
section
variable {P : Program} {f : FuncId} {N : Nat} {O ρ : Type} {m : Option O} {G : O → Option ρ} {R : ρ → Ending → World → Prop} {e : Env} {s : St} {k : List Item} {ops : Array Oper} {i d : Nat} {rest : List Nat} {o : Oper}
theorem mkm (c : Nat) {t : TypeId} (ho : ops[i]? = some o) (hd : o.dst = some d) (hN : Nat.blt d N = true) (hw : Region.wanted o (yv e ops) = true) (hop : o.op = .makeMap t none)
    (h : ∀ b s', Stp [] s s' → MpF s' b [] c → TM P f N m G R (.inRegion ops rest :: k) (upd e d (.map (some b))) s'.w) : TM P f N m G R (.inRegion ops (i :: rest) :: k) e s.w := by
  obtain ⟨s', hs', p, n⟩ := s.made (.map #[] 0) c
  refine vl (v := .map (some s.w.heap.size)) (w' := s'.w) ho hd hN hw ?_ (h _ s' p ⟨#[], 0, ?_, n.new _ (Nat.le_refl _), rfl⟩)
  · rw [hs']; simp [execOp, hop, Go.RowKit.run_makeMap, Result.andThen]
  · rw [hs']; exact heap_alloc_new s.w _
theorem look_run {t kt et b c : Nat} {mm : MD} {kk : Int} (hm : P.underlying t = some (.map kt et)) (hk : P.underlying kt = some (.int .i64)) (hz : (P.info? et).bind (·.zero) = some (.bool false)) (hB : MpF s b mm c) :
    (Instr.lookup t (.map (some b)) (.int .i64 kk) false).run P s.w = .ok (.bool (mget mm kk)) s.w := by
  obtain ⟨es, cl, hb, hc, he⟩ := hB
  unfold Instr.lookup
  rw [Sem.run_bind', run_underlying hm]
  simp only [Result.andThen]
  rw [Sem.run_bind', Go.MapKept.run_getObj_map hb]
  simp only [Result.andThen]
  rw [Sem.run_bind']
  simp only [Sem.run_pure, Result.andThen]
  rw [Sem.run_bind', Go.MapKept.run_checkKey hk (by simp [Go.MapKept.IsKey])]
  simp only [Result.andThen]
  have hf := midx_now kk es.toList mm 0 he
  rw [Sem.run_bind', Go.MapKept.run_findKey hk hf]
  unfold mget
  cases hx : midx mm kk 0 with
  | none => simp [Result.andThen, zero_run hz]
  | some p => simp [Result.andThen]
theorem lkm {t kt et b c : Nat} {mm : MD} {kk : Int} {x y : Operand} (hB : MpF s b mm c) (hm : P.underlying t = some (.map kt et)) (hk : P.underlying kt = some (.int .i64)) (hz : (P.info? et).bind (·.zero) = some (.bool false))
    (ho : ops[i]? = some o) (hd : o.dst = some d) (hN : Nat.blt d N = true) (hw : Region.wanted o (yv e ops) = true) (hop : o.op = .lookup t x y false) (hx : ev e x = .map (some b)) (hy : ev e y = .int .i64 kk)
    (h : TM P f N m G R (.inRegion ops rest :: k) (upd e d (.bool (mget mm kk))) s.w) : TM P f N m G R (.inRegion ops (i :: rest) :: k) e s.w :=
  vl ho hd hN hw (by simp [execOp, hop, hx, hy, look_run hm hk hz hB, Result.andThen]) h
theorem upm {t kt et b c : Nat} {mm : MD} {kk : Int} {v : Bool} {x y u : Operand} (hB : MpF s b mm c) (hm : P.underlying t = some (.map kt et)) (hk : P.underlying kt = some (.int .i64))
    (ho : ops[i]? = some o) (hd : o.dst = none) (hw : Region.wanted o (yv e ops) = true) (hop : o.op = .mapUpdate t x y u) (hx : ev e x = .map (some b)) (hy : ev e y = .int .i64 kk) (hu : ev e u = .bool v)
    (h : ∀ s', Stp [c] s s' → MpF s' b (mset mm kk v) c → TM P f N m G R (.inRegion ops rest :: k) e s'.w) : TM P f N m G R (.inRegion ops (i :: rest) :: k) e s.w := by
  obtain ⟨es, cl, hb, hc, he⟩ := hB
  have key : ∃ es' cl', (Instr.mapUpdate t (.map (some b)) (.int .i64 kk) (.bool v)).run P s.w = .ok () { s.w with heap := s.w.heap.setIfInBounds b (.map es' cl') } ∧ es'.toList.map (fun e => (e.key, e.val)) = (mset mm kk v).map mcell := by
    unfold Instr.mapUpdate
    rw [Sem.run_bind', run_underlying hm]
    simp only [Result.andThen]
    rw [Sem.run_bind', Go.MapKept.run_getObj_map hb]
    simp only [Result.andThen]
    rw [Sem.run_bind', Go.MapKept.run_checkKey hk (by simp [Go.MapKept.IsKey])]
    simp only [Result.andThen]
    have hf := midx_now kk es.toList mm 0 he
    rw [Sem.run_bind', Go.MapKept.run_findKey hk hf]
    unfold mset
    have hlen : es.size = mm.length := by
      have := congrArg List.length he
      simpa using this
    cases hxx : midx mm kk 0 with
    | none =>
      refine ⟨es.push { key := .int .i64 kk, val := .bool v, born := cl }, cl + 1, ?_, ?_⟩
      · simp [Result.andThen, Go.MapKept.run_setObj_map _ hb]
      · simp [he, mcell]
    | some p =>
      obtain ⟨_, hlt, hp⟩ := midx_lt kk mm 0 p.1 p.2 hxx
      have hlt' : p.1 < mm.length := by omega
      have hpk := (hp mm[p.1] (by simp [List.getElem?_eq_getElem hlt'])).1
      have hes : p.1 < es.size := by omega
      have hkey : (es[p.1]).key = .int .i64 kk := by
        have h1 : (es.toList.map (fun e => (e.key, e.val)))[p.1]? = (mm.map mcell)[p.1]? := by rw [he]
        rw [List.getElem?_map, List.getElem?_map, List.getElem?_eq_getElem hlt', List.getElem?_eq_getElem (by simpa using hes)] at h1
        simp only [Option.map_some, Option.some.injEq] at h1
        have h2 := congrArg Prod.fst h1
        simp only [mcell] at h2
        rw [hpk] at h2
        simpa using h2
      refine ⟨es.modify p.1 fun e => { e with key := .int .i64 kk, val := .bool v }, cl, ?_, ?_⟩
      · have hst : (Instr.keyThatStays (((es[p.1]?).map (·.key)).getD (.int .i64 kk)) (.int .i64 kk)).run P s.w = .ok (.int .i64 kk) s.w := by
          rw [Array.getElem?_eq_getElem hes]
          simp only [Option.map_some, Option.getD_some, hkey]
          unfold Instr.keyThatStays
          have : Instr.sameBits 10000 (.int .i64 kk) (.int .i64 kk) = true := by simp [Instr.sameBits]
          rw [if_pos this]; rfl
        simp only [Result.andThen, Option.map_some]
        rw [Sem.run_bind', hst]
        simp [Result.andThen, Go.MapKept.run_setObj_map _ hb]
      · have : (es.modify p.1 fun e => { e with key := Value.int .i64 kk, val := Value.bool v }).toList.map (fun e => (e.key, e.val)) = (es.toList.map fun e => (e.key, e.val)).set p.1 (mcell (kk, v)) := by
          rw [Array.toList_modify]
          apply List.ext_getElem?
          intro j
          simp only [List.getElem?_map, List.getElem?_modify, List.getElem?_set, List.length_map, Array.length_toList]
          by_cases hj : p.1 = j
          · subst hj; simp [hes, mcell]
          · simp [hj]
        rw [this, he, List.map_set]
  obtain ⟨es', cl', hr, he'⟩ := key
  have hset := Go.MapKept.heap_set (o' := .map es' cl') hb
  refine vd (w' := { s.w with heap := s.w.heap.setIfInBounds b (.map es' cl') }) ho hd hw (by simp [execOp, hop, hx, hy, hu, hr, Result.andThen]) (h ⟨{ s.w with heap := s.w.heap.setIfInBounds b (.map es' cl') }, s.g⟩ ⟨rfl, rfl, rfl, by simp, fun _ _ _ => rfl, fun b' hb' hm' => ⟨rfl, ?_⟩⟩ ⟨es', cl', hset.1, hc, he'⟩)
  refine hset.2 b' fun hne => ?_
  subst hne
  rw [hc] at hm'
  simp [memb] at hm'
end
theorem midx_some (m : MD) (k : Int) : ∀ i, (midx m k i).isSome = m.any (fun p => k == p.1) := by
 induction m with
 | nil => intro i; rfl
 | cons p m ih =>
  intro i
  unfold midx
  cases h : (k == p.1) with
  | true => simp [h]
  | false => simp [h, ih (i + 1)]
theorem mget_all {m : MD} (h : ∀ p ∈ m, p.2 = true) (k : Int) : mget m k = m.any (fun p => k == p.1) := by
 rw [← midx_some m k 0]
 unfold mget
 cases hx : midx m k 0 with
 | none => rfl
 | some p =>
  obtain ⟨h0, h1, h2⟩ := midx_lt k m 0 p.1 p.2 hx
  have hlt : p.1 < m.length := by omega
  have h3 := (h2 m[p.1] (by simp [List.getElem?_eq_getElem hlt])).2
  have h4 := h _ (List.getElem_mem hlt)
  simp only [Option.isSome_some]
  rw [← h3, h4]
theorem mset_new {m : MD} {k : Int} (h : m.any (fun p => k == p.1) = false) (v : Bool) : mset m k v = m ++ [(k, v)] := by
 rw [← midx_some m k 0] at h
 unfold mset
 cases hx : midx m k 0 with
 | none => rfl
 | some p => rw [hx] at h; cases h
end Go.Proofs.YtbkiaccollbjnaaGreat.V
set_option linter.unusedVariables false
set_option linter.unusedSimpArgs false
namespace Go.Proofs.YtbkiaccollbjnaaGreat.V
open Go
structure Pk (β : Type) where
 cs : List Value
 x : β
instance {β : Type} [Inhabited β] : Inhabited (Pk β) := ⟨⟨[], default⟩⟩
end Go.Proofs.YtbkiaccollbjnaaGreat.V
set_option linter.unusedVariables false
set_option linter.unusedSimpArgs false
namespace Go.Proofs.YtbkiaccollbjnaaGreat.V
open Go
def bcmpS (xs ys : List Int) : Int := Extern.BytealgCompare.cmp (str xs) (str ys)
def bcmp : List Int → List Int → Int
 | [], [] => 0
 | [], _ :: _ => -1
 | _ :: _, [] => 1
 | x :: xs, y :: ys => bif x == y then bcmp xs ys else bif decide (x < y) then -1 else 1
section
variable {P : Program} {f : FuncId} {N : Nat} {O ρ : Type} {m : Option O} {G : O → Option ρ} {R : ρ → Ending → World → Prop} {e : Env} {s : St} {k : List Item} {ops : Array Oper} {i d : Nat} {rest : List Nat} {o : Oper}
theorem add1 (a : Addr) (j : Nat) : (a.add 1).add j = a.add (j + 1) := by
 rw [Addr.add_add', Nat.add_comm]
theorem load_bytes {w : World} : ∀ (xs : List Int) (a : Addr) (acc : ByteArray), (∀ j u, (xs.map (Value.int .u8))[j]? = some u → w.cell? (a.add j) = some u) →
    (Extern.Bytes.loadBytes a xs.length acc).run P w = .ok (xs.foldl (fun r n => r.push (UInt8.ofNat n.toNat)) acc) w
  | [], a, acc, _ => by simp [Extern.Bytes.loadBytes]
  | x :: xs, a, acc, h => by
    have h0 := h 0 (.int .u8 x) rfl
    rw [V.add_zero] at h0
    have hl : (load a).run P w = .ok (.int .u8 x) w := by simp [load, Sem.run, h0]
    simp only [List.length_cons]
    unfold Extern.Bytes.loadBytes
    rw [Sem.run_bind', hl]
    simp only [Result.andThen, List.foldl_cons]
    exact load_bytes xs (a.add 1) _ fun j u hj => by rw [add1]; exact h (j + 1) u hj
theorem bytes_run {tg : TypeId} {v : Value} {xs : List Int} {C : List Nat} (hF : RdF (Kd.sl tg (Kd.int .u8)) s [v] xs C) : (Extern.Bytes.bytesOf v).run P s.w = .ok (str xs) s.w := by
 obtain ⟨v1, e1, A, cap, cells, rfl, hcap, hels, hc⟩ := hF
 obtain rfl : v = .slice A xs.length cap := by simpa using e1
 have hcells : cells = xs.map (.int .u8) := els_u8 hels
 cases A with
 | none =>
  have : xs = [] := by
   cases xs with
   | nil => rfl
   | cons x xs =>
    obtain ⟨ad, h, _⟩ := hc (by rw [hcells]; simp)
    cases h
  subst this
  simp [Extern.Bytes.bytesOf, str]
 | some a =>
  refine load_bytes xs a _ ?_
  rw [← hcells]
  by_cases hne : cells = []
  · rw [hne]; intro j u h; cases h
  · obtain ⟨ad, h, _, hcell⟩ := hc hne
    obtain rfl := Option.some.inj h
    exact hcell
theorem bcx {g : FuncId} {fn : Func} {X Y : Operand} {ts : Array TypeId} {t1 t2 : TypeId} {v u : Value} {xs ys : List Int} {C D : List Nat} (hX : RdF (Kd.sl t1 (Kd.int .u8)) s [v] xs C) (hY : RdF (Kd.sl t2 (Kd.int .u8)) s [u] ys D)
    (ho : ops[i]? = some o) (hd : o.dst = some d) (hN : Nat.blt d N = true) (hw : Region.wanted o (yv e ops) = true) (hop : o.op = .call { callee := .value (.func g), args := #[X, Y], argTypes := ts }) (hg : P.funcs[g]? = some fn) (hb : fn.body = none)
    (hn : (fn.name == "runtime.NumGoroutine") = false) (hnx : Extern.findNext fn = none) (hf : Extern.find fn = some Extern.BytealgCompare.compare) (hx : ev e X = v) (hy : ev e Y = u)
    (h : TM P f N m G R (.inRegion ops rest :: k) (upd e d (.int .i64 (bcmpS xs ys))) s.w) : TM P f N m G R (.inRegion ops (i :: rest) :: k) e s.w :=
  vl ho hd hN hw (ext_run hop hg hb hn hnx hf (by
    rw [show (#[X, Y] : Array Operand).map (ev e) = #[ev e X, ev e Y] from by simp, hx, hy]
    show Sem.run P (do let a ← Extern.Bytes.bytesOf v; let b ← Extern.Bytes.bytesOf u; pure (goInt (Extern.BytealgCompare.cmp a b))) s.w = _
    rw [Sem.run_bind', bytes_run hX]
    simp only [Result.andThen]
    rw [Sem.run_bind', bytes_run hY]
    rfl)) h
end
end Go.Proofs.YtbkiaccollbjnaaGreat.V
set_option linter.unusedVariables false
set_option linter.unusedSimpArgs false
namespace Go.Proofs.YtbkiaccollbjnaaGreat.V
open Go
def HoL {α β : Type} [Inhabited α] (te : TypeId) (K : Kd α) (A : Kd β) (q : Nat) (set : α → β → α) (s : St) (v : Value) (xs : List α) (ii : Int) (c : Nat) : Prop :=
 ∃ g cap cur c1 u0 c3 p1 p3, v = .slice (some ⟨g, 0, none⟩) xs.length cap ∧ s.w.heap[g]? = some (.cells cur te (0, 0)) ∧ xs.length ≤ cap ∧ cap ≤ maxLen ∧ cur.size = cap * K.n ∧
  cur.toList.take (xs.length * K.n) = c1 ++ (u0 ++ c3) ∧ u0.length = A.n ∧ c1.length = ii.toNat * K.n + q ∧ (g :: (p1 ++ p3)).Nodup ∧ (∀ b ∈ g :: (p1 ++ p3), s.g b = c ∧ b < s.w.heap.size) ∧ ii.toNat < xs.length ∧
  ∀ w' e2 y o2, A.ow w' e2 y o2 → Agr s.w w' (· ∈ p1 ++ p3) → ElsO K w' (xs.set ii.toNat (set (at_ xs ii) y)) (c1 ++ (e2 ++ c3)) (p1 ++ (o2 ++ p3))
theorem HoL.st {α β : Type} [Inhabited α] {te : TypeId} {K : Kd α} {A : Kd β} {q : Nat} {set : α → β → α} {s s' : St} {v : Value} {xs : List α} {ii : Int} {c : Nat} {S : List Nat} (h : HoL te K A q set s v xs ii c) (p : Stp S s s') (d : memb S c = false) : HoL te K A q set s' v xs ii c := by
 obtain ⟨g, cap, cur, c1, u0, c3, p1, p3, e1, e2, e3, e4, e5, e6, e7, e8, e9, e10, e11, e12⟩ := h
 have hs : ∀ b ∈ g :: (p1 ++ p3), s'.g b = s.g b ∧ s'.w.heap[b]? = s.w.heap[b]? := fun b hb => p.same b (e10 b hb).2 (by rw [(e10 b hb).1]; exact d)
 refine ⟨g, cap, cur, c1, u0, c3, p1, p3, e1, by rw [(hs g (by simp)).2]; exact e2, e3, e4, e5, e6, e7, e8, e9, fun b hb => ⟨by rw [(hs b hb).1]; exact (e10 b hb).1, Nat.lt_of_lt_of_le (e10 b hb).2 p.size⟩, e11, fun w' e2 y o2 hy ha => e12 w' e2 y o2 hy fun b hb hl => ?_⟩
 rw [ha b hb (Nat.lt_of_lt_of_le hl p.size), (hs b (by simp at hb ⊢; rcases hb with hb | hb <;> simp [hb])).2]
theorem take_ {α β : Type} [Inhabited α] {K : Kd α} {A : Kd β} {q te : Nat} {get : α → β} {set : α → β → α} {s : St} {v u : Value} {xs : List α} {c : Nat} {ii : Int} {ad : Addr} {es : List Value} {C : List Nat} (a : Nat) (L : LensG K A q get set)
    (hO : OwF (Kd.sl te K) s [v] xs c) (h0 : 0 ≤ ii) (h1 : ii < xs.length) (hA : IxA v K.n ii ad) (hC : CeF s ad es C) (hu : es[q]? = some u) (hqn : Nat.blt q K.n = true) (hn : A.n = 1) (h40 : Nat.ble 40 c = true) :
    ∃ s' : St, s.w = s'.w ∧ Stp [c] s s' ∧ OwF A s' [u] (get (at_ xs ii)) a ∧ HoL te K A q set s' v xs ii c ∧ CeF s' ad es C := by
  have h40' := Nat.le_of_ble_eq_true h40
  obtain ⟨os, ⟨v1, e1, cells, o1, o2, rfl, hR, hE⟩, hnd, hcol⟩ := hO
  obtain rfl : v = v1 := by simpa using e1
  obtain ⟨Aa, l, cap, hv, rfl⟩ := hA
  have hi : ii.toNat < xs.length := by omega
  have hq : q < K.n := by simp [Nat.blt] at hqn; omega
  obtain ⟨hl, hR2⟩ := hR
  rcases hR2 with ⟨h2, _⟩ | ⟨g, cap', cur, h2, hg, hlc, hcm, hsz, htk, rfl⟩
  · rw [h2] at hv; cases hv
  · rw [h2] at hv
    simp only [Value.slice.injEq, Option.some.injEq] at hv
    obtain ⟨rfl, rfl, rfl⟩ := hv
    obtain ⟨p1, p2, p3, rfl, hK, hset⟩ := hE.at_ ii.toNat hi
    rw [at_eq xs ii hi]
    obtain ⟨r1, r2, r3, q1, q2, q3, hes, hq1, rfl, hg2, hput⟩ := L _ _ _ _ hK
    have hr2 : r2.length = A.n := A.rd_len (A.ow_rd hg2)
    have hmul : (ii.toNat + 1) * K.n ≤ xs.length * K.n := Nat.mul_le_mul_right _ hi
    rw [Nat.add_mul, Nat.one_mul] at hmul
    have hcl : cells.length = xs.length * K.n := hl
    have hlt : (cells.take (ii.toNat * K.n)).length = ii.toNat * K.n := by rw [List.length_take]; omega
    have e0 : cells = (cells.take (ii.toNat * K.n) ++ r1) ++ (r2 ++ (r3 ++ cells.drop ((ii.toNat + 1) * K.n))) := by
      have : cells = cells.take (ii.toNat * K.n) ++ ((r1 ++ (r2 ++ r3)) ++ cells.drop ((ii.toNat + 1) * K.n)) := by
        rw [← hes, Nat.add_mul, Nat.one_mul, ← List.drop_drop, List.take_append_drop, List.take_append_drop]
      conv => lhs; rw [this]
      simp
    have hc1l : (cells.take (ii.toNat * K.n) ++ r1).length = ii.toNat * K.n + q := by rw [List.length_append, hlt, hq1]
    -- the cell is the one that was loaded
    have hru : r2 = [u] := by
      obtain ⟨u', rfl⟩ := List.length_eq_one_iff.1 (hr2.trans hn)
      have hcell := hC.2 q u hu
      rw [Addr.add_add', Addr.add_mid, Nat.zero_add] at hcell
      have hc2 : cells[ii.toNat * K.n + q]? = some u' := by
        rw [e0, List.getElem?_append_right (by omega), hc1l, Nat.sub_self]; rfl
      rw [← htk, List.getElem?_take] at hc2
      split at hc2
      · have : s.w.cell? ⟨g, ii.toNat * K.n + q, none⟩ = cur[ii.toNat * K.n + q]? := by simp [World.cell?, hg]
        rw [this, ← Array.getElem?_toList] at hcell
        rw [hcell] at hc2
        rw [Option.some.inj hc2]
      · cases hc2
    subst hru
    have hcnt : ∀ b, (g :: (p1 ++ (q1 ++ (q2 ++ q3)) ++ p3)).count b ≤ 1 := fun b => List.nodup_iff_count.1 hnd b
    have hgl : g < s.w.heap.size := (Array.getElem?_eq_some_iff.1 hg).1
    have hgq : g ∉ q2 := fun h => by
      have := hcnt g
      rw [List.count_cons_self] at this
      have h3 : 1 ≤ q2.count g := List.count_pos_iff.2 h
      simp only [List.count_append] at this
      omega
    have hout : ∀ b, b ∈ g :: ((p1 ++ q1) ++ (q3 ++ p3)) → b ∉ q2 := fun b hb hb2 => by
      have h3 : 1 ≤ q2.count b := List.count_pos_iff.2 hb2
      have h4 := hcnt b
      have h5 : 1 ≤ (g :: ((p1 ++ q1) ++ (q3 ++ p3))).count b := List.count_pos_iff.2 hb
      rw [List.count_cons] at h4 h5
      simp only [List.count_append] at h4 h5
      omega
    refine ⟨⟨s.w, fun b => open Classical in if b ∈ q2 then a else s.g b⟩, rfl, ⟨rfl, rfl, rfl, Nat.le_refl _, fun b hb hlo => ?_, fun b hb hm => ⟨?_, rfl⟩⟩, ⟨q2, hg2, ?_, fun b hb => by simp [hb]⟩, ?_, ?_⟩
    · have : b ∉ q2 := fun h => by
        have := hcol b (by simp [h])
        omega
      simp [this]
    · have : b ∉ q2 := fun h => by
        have := hcol b (by simp [h])
        rw [this] at hm; simp [memb] at hm
      simp [this]
    · rw [List.nodup_iff_count]
      intro b
      have h4 := hcnt b
      rw [List.count_cons] at h4
      simp only [List.count_append] at h4
      omega
    · refine ⟨g, cap', cur, _, [u], _, p1 ++ q1, q3 ++ p3, h2, hg, hlc, hcm, hsz, by rw [htk]; exact e0, hr2, hc1l, ?_, fun b hb => ⟨?_, ?_⟩, hi, fun w' e2 y o2 hy ha => ?_⟩
      · rw [List.nodup_iff_count]
        intro b
        have h4 := hcnt b
        rw [List.count_cons] at h4 ⊢
        simp only [List.count_append] at h4 ⊢
        omega
      · have := hout b hb
        simp only [this, if_false]
        refine hcol b ?_
        simp at hb ⊢
        rcases hb with rfl | hb | hb | hb | hb <;> simp [*]
      · simp at hb
        rcases hb with rfl | hb | hb | hb | hb
        · exact hgl
        · exact hE.lt b (by simp [hb])
        · exact hE.lt b (by simp [hb])
        · exact hE.lt b (by simp [hb])
        · exact hE.lt b (by simp [hb])
      · have h6 := hput w' y e2 o2 hy fun b hb hl => ha b (by simp at hb ⊢; rcases hb with hb | hb <;> simp [hb]) hl
        have h7 := hset w' _ _ _ h6 fun b hb hl => ha b (by simp at hb ⊢; rcases hb with hb | hb <;> simp [hb]) hl
        rw [← at_eq xs ii hi] at h7
        simpa using h7
    · refine ⟨?_, hC.2⟩
      have hb := hC.1
      rw [add_block] at hb ⊢
      have : (⟨g, 0, none⟩ : Addr).block ∉ q2 := hgq
      simp only [this, if_false]
      exact hb
section
variable {P : Program} {f : FuncId} {N : Nat} {O ρ : Type} {m : Option O} {G : O → Option ρ} {R : ρ → Ending → World → Prop} {e : Env} {s : St} {k : List Item} {ops : Array Oper} {i d : Nat} {rest : List Nat} {o : Oper}
theorem soh {α β : Type} [Inhabited α] {K : Kd α} {A : Kd β} {q : Nat} {set : α → β → α} {t te : TypeId} {x y : Operand} {v : Value} {vs : List Value} {xs : List α} {c d' : Nat} {ii : Int} {ad : Addr} {x' : β}
    (hH : HoL te K A q set s v xs ii c) (hA : IxA v K.n ii ad) (hX : OwF A s vs x' d') (hcd : Nat.beq c d' = false) (h10 : Nat.ble 40 d' = true) (hs : (P.info? t).map (·.size) = some A.n)
    (ho : ops[i]? = some o) (hd : o.dst = none) (hw : Region.wanted o (yv e ops) = true) (hop : o.op = .store t x y) (hx : ev e x = .pointer (some (ad.add q))) (hy : (ev e y).cells = vs.toArray)
    (h : ∀ s', Stp [c, d'] s s' → OwF (Kd.sl te K) s' [v] (xs.set ii.toNat (set (at_ xs ii) x')) c → TM P f N m G R (.inRegion ops rest :: k) e s'.w) : TM P f N m G R (.inRegion ops (i :: rest) :: k) e s.w := by
  have hcd' : c ≠ d' := fun h => by subst h; simp at hcd
  have hd10 := Nat.le_of_ble_eq_true h10
  obtain ⟨ox, hxo, hxn, hxc⟩ := hX
  have hvl : vs.length = A.n := A.rd_len (A.ow_rd hxo)
  have hv1 : ∀ u ∈ vs, u.oneCell' = true := A.rd_one (A.ow_rd hxo)
  obtain ⟨g, cap, cur, c1, u0, c3, p1, p3, rfl, hg, hlc, hcm, hsz, htk, hu0, hc1, hnd, hcol, hi, hmake⟩ := hH
  obtain ⟨Aa, l, cap2, hv, rfl⟩ := hA
  simp only [Value.slice.injEq, Option.some.injEq] at hv
  obtain ⟨rfl, rfl, rfl⟩ := hv
  have hcapm : xs.length * K.n ≤ cap * K.n := Nat.mul_le_mul_right _ hlc
  have hlen := congrArg List.length htk
  simp only [List.length_take, Array.length_toList, List.length_append] at hlen
  have hgc := (hcol g (by simp)).1
  have hgl := (hcol g (by simp)).2
  have hst := run_storeCells_at P g (ii.toNat * K.n + q) te vs 0 cur s.w hg (by rw [hvl, hsz]; omega) hv1
  simp only [Nat.add_zero] at hst
  have had : ((⟨g, 0, none⟩ : Addr).add (ii.toNat * K.n)).add q = ⟨g, ii.toNat * K.n + q, none⟩ := by rw [Addr.add_add', Addr.add_mid, Nat.zero_add]
  rw [had] at hx
  have hrun : (Instr.storeAt t (.pointer (some ⟨g, ii.toNat * K.n + q, none⟩)) (ev e y)).run P s.w = .ok () (s.w.setRow g (cur.toList.take (ii.toNat * K.n + q) ++ vs ++ cur.toList.drop (ii.toNat * K.n + q + vs.length)).toArray) := by
    unfold Instr.storeAt
    rw [Sem.run_bind']
    simp only [Instr.sureAddr, Sem.run_pure, Result.andThen]
    unfold storeVar
    rw [Sem.run_bind', size_run hs]
    simp only [Result.andThen, hy]
    simp [hvl]
    simp [hvl] at hst
    exact hst
  have hndc := List.nodup_cons.1 hnd
  refine vd (w' := s.w.setRow g (cur.toList.take (ii.toNat * K.n + q) ++ vs ++ cur.toList.drop (ii.toNat * K.n + q + vs.length)).toArray) ho hd hw (by simp [execOp, hop, hx, hrun, Result.andThen]) (h ⟨_, fun b => if s.g b = d' then c else s.g b⟩ ⟨rfl, rfl, rfl, by simp, fun b hb hl => ?_, fun b hb hm => ?_⟩ ?_)
  · have : ¬ s.g b = d' := by omega
    simp [this]
  · simp only [memb, Bool.or_eq_false_iff] at hm
    have q1 : s.g b ≠ c := fun h => by rw [h] at hm; simp at hm
    have q2 : ¬ s.g b = d' := fun h => by rw [h] at hm; simp at hm
    refine ⟨by simp [q2], setRow_other s.w g b _ fun e => q1 (by rw [e]; exact hgc)⟩
  · have hoth : ∀ b, b ≠ g → (s.w.setRow g (cur.toList.take (ii.toNat * K.n + q) ++ vs ++ cur.toList.drop (ii.toNat * K.n + q + vs.length)).toArray).heap[b]? = s.w.heap[b]? := fun b hb => setRow_other s.w g b _ hb
    have hgx : g ∉ ox := fun h => hcd' (hgc.symm.trans (hxc g h))
    have hA' := A.ow_frame hxo (w' := s.w.setRow g (cur.toList.take (ii.toNat * K.n + q) ++ vs ++ cur.toList.drop (ii.toNat * K.n + q + vs.length)).toArray) fun b hb _ => hoth b fun h => hgx (h ▸ hb)
    have hnew := hmake _ vs x' ox hA' fun b hb _ => hoth b fun h => hndc.1 (by subst h; exact hb)
    have hpre : cur.toList.take (ii.toNat * K.n + q) = c1 := by
      have := congrArg (List.take (ii.toNat * K.n + q)) htk
      rw [List.take_take, Nat.min_eq_left (by omega), ← hc1, List.take_left' rfl] at this
      rw [← hc1]; exact this
    have hsuf : (cur.toList.take (xs.length * K.n)).drop (ii.toNat * K.n + q + vs.length) = c3 := by
      rw [htk, ← List.append_assoc]
      exact List.drop_left' (by rw [List.length_append, hc1, hu0, hvl])
    refine ⟨[g] ++ (p1 ++ (ox ++ p3)), ⟨_, rfl, _, [g], _, rfl, ⟨?_, .inr ⟨g, cap, _, by rw [List.length_set], setRow_heap s.w g cur _ te _ hg, by simpa using hlc, hcm, ?_, ?_, rfl⟩⟩, hnew⟩, ?_, fun b hb => ?_⟩
    · simp only [List.length_set, List.length_append, hvl]
      omega
    · simp only [List.size_toArray, List.length_append, List.length_take, List.length_drop, Array.length_toList, hvl, hsz]
      omega
    · rw [List.length_set]
      have hla : (cur.toList.take (ii.toNat * K.n + q) ++ vs).length = ii.toNat * K.n + q + A.n := by
        rw [List.length_append, List.length_take, Array.length_toList, hvl, hsz]; omega
      rw [List.take_append, List.take_of_length_le (by omega), hla, hpre, List.append_assoc]
      congr 1
      congr 1
      rw [← hsuf, hvl, List.drop_take]
    · have hdj : ∀ b, b ∈ ox → b ∉ g :: (p1 ++ p3) := fun b hb hb2 => hcd' ((hcol b hb2).1.symm.trans (hxc b hb))
      rw [List.nodup_iff_count]
      intro b
      have c0 : (g :: (p1 ++ p3)).count b ≤ 1 := List.nodup_iff_count.1 hnd b
      have c1' : ox.count b ≤ 1 := List.nodup_iff_count.1 hxn b
      rw [List.count_cons] at c0
      simp only [List.singleton_append, List.count_cons, List.count_append] at c0 ⊢
      by_cases hb : b ∈ ox
      · have z0 : (g :: (p1 ++ p3)).count b = 0 := List.count_eq_zero.2 (hdj b hb)
        rw [List.count_cons] at z0
        simp only [List.count_append] at z0
        omega
      · have : ox.count b = 0 := List.count_eq_zero.2 hb
        omega
    · dsimp only
      simp only [List.singleton_append, List.mem_cons, List.mem_append] at hb
      rcases hb with rfl | hb | hb | hb
      · simp [hgc]
      · simp [(hcol b (by simp [hb])).1]
      · simp [hxc b hb]
      · simp [(hcol b (by simp [hb])).1]
theorem ixh {α β : Type} [Inhabited α] {te t : TypeId} {K : Kd α} {A : Kd β} {q : Nat} {set : α → β → α} {v : Value} {xs : List α} {c : Nat} {jj : Int} {kk : IntKind} {ii : Int} {X I : Operand} (hH : HoL te K A q set s v xs jj c) (hu : P.underlying t = some (.slice te)) (hs : (P.info? te).map (·.size) = some K.n)
    (ho : ops[i]? = some o) (hd : o.dst = some d) (hN : Nat.blt d N = true) (hw : Region.wanted o (yv e ops) = true) (hop : o.op = .indexAddr t X I) (hX : ev e X = v) (hI : ev e I = .int kk ii)
    (h : ∀ ad, 0 ≤ ii → ii < xs.length → IxA v K.n ii ad → TM P f N m G R (.inRegion ops rest :: k) (upd e d (.pointer (some ad))) s.w) :
    TM P f N (if 0 ≤ ii ∧ ii < xs.length then m else none) G R (.inRegion ops (i :: rest) :: k) e s.w := by
  refine mg fun hg => ?_
  obtain ⟨g, cap, cur, c1, u0, c3, p1, p3, rfl, _⟩ := hH
  refine vl (v := .pointer (some ((⟨g, 0, none⟩ : Addr).add (ii.toNat * K.n)))) ho hd hN hw ?_ (h _ hg.1 hg.2 ⟨_, _, cap, rfl, rfl⟩)
  have h1 := hg.1
  have h2 := hg.2
  simp [execOp, hop, hX, hI, Instr.indexAt, asIntOf, run_underlying hu, h1, h2, size_run hs, Result.andThen]
end
theorem RwF.sub {α : Type} {e : TypeId} {K : Kd α} {s : St} {v : Value} {xs : List α} {c : Nat} {C : List Nat} (h : RwF e K s v xs c C) {D : List Nat} (d : V.sub C D = true) : RwF e K s v xs c D := by
 obtain ⟨cells, os, h1, h2, h3⟩ := h
 exact ⟨cells, os, h1, h2, h3.mono fun b hb _ => sub_out d hb⟩
end Go.Proofs.YtbkiaccollbjnaaGreat.V
set_option linter.unusedVariables false
set_option linter.unusedSimpArgs false
namespace Go.Proofs.YtbkiaccollbjnaaGreat.V
open Go
theorem ElsR.set {α : Type} {K : Kd α} {w : World} {F : Nat → Prop} {xs : List α} {cells c' : List Value} {y : α} (h : ElsR K w F xs cells) (i : Nat) (hi : i < xs.length) (hy : K.rd w c' y F) : ElsR K w F (xs.set i y) (cells.take (i * K.n) ++ c' ++ cells.drop ((i + 1) * K.n)) := by
 rw [List.set_eq_take_append_cons_drop, if_pos hi, List.append_assoc]
 exact (h.take i).append ⟨c', _, rfl, hy, h.drop (i + 1)⟩
section
variable {P : Program} {f : FuncId} {N : Nat} {O ρ : Type} {m : Option O} {G : O → Option ρ} {R : ρ → Ending → World → Prop} {e : Env} {s : St} {k : List Item} {ops : Array Oper} {i d : Nat} {rest : List Nat} {o : Oper}
end
end Go.Proofs.YtbkiaccollbjnaaGreat.V
set_option linter.unusedVariables false
set_option linter.unusedSimpArgs false
namespace Go.Proofs.YtbkiaccollbjnaaGreat.V
open Go
section
variable {P : Program} {f : FuncId} {N : Nat} {O ρ : Type} {m : Option O} {G : O → Option ρ} {R : ρ → Ending → World → Prop} {e : Env} {s : St} {k : List Item} {ops : Array Oper} {i d : Nat} {rest : List Nat} {o : Oper}
theorem ixc_run {w : World} {t te cnt n q : Nat} {kk : IntKind} {ii : Int} {ad : Addr} (hu : P.underlying t = some (.array cnt te)) (hs : (P.info? te).map (·.size) = some n) (h0 : decide (0 ≤ ii ∧ ii < (cnt : Int)) = true) (hq : Nat.beq (ii.toNat * n) q = true) :
    (Instr.indexAt t (.pointer (some ad)) (.int kk ii)).run P w = .ok (.pointer (some (ad.add q))) w := by
  obtain ⟨h1, h2⟩ := of_decide_eq_true h0
  have hq' := Nat.eq_of_beq_eq_true hq
  subst hq'
  simp [Instr.indexAt, asIntOf, run_underlying hu, h1, h2, size_run hs, Instr.sureAddr, Result.andThen]
theorem ixc {t te cnt n q : Nat} {kk : IntKind} {ii : Int} {X I : Operand} {ad : Addr} (hu : P.underlying t = some (.array cnt te)) (hs : (P.info? te).map (·.size) = some n)
    (h0 : decide (0 ≤ ii ∧ ii < (cnt : Int)) = true) (hq : Nat.beq (ii.toNat * n) q = true)
    (ho : ops[i]? = some o) (hd : o.dst = some d) (hN : Nat.blt d N = true) (hw : Region.wanted o (yv e ops) = true) (hop : o.op = .indexAddr t X I) (hX : ev e X = .pointer (some ad)) (hI : ev e I = .int kk ii)
    (h : TM P f N m G R (.inRegion ops rest :: k) (upd e d (.pointer (some (ad.add q)))) s.w) : TM P f N m G R (.inRegion ops (i :: rest) :: k) e s.w :=
  vl ho hd hN hw (by simp [execOp, hop, hX, hI, ixc_run hu hs h0 hq, Result.andThen]) h
theorem bdA {t te cnt n : Nat} {parts : Array (Nat × Operand)} {z : Value} {cells : List Value} (hu : P.underlying t = some (.array cnt te)) (hs : (P.info? te).map (·.size) = some n) (hz : (P.info? t).bind (·.zero) = some z)
    (ho : ops[i]? = some o) (hd : o.dst = some d) (hN : Nat.blt d N = true) (hw : Region.wanted o (yv e ops) = true) (hop : o.op = .build t parts) (hfill : lfill (fun i => some (i * n, n)) z.cells.toList (parts.toList.map fun (i, x) => (i, ev e x)) = some cells)
    (h : TM P f N m G R (.inRegion ops rest :: k) (upd e d (.agg cells.toArray)) s.w) : TM P f N m G R (.inRegion ops (i :: rest) :: k) e s.w :=
  vl ho hd hN hw (by
    have : (Instr.build t (parts.map fun (i, x) => (i, ev e x))).run P s.w = .ok (.agg cells.toArray) s.w := by
      have hfl := lfill_eq _ _ _ _ hfill
      unfold Instr.build
      rw [Sem.run_bind', zero_run hz]
      simp only [Result.andThen]
      rw [Sem.run_bind', run_underlying hu]
      simp only [Result.andThen]
      rw [Sem.run_bind', size_run hs]
      simp only [Result.andThen]
      simp only [] at hfl
      simp only [Array.toList_map, hfl]
      rfl
    simp [execOp, hop, this, Result.andThen]) h
end
end Go.Proofs.YtbkiaccollbjnaaGreat.V
set_option linter.unusedVariables false
set_option linter.unusedSimpArgs false
namespace Go.Proofs.YtbkiaccollbjnaaGreat.V
open Go
section
variable {P : Program} {f : FuncId} {N : Nat} {O ρ : Type} {m : Option O} {G : O → Option ρ} {R : ρ → Ending → World → Prop} {e : Env} {k : List Item} {ops : Array Oper}
variable {s : St} {i d : Nat} {rest : List Nat} {o : Oper}
end
end Go.Proofs.YtbkiaccollbjnaaGreat.V
set_option linter.unusedVariables false
set_option linter.unusedSimpArgs false
namespace Go.Proofs.YtbkiaccollbjnaaGreat.V
open Go
abbrev RT {ρ : Type} (Q : ρ → Value → World → Prop) (r : ρ) (en : Ending) (w' : World) : Prop := ∃ v, en = .returned v ∧ Q r v w'
end Go.Proofs.YtbkiaccollbjnaaGreat.V
set_option linter.unusedVariables false
set_option linter.unusedSimpArgs false
namespace Go.Proofs.YtbkiaccollbjnaaGreat.V
open Go
section
variable {α : Type} {K : Kd α} {te : TypeId} {s : St} {v v' : Value} {xs : List α} {c : Nat}
end
section
variable {P : Program} {f : FuncId} {N : Nat} {O ρ : Type} {m : Option O} {G : O → Option ρ} {R : ρ → Ending → World → Prop} {e : Env} {s : St} {k : List Item} {ops : Array Oper} {i d : Nat} {rest : List Nat} {o : Oper}
end
end Go.Proofs.YtbkiaccollbjnaaGreat.V
set_option linter.unusedVariables false
set_option linter.unusedSimpArgs false
set_option linter.unusedSectionVars false
namespace Go.Proofs.YtbkiaccollbjnaaGreat.V
open Go
section
variable {α : Type} [Inhabited α]
end
section
variable {β : Type} [Inhabited β] {K : Kd β} {te : TypeId}
def PkB (K : Kd β) (s : St) (ps : List (Pk β × List Nat)) (c : Nat) : Prop := (∀ p ∈ ps, K.ow s.w p.1.cs p.1.x p.2) ∧ ((ps.map (·.2)).flatten).Nodup ∧ ∀ b ∈ (ps.map (·.2)).flatten, s.g b = c
theorem mem_fl {ps : List (Pk β × List Nat)} {p : Pk β × List Nat} (h : p ∈ ps) {b : Nat} (hb : b ∈ p.2) : b ∈ (ps.map (·.2)).flatten := List.mem_flatten.2 ⟨p.2, List.mem_map.2 ⟨p, h, rfl⟩, hb⟩
theorem PkB.st {s s' : St} {S : List Nat} {ps : List (Pk β × List Nat)} {c : Nat} (h : PkB K s ps c) (p : Stp S s s') (d : memb S c = false) : PkB K s' ps c := by
 refine ⟨fun q hq => K.ow_frame (h.1 q hq) fun b hb hl => (p.same b hl (by rw [h.2.2 b (mem_fl hq hb)]; exact d)).2, h.2.1, fun b hb => ?_⟩
 obtain ⟨l, hl, hbl⟩ := List.mem_flatten.1 hb
 obtain ⟨q, hq, rfl⟩ := List.mem_map.1 hl
 rw [(p.same b (K.ow_lt (h.1 q hq) b hbl) (by rw [h.2.2 b hb]; exact d)).1, h.2.2 b hb]
end
end Go.Proofs.YtbkiaccollbjnaaGreat.V
set_option linter.unusedVariables false
set_option linter.unusedSimpArgs false
namespace Go.Proofs.YtbkiaccollbjnaaGreat.V
open Go
structure Rc (E : List Nat) (q : Nat) (s s' : St) : Prop where
 w : s.w = s'.w
 inn : ∀ b, memb E (s.g b) = true → s'.g b = q
 out : ∀ b, memb E (s.g b) = false → s'.g b = s.g b
end Go.Proofs.YtbkiaccollbjnaaGreat.V
set_option linter.unusedVariables false
set_option linter.unusedSimpArgs false
namespace Go.Proofs.YtbkiaccollbjnaaGreat.V
open Go
theorem ZN.bl {F : Nat → Prop} {ps : List (List Nat × Nat)} {s : St} (z : ZN F ps s) {b c : Nat} {t : TypeId} {cs : List Value} (hm : ([b], c) ∈ ps) (h : BlW s.w b t cs) : BlF s b t cs c := ⟨h, z.pt _ hm b (by simp)⟩
section
variable {P : Program} {N : Nat} {e : Env} {s : St} {ops : Array Oper} {i d : Nat} {o : Oper}
end
end Go.Proofs.YtbkiaccollbjnaaGreat.V
set_option linter.unusedVariables false
set_option linter.unusedSimpArgs false
set_option linter.unusedSectionVars false
namespace Go.Proofs.YtbkiaccollbjnaaGreat.V
open Go
theorem lpu {P : Program} {f : FuncId} {N : Nat} {O ρ : Type} {m : Option O} {G : O → Option ρ} {R : ρ → Ending → World → Prop} {e : Env} {w : World} {k : List Item} {c : Code} (h : TM P f N m G R (.code c :: .inLoop c :: k) e w) : TM P f N m G R (.code (.loop c) :: k) e w := TM.of (fun _ h => T_loop h) h
theorem inu {P : Program} {f : FuncId} {N : Nat} {O ρ : Type} {m : Option O} {G : O → Option ρ} {R : ρ → Ending → World → Prop} {e : Env} {w : World} {k : List Item} {c : Code} (h : TM P f N m G R (.code c :: .inLoop c :: k) e w) : TM P f N m G R (.inLoop c :: k) e w := TM.of (fun _ h => T_inLoop h) h
end Go.Proofs.YtbkiaccollbjnaaGreat.V
namespace Go.Proofs.YtbkiaccollbjnaaGreat.V
open Go Go.Proofs Go.Sort
theorem flat_len {α : Type} {enc : α → List Value} {k : Nat} (hk : ∀ x, (enc x).length = k) : ∀ xs : List α, (xs.flatMap enc).length = xs.length * k
 | [] => by simp
 | x :: xs => by rw [List.flatMap_cons, List.length_append, hk, flat_len hk xs, List.length_cons, Nat.add_mul]; omega
section
variable {α : Type} [Inhabited α] {enc : α → List Value} {k : Nat} (hk : ∀ x, (enc x).length = k)
include hk
theorem flat_at : ∀ (xs : List α) (t : Nat), t < xs.length * k → (xs.flatMap enc)[t]! = (enc xs[t / k]!)[t % k]!
  | [], t, h => by simp at h
  | x :: xs, t, h => by
    have hk0 : 0 < k := by rcases Nat.eq_zero_or_pos k with e | e; · subst e; simp at h
                           · exact e
    rw [List.flatMap_cons]
    by_cases ht : t < k
    · rw [Nat.div_eq_of_lt ht, Nat.mod_eq_of_lt ht]
      rw [getElem!_pos _ t (by rw [List.length_append, hk]; omega), List.getElem_append_left (by rw [hk]; exact ht)]
      simp [hk, ht]
    · have h' : t - k < xs.length * k := by simp [Nat.add_mul] at h; omega
      have ih := flat_at xs (t - k) h'
      have e1 : t / k = (t - k) / k + 1 := by
        have : t = (t - k) + k := by omega
        rw [this, Nat.add_div_right _ hk0]; simp
      have e2 : t % k = (t - k) % k := by
        have : t = (t - k) + k := by omega
        rw [this, Nat.add_mod_right]; simp
      have hlen := flat_len hk xs
      rw [e1, e2, List.getElem!_cons_succ, ← ih]
      rw [getElem!_pos _ t (by rw [List.length_append, hk, hlen]; omega), List.getElem_append_right (by rw [hk]; omega), getElem!_pos _ (t - k) (by rw [hlen]; exact h')]
      simp [hk]
theorem flatK_list (d : Array α) : (flatK enc k d).toList = d.toList.flatMap enc := by
  apply List.ext_getElem
  · rw [flat_len hk]; simp
  · intro t h1 h2
    have ht : t < d.size * k := by simpa using h1
    have h3 := flat_at hk d.toList t (by simpa using ht)
    rw [getElem!_pos _ t h2] at h3
    rw [h3]
    have h4 := get_flatK enc k d t ht
    rw [getElem!_pos _ t (by simpa using ht)] at h4
    have hk0 : 0 < k := by rcases Nat.eq_zero_or_pos k with e | e; · subst e; simp at ht
                           · exact e
    have hd : t / k < d.size := (Nat.div_lt_iff_lt_mul hk0).2 ht
    have e : d.toList[t / k]! = d[t / k]! := by rw [getElem!_pos d.toList _ (by simpa using hd), getElem!_pos d _ hd]; simp
    rw [Array.getElem_toList, h4, e]
end
theorem row_holds {α : Type} [Inhabited α] {enc : α → List Value} {k : Nat} (hk : ∀ x, (enc x).length = k) {w : World} {g e : Nat} {cur : Array Value} (hg : w.heap[g]? = some (.cells cur e (0, 0))) (d : Array α) (hc : cur.toList.take (d.size * k) = d.toList.flatMap enc) : HoldsK enc k w g 0 d := by
 intro j hj
 have hj' : j < d.size * k := by simpa using hj
 have e1 : (cur.toList.take (d.size * k))[j]? = some ((flatK enc k d)[j]!) := by
  rw [hc, ← flatK_list hk, getElem!_pos _ j hj]; simp
 rw [List.getElem?_take_of_lt hj'] at e1
 have e2 : cur[j]? = some ((flatK enc k d)[j]!) := by simpa using e1
 constructor
 · unfold World.cell?
   simp only [Nat.zero_add]
   rw [hg]
   simpa using e2
 · unfold World.frozen?
   simp only [Nat.zero_add]
   rw [hg]
   simp
theorem row_sorted {α : Type} [Inhabited α] {enc : α → List Value} {k : Nat} (hk : ∀ x, (enc x).length = k) {w : World} {g e : Nat} {cur : Array Value} (hg : w.heap[g]? = some (.cells cur e (0, 0))) (dk : Array α) (hc : dk.size * k ≤ cur.size) (m : Nat) (os : Array Obj) :
    (∃ cur', (sortWorldK enc k w g 0 m dk os).heap[g]? = some (.cells cur' e (0, 0)) ∧ cur'.size = cur.size ∧ cur'.toList.take (dk.size * k) = dk.toList.flatMap enc) ∧ Ky [g] w (sortWorldK enc k w g 0 m dk os) := by
  have hgl := (Array.getElem?_eq_some_iff.1 hg).1
  have hsz : (putRowK enc k (Sort.ahead w m) g 0 dk).heap.size = w.heap.size := by unfold putRowK putRow mapBlock; simp [Sort.ahead]
  have hhp : ∀ b, b < w.heap.size → (sortWorldK enc k w g 0 m dk os).heap[b]? = (putRowK enc k (Sort.ahead w m) g 0 dk).heap[b]? := fun b hb => by
    unfold sortWorldK grow
    rw [Array.getElem?_append_left (by rw [hsz]; exact hb)]
  have hmd : ∀ b, (putRowK enc k (Sort.ahead w m) g 0 dk).heap[b]? = if g = b then (w.heap[b]?).map (onCells (putCells id 0 (flatK enc k dk))) else w.heap[b]? := fun b => by
    unfold putRowK putRow mapBlock
    simp only [Array.getElem?_modify]
    rfl
  refine ⟨⟨putCells id 0 (flatK enc k dk) cur, ?_, ?_, ?_⟩, ⟨rfl, rfl, rfl, ?_, fun b hb hm => ?_⟩⟩
  · rw [hhp g hgl, hmd, if_pos rfl, hg]; rfl
  · simp [putCells]
  · rw [← flatK_list hk]
    apply List.ext_getElem?
    intro j
    by_cases hj : j < dk.size * k
    · rw [List.getElem?_take_of_lt hj]
      have hj2 : j < cur.size := by omega
      simp [putCells, hj, hj2]
    · rw [List.getElem?_eq_none (by simp; omega), List.getElem?_eq_none (by simp; omega)]
  · unfold sortWorldK grow
    simp only [Array.size_append]
    omega
  · rw [hhp b hb, hmd, if_neg (fun e => hm (by simp [e]))]
theorem els_enc {α : Type} {K : Kd α} {enc : α → List Value} (hK : ∀ w cs x os, K.ow w cs x os ↔ cs = enc x ∧ os = []) {w : World} : ∀ {xs : List α} {cs : List Value} {os : List Nat}, ElsO K w xs cs os ↔ cs = xs.flatMap enc ∧ os = []
 | [], cs, os => by simp [ElsO]
 | x :: xs, cs, os => by
  unfold ElsO
  constructor
  · rintro ⟨c1, c2, o1, o2, rfl, rfl, h1, h2⟩
    obtain ⟨rfl, rfl⟩ := (hK _ _ _ _).1 h1
    obtain ⟨rfl, rfl⟩ := (els_enc hK).1 h2
    simp
  · rintro ⟨rfl, rfl⟩
    exact ⟨enc x, xs.flatMap enc, [], [], rfl, rfl, (hK _ _ _ _).2 ⟨rfl, rfl⟩, (els_enc hK).2 ⟨rfl, rfl⟩⟩
theorem sortW {P : Program} {f te k : Nat} {α : Type} [Inhabited α] {K : Kd α} {enc : α → List Value} {fv : Value} {srt : List α → List α} (hk : ∀ x, (enc x).length = k) (hn : K.n = k) (hK : ∀ w cs x os, K.ow w cs x os ↔ cs = enc x ∧ os = []) (hl : ∀ xs, (srt xs).length = xs.length)
    (hN : ∀ (p : Option Addr) (cap : Nat) (w : World), Calls P f #[.slice p 0 cap, fv] w fun e w' => e = .returned (.tuple #[]) ∧ w' = w)
    (hS : ∀ (blk cap : Nat) (d : Array α) (w : World), HoldsK enc k w blk 0 d → blk < w.heap.size → d.size < 4611686018427387904 → Calls P f #[.slice (some ⟨blk, 0, none⟩) d.size cap, fv] w fun e w' => e = .returned (.tuple #[]) ∧ ∃ n os, w' = sortWorldK enc k w blk 0 n (srt d.toList).toArray os)
    (a0 : List α) (w : World) (w0 : Value) (os : List Nat) (h0 : (Kd.sl te K).ow w [w0] a0 os) (ho : os.Nodup) (hsm : a0.length < 4611686018427387904) :
    Calls P f #[w0, fv] w fun en w' => ∃ v, en = .returned v ∧ v = .tuple #[] ∧ FW (Kd.sl te K) os w w' [w0] (srt a0) ∧ Ky os w w' := by
  subst hn
  obtain ⟨v, e, cells, o1, o2, rfl, hrow, hels⟩ := h0
  obtain rfl : w0 = v := by simpa using e
  obtain ⟨rfl, rfl⟩ := (els_enc hK).1 hels
  rw [List.append_nil] at ho ⊢
  rcases hrow.2 with ⟨rfl, hz, rfl⟩ | ⟨g, cap, cur, rfl, hg, hle, hcap, hsz, htk, rfl⟩
  · obtain rfl : a0 = [] := List.eq_nil_of_length_eq_zero hz
    have hs : srt [] = [] := List.eq_nil_of_length_eq_zero (hl [])
    refine (hN none 0 w).mono fun en w' ⟨he, hw⟩ => ⟨_, he, rfl, ?_, ?_⟩
    · subst hw; rw [hs]
      exact ⟨[], ⟨_, rfl, [], [], [], rfl, ⟨by simp, .inl ⟨rfl, rfl, rfl⟩⟩, by simp [ElsO]⟩, List.nodup_nil, fun b hb => by cases hb⟩
    · subst hw; exact Ky.refl _
  · have hgl := (Array.getElem?_eq_some_iff.1 hg).1
    have hH : HoldsK enc K.n w g 0 a0.toArray := row_holds hk hg a0.toArray (by simpa using htk)
    refine (hS g cap a0.toArray w hH hgl (by simpa using hsm)).mono fun en w' ⟨he, n, os', hw⟩ => ⟨_, he, rfl, ?_, ?_⟩
    · subst hw
      obtain ⟨⟨cur', h1, h2, h3⟩, _⟩ := row_sorted hk hg (srt a0.toArray.toList).toArray (by simp [hl, hsz]; exact Nat.mul_le_mul_right _ hle) n os'
      refine ⟨[g], ⟨_, rfl, (srt a0).flatMap enc, [g], [], rfl, ⟨by rw [flat_len hk], .inr ⟨g, cap, cur', by simp [hl], h1, by rw [hl]; exact hle, hcap, by rw [h2, hsz], by simpa using h3, rfl⟩⟩, (els_enc hK).2 ⟨rfl, rfl⟩⟩, by simp, fun b hb => .inl hb⟩
    · subst hw
      exact (row_sorted hk hg (srt a0.toArray.toList).toArray (by simp [hl, hsz]; exact Nat.mul_le_mul_right _ hle) n os').2
section
variable {P : Program} {f : FuncId} {N : Nat} {O ρ : Type} {G : O → Option ρ} {R : ρ → Ending → World → Prop} {k : List Item} {e : Env} {ops : Array Oper}
theorem clV {α : Type} {x : Option α} {km : α → Option O} {i d : Nat} {rest : List Nat} {o : Oper} {g : FuncId} {fn : Func} {c : Code} {args : Array Operand} {ts : Array TypeId} {vs : List Value} {s : St} {V : α → Value} (cc : Nat) (t0 : E5 (ops[i]?) (some o) (o.dst) (some d) (Nat.blt d N) (true) (Region.wanted o (yv e ops)) (true) (o.op) (.call { callee := .value (.func g), args := args, argTypes := ts })) (hg : P.funcs[g]? = some fn) (t6 : E3 (fn.body) (some c) ((fn.name == "runtime.NumGoroutine")) (false) (args.toList.map (ev e)) (vs)) (hc : ∀ a, x = some a → Calls P g vs.toArray s.w fun en w' => ∃ v, en = .returned v ∧ v = V a ∧ Ky [] s.w w')
  (h : ∀ a s', Stp [] s s' → Nw s s' cc → TM P f N (km a) G R (.inRegion ops rest :: k) (upd e d (V a)) s'.w) : TM P f N (x.bind km) G R (.inRegion ops (i :: rest) :: k) e s.w :=
 cl (e5_ t0).1 (e5_ t0).2.1 (e5_ t0).2.2.1 (e5_ t0).2.2.2.1 (e5_ t0).2.2.2.2 hg (e3_ t6).1 (e3_ t6).2.1 (e3_ t6).2.2 hc fun a v w' _ hq => by
  obtain ⟨rfl, ky⟩ := hq
  obtain ⟨s', rfl, p, n⟩ := nwx s w' cc ky
  exact h a s' p n
theorem clO {α : Type} {x : Option α} {km : α → Option O} {i d : Nat} {rest : List Nat} {o : Oper} {g : FuncId} {fn : Func} {c : Code} {args : Array Operand} {ts : Array TypeId} {vs : List Value} {s : St} {β : Type} {K : Kd β} {X : α → β} (cc : Nat) (t0 : E5 (ops[i]?) (some o) (o.dst) (some d) (Nat.blt d N) (true) (Region.wanted o (yv e ops)) (true) (o.op) (.call { callee := .value (.func g), args := args, argTypes := ts })) (hg : P.funcs[g]? = some fn) (t6 : E3 (fn.body) (some c) ((fn.name == "runtime.NumGoroutine")) (false) (args.toList.map (ev e)) (vs)) (hc : ∀ a, x = some a → Calls P g vs.toArray s.w fun en w' => ∃ v, en = .returned v ∧ FO K s.w w' [v] (X a) ∧ Ky [] s.w w')
  (h : ∀ a v s', Stp [] s s' → OwF K s' [v] (X a) cc → TM P f N (km a) G R (.inRegion ops rest :: k) (upd e d v) s'.w) : TM P f N (x.bind km) G R (.inRegion ops (i :: rest) :: k) e s.w :=
 cl (e5_ t0).1 (e5_ t0).2.1 (e5_ t0).2.2.1 (e5_ t0).2.2.2.1 (e5_ t0).2.2.2.2 hg (e3_ t6).1 (e3_ t6).2.1 (e3_ t6).2.2 hc fun a v w' _ hq => by
  obtain ⟨f, ky⟩ := hq
  obtain ⟨s', rfl, p, n⟩ := nwx s w' cc ky
  exact h a v s' p (f.c n)
end
end Go.Proofs.YtbkiaccollbjnaaGreat.V
