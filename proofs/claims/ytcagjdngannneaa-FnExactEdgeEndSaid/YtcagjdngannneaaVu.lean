
import Derived.Test.YtcagjdngannneaaVt
import Derived.MapKept
import Derived.Carry
set_option linter.unusedVariables false
set_option linter.unusedSimpArgs false
namespace Go.Proofs.Ytcagjdngannneaa.V
open Go
abbrev MD := List (Int × Bool)
def midx : MD → Int → Nat → Option (Nat × Bool)
  | [], _, _ => none
  | p :: m, k, i => bif k == p.1 then some (i, p.2) else midx m k (i + 1)
def mget (m : MD) (k : Int) : Bool := match midx m k 0 with
  | some p => p.2
  | none => false
def mset (m : MD) (k : Int) (v : Bool) : MD := match midx m k 0 with
  | some p => m.set p.1 (k, v)
  | none => m ++ [(k, v)]
def mcell (p : Int × Bool) : Value × Value := (.int .i64 p.1, .bool p.2)
def MpF (s : St) (b : Nat) (m : MD) (c : Nat) : Prop := ∃ es clock, s.w.heap[b]? = some (.map es clock) ∧ s.g b = c ∧ es.toList.map (fun e => (e.key, e.val)) = m.map mcell
theorem MpF.st {s s' : St} {S : List Nat} {b c : Nat} {m : MD} (h : MpF s b m c) (p : Stp S s s') (d : memb S c = false) : MpF s' b m c := by
  obtain ⟨es, cl, hb, hc, he⟩ := h
  have hl : b < s.w.heap.size := (Array.getElem?_eq_some_iff.1 hb).1
  have := p.same b hl (by rw [hc]; exact d)
  exact ⟨es, cl, by rw [this.2]; exact hb, by rw [this.1]; exact hc, he⟩
theorem midx_now (k : Int) : ∀ (es : List MapEntry) (m : MD) (i : Nat), es.map (fun e => (e.key, e.val)) = m.map mcell →
    Instr.findNow (.int .i64) (.int .i64 k) es i = some ((midx m k i).map fun p => (p.1, .bool p.2))
  | [], [], i, _ => rfl
  | [], _ :: _, i, h => by cases h
  | _ :: _, [], i, h => by cases h
  | e :: es, p :: m, i, h => by
    simp only [List.map_cons, List.cons.injEq] at h
    obtain ⟨h1, h2⟩ := h
    have hk : e.key = .int .i64 p.1 := congrArg Prod.fst h1
    have hv : e.val = .bool p.2 := congrArg Prod.snd h1
    unfold Instr.findNow midx
    rw [hk]
    simp only [Instr.sameNow, if_true]
    cases hkp : (k == p.1) with
    | true => simp [hv]
    | false => simpa using midx_now k es m (i + 1) h2
theorem midx_lt (k : Int) : ∀ (m : MD) (i j : Nat) (v : Bool), midx m k i = some (j, v) → i ≤ j ∧ j < i + m.length ∧ ∀ p, m[j - i]? = some p → p.1 = k ∧ p.2 = v
  | [], i, j, v, h => by cases h
  | p :: m, i, j, v, h => by
    unfold midx at h
    cases hkp : (k == p.1) with
    | true =>
      rw [hkp] at h
      simp only [cond_true, Option.some.injEq, Prod.mk.injEq] at h
      obtain ⟨rfl, rfl⟩ := h
      refine ⟨Nat.le_refl _, by simp, fun q hq => ?_⟩
      simp at hq; subst hq
      exact ⟨(by simpa using hkp : k = p.1).symm, rfl⟩
    | false =>
      rw [hkp] at h
      simp only [cond_false] at h
      obtain ⟨h1, h2, h3⟩ := midx_lt k m (i + 1) j v h
      refine ⟨by omega, by simp; omega, fun q hq => h3 q ?_⟩
      rw [show j - i = (j - (i + 1)) + 1 by omega] at hq
      simpa using hq
section
variable {P : Program} {f : FuncId} {N : Nat} {O ρ : Type} {m : Option O} {G : O → Option ρ} {R : ρ → Ending → World → Prop} {e : Env} {s : St} {k : List Item} {ops : Array Oper} {i d : Nat} {rest : List Nat} {o : Oper}
theorem mkm (c : Nat) {t : TypeId} (ho : ops[i]? = some o) (hd : o.dst = some d) (hN : Nat.blt d N = true) (hw : Region.wanted o (yv e ops) = true) (hop : o.op = .makeMap t none)
    (h : ∀ b s', Stp [] s s' → MpF s' b [] c → TM P f N m G R (.inRegion ops rest :: k) (upd e d (.map (some b))) s'.w) : TM P f N m G R (.inRegion ops (i :: rest) :: k) e s.w := by
  obtain ⟨s', hs', p, n⟩ := s.made (.map #[] 0) c
  refine vl (v := .map (some s.w.heap.size)) (w' := s'.w) ho hd hN hw ?_ (h _ s' p ⟨#[], 0, ?_, n.new _ (Nat.le_refl _), rfl⟩)
  · rw [hs']; simp [execOp, hop, Go.RowKit.run_makeMap, Result.andThen]
  · rw [hs']; exact heap_alloc_new s.w _
theorem look_run {t kt et b c : Nat} {mm : MD} {kk : Int} (hm : P.underlying t = some (.map kt et)) (hk : P.underlying kt = some (.int .i64)) (hz : (P.info? et).bind (·.zero) = some (.bool false)) (hB : MpF s b mm c) :
    (Instr.lookup t (.map (some b)) (.int .i64 kk) false).run P s.w = .ok (.bool (mget mm kk)) s.w := by
  obtain ⟨es, cl, hb, hc, he⟩ := hB
  unfold Instr.lookup
  rw [Sem.run_bind', run_underlying hm]
  simp only [Result.andThen]
  rw [Sem.run_bind', Go.MapKept.run_getObj_map hb]
  simp only [Result.andThen]
  rw [Sem.run_bind']
  simp only [Sem.run_pure, Result.andThen]
  rw [Sem.run_bind', Go.MapKept.run_checkKey hk (by simp [Go.MapKept.IsKey])]
  simp only [Result.andThen]
  have hf := midx_now kk es.toList mm 0 he
  rw [Sem.run_bind', Go.MapKept.run_findKey hk hf]
  unfold mget
  cases hx : midx mm kk 0 with
  | none => simp [Result.andThen, zero_run hz]
  | some p => simp [Result.andThen]
theorem lkm {t kt et b c : Nat} {mm : MD} {kk : Int} {x y : Operand} (hB : MpF s b mm c) (hm : P.underlying t = some (.map kt et)) (hk : P.underlying kt = some (.int .i64)) (hz : (P.info? et).bind (·.zero) = some (.bool false))
    (ho : ops[i]? = some o) (hd : o.dst = some d) (hN : Nat.blt d N = true) (hw : Region.wanted o (yv e ops) = true) (hop : o.op = .lookup t x y false) (hx : ev e x = .map (some b)) (hy : ev e y = .int .i64 kk)
    (h : TM P f N m G R (.inRegion ops rest :: k) (upd e d (.bool (mget mm kk))) s.w) : TM P f N m G R (.inRegion ops (i :: rest) :: k) e s.w :=
  vl ho hd hN hw (by simp [execOp, hop, hx, hy, look_run hm hk hz hB, Result.andThen]) h
theorem upm {t kt et b c : Nat} {mm : MD} {kk : Int} {v : Bool} {x y u : Operand} (hB : MpF s b mm c) (hm : P.underlying t = some (.map kt et)) (hk : P.underlying kt = some (.int .i64))
    (ho : ops[i]? = some o) (hd : o.dst = none) (hw : Region.wanted o (yv e ops) = true) (hop : o.op = .mapUpdate t x y u) (hx : ev e x = .map (some b)) (hy : ev e y = .int .i64 kk) (hu : ev e u = .bool v)
    (h : ∀ s', Stp [c] s s' → MpF s' b (mset mm kk v) c → TM P f N m G R (.inRegion ops rest :: k) e s'.w) : TM P f N m G R (.inRegion ops (i :: rest) :: k) e s.w := by
  obtain ⟨es, cl, hb, hc, he⟩ := hB
  have key : ∃ es' cl', (Instr.mapUpdate t (.map (some b)) (.int .i64 kk) (.bool v)).run P s.w = .ok () { s.w with heap := s.w.heap.setIfInBounds b (.map es' cl') } ∧ es'.toList.map (fun e => (e.key, e.val)) = (mset mm kk v).map mcell := by
    unfold Instr.mapUpdate
    rw [Sem.run_bind', run_underlying hm]
    simp only [Result.andThen]
    rw [Sem.run_bind', Go.MapKept.run_getObj_map hb]
    simp only [Result.andThen]
    rw [Sem.run_bind', Go.MapKept.run_checkKey hk (by simp [Go.MapKept.IsKey])]
    simp only [Result.andThen]
    have hf := midx_now kk es.toList mm 0 he
    rw [Sem.run_bind', Go.MapKept.run_findKey hk hf]
    unfold mset
    have hlen : es.size = mm.length := by
      have := congrArg List.length he
      simpa using this
    cases hxx : midx mm kk 0 with
    | none =>
      refine ⟨es.push { key := .int .i64 kk, val := .bool v, born := cl }, cl + 1, ?_, ?_⟩
      · simp [Result.andThen, Go.MapKept.run_setObj_map _ hb]
      · simp [he, mcell]
    | some p =>
      obtain ⟨_, hlt, hp⟩ := midx_lt kk mm 0 p.1 p.2 hxx
      have hlt' : p.1 < mm.length := by omega
      have hpk := (hp mm[p.1] (by simp [List.getElem?_eq_getElem hlt'])).1
      have hes : p.1 < es.size := by omega
      have hkey : (es[p.1]).key = .int .i64 kk := by
        have h1 : (es.toList.map (fun e => (e.key, e.val)))[p.1]? = (mm.map mcell)[p.1]? := by rw [he]
        rw [List.getElem?_map, List.getElem?_map, List.getElem?_eq_getElem hlt', List.getElem?_eq_getElem (by simpa using hes)] at h1
        simp only [Option.map_some, Option.some.injEq] at h1
        have h2 := congrArg Prod.fst h1
        simp only [mcell] at h2
        rw [hpk] at h2
        simpa using h2
      refine ⟨es.modify p.1 fun e => { e with key := .int .i64 kk, val := .bool v }, cl, ?_, ?_⟩
      · have hst : (Instr.keyThatStays (((es[p.1]?).map (·.key)).getD (.int .i64 kk)) (.int .i64 kk)).run P s.w = .ok (.int .i64 kk) s.w := by
          rw [Array.getElem?_eq_getElem hes]
          simp only [Option.map_some, Option.getD_some, hkey]
          unfold Instr.keyThatStays
          have : Instr.sameBits 10000 (.int .i64 kk) (.int .i64 kk) = true := by simp [Instr.sameBits]
          rw [if_pos this]; rfl
        simp only [Result.andThen, Option.map_some]
        rw [Sem.run_bind', hst]
        simp [Result.andThen, Go.MapKept.run_setObj_map _ hb]
      · have : (es.modify p.1 fun e => { e with key := Value.int .i64 kk, val := Value.bool v }).toList.map (fun e => (e.key, e.val)) = (es.toList.map fun e => (e.key, e.val)).set p.1 (mcell (kk, v)) := by
          rw [Array.toList_modify]
          apply List.ext_getElem?
          intro j
          simp only [List.getElem?_map, List.getElem?_modify, List.getElem?_set, List.length_map, Array.length_toList]
          by_cases hj : p.1 = j
          · subst hj; simp [hes, mcell]
          · simp [hj]
        rw [this, he, List.map_set]
  obtain ⟨es', cl', hr, he'⟩ := key
  have hset := Go.MapKept.heap_set (o' := .map es' cl') hb
  refine vd (w' := { s.w with heap := s.w.heap.setIfInBounds b (.map es' cl') }) ho hd hw (by simp [execOp, hop, hx, hy, hu, hr, Result.andThen]) (h ⟨{ s.w with heap := s.w.heap.setIfInBounds b (.map es' cl') }, s.g⟩ ⟨rfl, rfl, rfl, by simp, fun _ _ _ => rfl, fun b' hb' hm' => ⟨rfl, ?_⟩⟩ ⟨es', cl', hset.1, hc, he'⟩)
  refine hset.2 b' fun hne => ?_
  subst hne
  rw [hc] at hm'
  simp [memb] at hm'
end
theorem midx_some (m : MD) (k : Int) : ∀ i, (midx m k i).isSome = m.any (fun p => k == p.1) := by
  induction m with
  | nil => intro i; rfl
  | cons p m ih =>
    intro i
    unfold midx
    cases h : (k == p.1) with
    | true => simp [h]
    | false => simp [h, ih (i + 1)]
theorem mget_all {m : MD} (h : ∀ p ∈ m, p.2 = true) (k : Int) : mget m k = m.any (fun p => k == p.1) := by
  rw [← midx_some m k 0]
  unfold mget
  cases hx : midx m k 0 with
  | none => rfl
  | some p =>
    obtain ⟨h0, h1, h2⟩ := midx_lt k m 0 p.1 p.2 hx
    have hlt : p.1 < m.length := by omega
    have h3 := (h2 m[p.1] (by simp [List.getElem?_eq_getElem hlt])).2
    have h4 := h _ (List.getElem_mem hlt)
    simp only [Option.isSome_some]
    rw [← h3, h4]
theorem mset_new {m : MD} {k : Int} (h : m.any (fun p => k == p.1) = false) (v : Bool) : mset m k v = m ++ [(k, v)] := by
  rw [← midx_some m k 0] at h
  unfold mset
  cases hx : midx m k 0 with
  | none => rfl
  | some p => rw [hx] at h; cases h
end Go.Proofs.Ytcagjdngannneaa.V
