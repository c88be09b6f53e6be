
import Derived.Test.YtcagjdngannneaaVd
import Derived.Deep.MidRow
set_option linter.unusedVariables false
set_option linter.unusedSimpArgs false
namespace Go.Proofs.Ytcagjdngannneaa.V
open Go

def IxA (v : Value) (n : Nat) (i : Int) (ad : Addr) : Prop := ∃ A l cap, v = .slice (some A) l cap ∧ ad = A.add (i.toNat * n)
def CeF (s : St) (ad : Addr) (es : List Value) (C : List Nat) : Prop := memb C (s.g ad.block) = true ∧ ∀ j u, es[j]? = some u → s.w.cell? (ad.add j) = some u
theorem CeF.st {s s' : St} {S C : List Nat} {ad : Addr} {es : List Value} (h : CeF s ad es C) (p : Stp S s s') (d : dj C S = true) (hne : Nat.ble 1 es.length = true) : CeF s' ad es C := by
  obtain ⟨u, us, rfl⟩ := List.exists_cons_of_ne_nil (l := es) (by intro h; subst h; cases hne)
  have hl : ad.block < s.w.heap.size := by
    have := World.block_lt_of_cell? s.w (ad.add 0) (h.2 0 u rfl)
    rwa [add_block] at this
  have hs := p.same ad.block hl (dj_out d h.1)
  refine ⟨by rw [hs.1]; exact h.1, fun j u hj => ?_⟩
  have := h.2 j u hj
  rw [World.cell?_of_block (w := s.w) (by rw [add_block]; exact hs.2)]
  exact this
def at_ {α : Type} [Inhabited α] (xs : List α) (i : Int) : α := xs.getD i.toNat default
theorem at_eq {α : Type} [Inhabited α] (xs : List α) (i : Int) (h : i.toNat < xs.length) : at_ xs i = xs[i.toNat] := by simp [at_, List.getD, List.getElem?_eq_getElem h]
def Lim : Nat := 4294967296

section runs
variable {P : Program} {w : World}
theorem size_run {t n : Nat} (h : (P.info? t).map (·.size) = some n) : (sizeOf t).run P w = .ok n w := by
  obtain ⟨i, hi, hs⟩ := Option.map_eq_some_iff.1 h
  simp [sizeOf, typeInfo, hi, hs]
theorem zero_run {t : Nat} {z : Value} (h : (P.info? t).bind (·.zero) = some z) : (zeroValue t).run P w = .ok z w := by
  obtain ⟨i, hi, hs⟩ := Option.bind_eq_some_iff.1 h
  simp [zeroValue, typeInfo, hi, hs]
theorem agg_run {t : Nat} {d : TypeDesc} (h : P.underlying t = some d) : (isAgg t).run P w = .ok d.isRow w := by
  unfold isAgg
  rw [Sem.run_bind', run_underlying h w]
  cases d <;> simp [TypeDesc.isRow, Result.andThen]
theorem box_run {t : TypeId} {v : Value} : (Instr.box t v).run P w = .ok (.pointer (some ⟨w.heap.size, 0, none⟩)) (w.alloc (.cells v.cells t)) := by
  simp [Instr.box, newVar, newRow, newObj]; rfl
theorem alloc_run {t : TypeId} {z : Value} (h : (P.info? t).bind (·.zero) = some z) : (Instr.alloc t true (.tuple #[])).run P w = .ok (.pointer (some ⟨w.heap.size, 0, none⟩)) (w.alloc (.cells z.cells t)) := by
  unfold Instr.alloc
  rw [Sem.run_bind', zero_run h]
  simp [Result.andThen, newVar, newRow, newObj]; rfl
theorem load_run {t : TypeId} {d : TypeDesc} {ad : Addr} {v : Value} (hu : P.underlying t = some d) (hd : d.isRow = false) (hc : w.cell? ad = some v) : (Instr.loadAt t (.pointer (some ad))).run P w = .ok v w := by
  unfold Instr.loadAt
  rw [Sem.run_bind']
  simp only [Instr.sureAddr, Sem.run_pure, Result.andThen]
  unfold loadVar
  rw [Sem.run_bind', agg_run hu, hd]
  simp [Result.andThen, hc]
theorem loadAgg_run {t : TypeId} {d : TypeDesc} {ad : Addr} {es : List Value} (hu : P.underlying t = some d) (hd : d.isRow = true) (hs : (P.info? t).map (·.size) = some es.length) (hc : ∀ j u, es[j]? = some u → w.cell? (ad.add j) = some u) :
    (Instr.loadAt t (.pointer (some ad))).run P w = .ok (.agg es.toArray) w := by
  unfold Instr.loadAt
  rw [Sem.run_bind']
  simp only [Instr.sureAddr, Sem.run_pure, Result.andThen]
  unfold loadVar
  rw [Sem.run_bind', agg_run hu, hd]
  simp only [Result.andThen, if_true]
  rw [Sem.run_bind', size_run hs]
  simp only [Result.andThen]
  rw [Sem.run_bind', run_loadCells_list (P := P) w ad es hc]
  simp [Result.andThen]
theorem store_run {t : TypeId} {g o : Nat} {e : TypeId} {cur : Array Value} {v : Value} (hs : (P.info? t).map (·.size) = some 1) (hv : v.oneCell' = true) (hg : w.heap[g]? = some (.cells cur e (0, 0))) (ho : o < cur.size) :
    (Instr.storeAt t (.pointer (some ⟨g, o, none⟩)) v).run P w = .ok () (w.setCell ⟨g, o, none⟩ v) := by
  unfold Instr.storeAt
  rw [Sem.run_bind']
  simp only [Instr.sureAddr, Sem.run_pure, Result.andThen]
  unfold storeVar
  rw [Sem.run_bind', size_run hs]
  have hc : v.cells = #[v] := by cases v <;> first | rfl | cases hv
  have hcell : w.cell? ⟨g, o, none⟩ = some cur[o] := by simp [World.cell?, hg, ho]
  have hfr : w.frozen? ⟨g, o, none⟩ = false := by simp [World.frozen?, hg]
  have hst : (storeCells ⟨g, o, none⟩ [v]).run P w = .ok () (w.setCell ⟨g, o, none⟩ v) := by
    have ha : (⟨g, o, none⟩ : Addr).add 0 = ⟨g, o, none⟩ := by simp [Addr.add]
    cases v <;> first | (cases hv; done) | simp [storeCells, store, Sem.run, ha, hcell, hfr, Sem.bind, Bind.bind]
  simp [Result.andThen, hc, hst]
end runs

section
variable {P : Program} {f : FuncId} {N : Nat} {O ρ : Type} {m : Option O} {G : O → Option ρ} {R : ρ → Ending → World → Prop} {e : Env} {s : St} {k : List Item} {ops : Array Oper} {i d : Nat} {rest : List Nat} {o : Oper}

theorem St.made (s : St) (ob : Obj) (c : Nat) : ∃ s' : St, s'.w = s.w.alloc ob ∧ Stp [] s s' ∧ Nw s s' c := nwx s _ c ⟨rfl, rfl, rfl, by simp, fun b hb _ => heap_alloc_old s.w ob hb⟩
theorem new_bl {s s' : St} {t : TypeId} {cs : List Value} {c : Nat} {C : Array Value} (hw : s'.w = s.w.alloc (.cells C t)) (n : Nw s s' c) (hC : C = cs.toArray) : BlF s' s.w.heap.size t cs c :=
  ⟨by rw [hw, hC]; exact heap_alloc_new s.w _, n.new _ (Nat.le_refl _)⟩
theorem bx (c : Nat) {t : TypeId} {x : Operand} {cs : List Value} (ho : ops[i]? = some o) (hd : o.dst = some d) (hN : Nat.blt d N = true) (hw : Region.wanted o (yv e ops) = true) (hop : o.op = .box t x) (hx : (ev e x).cells = cs.toArray)
    (h : ∀ b s', Stp [] s s' → BlF s' b t cs c → TM P f N m G R (.inRegion ops rest :: k) (upd e d (.pointer (some ⟨b, 0, none⟩))) s'.w) : TM P f N m G R (.inRegion ops (i :: rest) :: k) e s.w := by
  obtain ⟨s', hs', p, n⟩ := s.made (.cells (ev e x).cells t) c
  refine vl (v := .pointer (some ⟨s.w.heap.size, 0, none⟩)) (w' := s'.w) ho hd hN hw ?_ (h _ s' p (new_bl hs' n hx))
  rw [hs']; simp [execOp, hop, box_run, Result.andThen]
theorem bx' (c : Nat) {t : TypeId} {x : Operand} {cs : List Value} (t1 : E5 (ops[i]?) (some o) (o.dst) (some d) (Nat.blt d N) (true) (Region.wanted o (yv e ops)) (true) (o.op) (.box t x)) (hx : (ev e x).cells = cs.toArray) (h : ∀ b s', Stp [] s s' → BlF s' b t cs c → TM P f N m G R (.inRegion ops rest :: k) (upd e d (.pointer (some ⟨b, 0, none⟩))) s'.w) : TM P f N m G R (.inRegion ops (i :: rest) :: k) e s.w := bx c (e5_ t1).1 (e5_ t1).2.1 (e5_ t1).2.2.1 (e5_ t1).2.2.2.1 (e5_ t1).2.2.2.2 hx h
theorem al (c : Nat) {t : TypeId} {z : Value} {cs : List Value} (ho : ops[i]? = some o) (hd : o.dst = some d) (hN : Nat.blt d N = true) (hw : Region.wanted o (yv e ops) = true) (hop : o.op = .alloc t) (hz : (P.info? t).bind (·.zero) = some z) (hx : z.cells = cs.toArray)
    (h : ∀ b s', Stp [] s s' → BlF s' b t cs c → TM P f N m G R (.inRegion ops rest :: k) (upd e d (.pointer (some ⟨b, 0, none⟩))) s'.w) : TM P f N m G R (.inRegion ops (i :: rest) :: k) e s.w := by
  obtain ⟨s', hs', p, n⟩ := s.made (.cells z.cells t) c
  refine vl (v := .pointer (some ⟨s.w.heap.size, 0, none⟩)) (w' := s'.w) ho hd hN hw ?_ (h _ s' p (new_bl hs' n hx))
  rw [hs']; simp [execOp, hop, alloc_run hz, Result.andThen]
theorem fa {t j q : Nat} {x : Operand} {ad : Addr} (hf : ∀ (a : Addr) (w : World), (Instr.fieldAt t (.pointer (some a)) j).run P w = .ok (.pointer (some (a.add q))) w)
    (ho : ops[i]? = some o) (hd : o.dst = some d) (hN : Nat.blt d N = true) (hw : Region.wanted o (yv e ops) = true) (hop : o.op = .fieldAddr t x j) (hx : ev e x = .pointer (some ad))
    (h : TM P f N m G R (.inRegion ops rest :: k) (upd e d (.pointer (some (ad.add q)))) s.w) : TM P f N m G R (.inRegion ops (i :: rest) :: k) e s.w :=
  vl ho hd hN hw (by simp [execOp, hop, hx, hf, Result.andThen]) h
theorem fa' {t j q : Nat} {x : Operand} {ad : Addr} (hf : ∀ (a : Addr) (w : World), (Instr.fieldAt t (.pointer (some a)) j).run P w = .ok (.pointer (some (a.add q))) w) (t1 : E6 (ops[i]?) (some o) (o.dst) (some d) (Nat.blt d N) (true) (Region.wanted o (yv e ops)) (true) (o.op) (.fieldAddr t x j) (ev e x) (.pointer (some ad))) (h : TM P f N m G R (.inRegion ops rest :: k) (upd e d (.pointer (some (ad.add q)))) s.w) : TM P f N m G R (.inRegion ops (i :: rest) :: k) e s.w := fa hf (e6_ t1).1 (e6_ t1).2.1 (e6_ t1).2.2.1 (e6_ t1).2.2.2.1 (e6_ t1).2.2.2.2.1 (e6_ t1).2.2.2.2.2 h
theorem bl_cell {b q : Nat} {t : TypeId} {cs : List Value} {c : Nat} {v : Value} (h : BlF s b t cs c) (hv : cs[q]? = some v) : s.w.cell? ⟨b, q, none⟩ = some v := by
  simp [World.cell?, h.1, hv]
theorem ld {t b q : Nat} {tb : TypeId} {dd : TypeDesc} {x : Operand} {cs : List Value} {c : Nat} {v : Value} (hB : BlF s b tb cs c) (hu : P.underlying t = some dd)
    (ho : ops[i]? = some o) (hd : o.dst = some d) (hN : Nat.blt d N = true) (hw : Region.wanted o (yv e ops) = true) (hop : o.op = .load t x) (hr : dd.isRow = false) (hx : ev e x = .pointer (some ⟨b, q, none⟩)) (hv : cs[q]? = some v)
    (h : TM P f N m G R (.inRegion ops rest :: k) (upd e d v) s.w) : TM P f N m G R (.inRegion ops (i :: rest) :: k) e s.w :=
  vl ho hd hN hw (by simp [execOp, hop, hx, load_run hu hr (bl_cell hB hv), Result.andThen]) h
theorem ld' {t b q : Nat} {tb : TypeId} {dd : TypeDesc} {x : Operand} {cs : List Value} {c : Nat} {v : Value} (hB : BlF s b tb cs c) (hu : P.underlying t = some dd) (t2 : E8 (ops[i]?) (some o) (o.dst) (some d) (Nat.blt d N) (true) (Region.wanted o (yv e ops)) (true) (o.op) (.load t x) (dd.isRow) (false) (ev e x) (.pointer (some ⟨b, q, none⟩)) (cs[q]?) (some v)) (h : TM P f N m G R (.inRegion ops rest :: k) (upd e d v) s.w) : TM P f N m G R (.inRegion ops (i :: rest) :: k) e s.w := ld hB hu (e8_ t2).1 (e8_ t2).2.1 (e8_ t2).2.2.1 (e8_ t2).2.2.2.1 (e8_ t2).2.2.2.2.1 (e8_ t2).2.2.2.2.2.1 (e8_ t2).2.2.2.2.2.2.1 (e8_ t2).2.2.2.2.2.2.2 h
theorem lda {t b q : Nat} {tb : TypeId} {dd : TypeDesc} {x : Operand} {cs es : List Value} {c : Nat} (hB : BlF s b tb cs c) (hu : P.underlying t = some dd) (hs : (P.info? t).map (·.size) = some es.length)
    (ho : ops[i]? = some o) (hd : o.dst = some d) (hN : Nat.blt d N = true) (hw : Region.wanted o (yv e ops) = true) (hop : o.op = .load t x) (hr : dd.isRow = true) (hx : ev e x = .pointer (some ⟨b, q, none⟩)) (hv : (cs.drop q).take es.length = es)
    (h : TM P f N m G R (.inRegion ops rest :: k) (upd e d (.agg es.toArray)) s.w) : TM P f N m G R (.inRegion ops (i :: rest) :: k) e s.w :=
  vl ho hd hN hw (by
    have := loadAgg_run (P := P) (w := s.w) (ad := ⟨b, q, none⟩) hu hr hs fun j u hj => by
      rw [Addr.add_mid]
      refine bl_cell hB ?_
      rw [← hv, List.getElem?_take] at hj
      split at hj
      · rw [List.getElem?_drop] at hj; exact hj
      · cases hj
    simp [execOp, hop, hx, this, Result.andThen]) h
theorem lda' {t b q : Nat} {tb : TypeId} {dd : TypeDesc} {x : Operand} {cs es : List Value} {c : Nat} (hB : BlF s b tb cs c) (hu : P.underlying t = some dd) (hs : (P.info? t).map (·.size) = some es.length) (t3 : E8 (ops[i]?) (some o) (o.dst) (some d) (Nat.blt d N) (true) (Region.wanted o (yv e ops)) (true) (o.op) (.load t x) (dd.isRow) (true) (ev e x) (.pointer (some ⟨b, q, none⟩)) ((cs.drop q).take es.length) (es)) (h : TM P f N m G R (.inRegion ops rest :: k) (upd e d (.agg es.toArray)) s.w) : TM P f N m G R (.inRegion ops (i :: rest) :: k) e s.w := lda hB hu hs (e8_ t3).1 (e8_ t3).2.1 (e8_ t3).2.2.1 (e8_ t3).2.2.2.1 (e8_ t3).2.2.2.2.1 (e8_ t3).2.2.2.2.2.1 (e8_ t3).2.2.2.2.2.2.1 (e8_ t3).2.2.2.2.2.2.2 h
theorem Stp.set {b q : Nat} {tb : TypeId} {cs : List Value} {c : Nat} (hB : BlF s b tb cs c) (v : Value) : ∃ s' : St, s'.w = s.w.setCell ⟨b, q, none⟩ v ∧ Stp [c] s s' ∧ BlF s' b tb (cs.set q v) c := by
  refine ⟨⟨s.w.setCell ⟨b, q, none⟩ v, s.g⟩, rfl, ⟨rfl, rfl, rfl, by simp [World.setCell], fun _ _ _ => rfl, fun b' hb hm => ⟨rfl, ?_⟩⟩, ⟨?_, hB.2⟩⟩
  · have hne : b' ≠ b := by
      intro h; subst h; rw [hB.2] at hm; simp [memb] at hm
    exact heap_setCell_other s.w ⟨b, q, none⟩ b' v (fun e => hne e)
  · have := heap_setCell_same s.w b q cs.toArray tb v hB.1
    simpa using this
theorem sv {t b q : Nat} {tb : TypeId} {x y : Operand} {cs : List Value} {c : Nat} {v : Value} (hB : BlF s b tb cs c) (hs : (P.info? t).map (·.size) = some 1)
    (ho : ops[i]? = some o) (hd : o.dst = none) (hw : Region.wanted o (yv e ops) = true) (hop : o.op = .store t x y) (hx : ev e x = .pointer (some ⟨b, q, none⟩)) (hy : ev e y = v) (hv : v.oneCell' = true) (hq : Nat.blt q cs.length = true)
    (h : ∀ s', Stp [c] s s' → BlF s' b tb (cs.set q v) c → TM P f N m G R (.inRegion ops rest :: k) e s'.w) : TM P f N m G R (.inRegion ops (i :: rest) :: k) e s.w := by
  obtain ⟨s', hs', p, hB'⟩ := Stp.set (q := q) hB v
  refine vd (w' := s'.w) ho hd hw ?_ (h s' p hB')
  have hq' : q < cs.toArray.size := by have := hq; simp [Nat.blt] at this; simp; omega
  rw [hs']; simp [execOp, hop, hx, hy, store_run hs hv hB.1 hq', Result.andThen]

theorem rd_elem {α : Type} [Inhabited α] {te : TypeId} {K : Kd α} {v : Value} {xs : List α} {C : List Nat} {i : Int} (hF : RdF (Kd.sl te K) s [v] xs C) (hn : Nat.ble 1 K.n = true) (h0 : 0 ≤ i) (h1 : i < xs.length) :
    ∃ A cap es, v = .slice (some A) xs.length cap ∧ K.rd s.w es (at_ xs i) (fun b => memb C (s.g b) = true) ∧ CeF s (A.add (i.toNat * K.n)) es C := by
  obtain ⟨v', e1, A, cap, cells, e2, hcap, hels, hc⟩ := hF
  obtain rfl : v = v' := by simpa using e1
  have hi : i.toNat < xs.length := by omega
  have hlen := hels.len
  have hK := Nat.le_of_ble_eq_true hn
  have hpos : 0 < cells.length := by rw [hlen]; exact Nat.mul_pos (by omega) hK
  obtain ⟨ad, rfl, hF, hcell⟩ := hc (fun h => by rw [h] at hpos; simp at hpos)
  refine ⟨ad, cap, _, e2, (by rw [at_eq xs i hi]; exact hels.at_ i.toNat hi), ?_, fun j u hj => ?_⟩
  · show memb C (s.g (ad.add _).block) = true
    rw [add_block]; exact hF
  · rw [Addr.add_add']
    refine hcell _ _ ?_
    rw [List.getElem?_take] at hj
    split at hj
    · rw [List.getElem?_drop] at hj; exact hj
    · cases hj
theorem ix {α : Type} [Inhabited α] {te t : TypeId} {K : Kd α} {v : Value} {xs : List α} {C : List Nat} {kk : IntKind} {ii : Int} {X I : Operand} (hF : RdF (Kd.sl te K) s [v] xs C) (hu : P.underlying t = some (.slice te)) (hs : (P.info? te).map (·.size) = some K.n) (hn : Nat.ble 1 K.n = true)
    (ho : ops[i]? = some o) (hd : o.dst = some d) (hN : Nat.blt d N = true) (hw : Region.wanted o (yv e ops) = true) (hop : o.op = .indexAddr t X I) (hX : ev e X = v) (hI : ev e I = .int kk ii)
    (h : ∀ ad es, 0 ≤ ii → ii < xs.length → RdF K s es (at_ xs ii) C → CeF s ad es C → IxA v K.n ii ad → TM P f N m G R (.inRegion ops rest :: k) (upd e d (.pointer (some ad))) s.w) :
    TM P f N (if 0 ≤ ii ∧ ii < xs.length then m else none) G R (.inRegion ops (i :: rest) :: k) e s.w := by
  refine mg fun hg => ?_
  obtain ⟨A, cap, es, hv, hrd, hce⟩ := rd_elem hF hn hg.1 hg.2
  refine vl (v := .pointer (some (A.add (ii.toNat * K.n)))) ho hd hN hw ?_ (h _ es hg.1 hg.2 hrd hce ⟨A, _, cap, hv, rfl⟩)
  have h1 := hg.1
  have h2 := hg.2
  simp [execOp, hop, hX, hI, Instr.indexAt, asIntOf, run_underlying hu, hv, h1, h2, size_run hs, Result.andThen]
theorem ix' {α : Type} [Inhabited α] {te t : TypeId} {K : Kd α} {v : Value} {xs : List α} {C : List Nat} {kk : IntKind} {ii : Int} {X I : Operand} (hF : RdF (Kd.sl te K) s [v] xs C) (hu : P.underlying t = some (.slice te)) (hs : (P.info? te).map (·.size) = some K.n) (t3 : E8 (Nat.ble 1 K.n) (true) (ops[i]?) (some o) (o.dst) (some d) (Nat.blt d N) (true) (Region.wanted o (yv e ops)) (true) (o.op) (.indexAddr t X I) (ev e X) (v) (ev e I) (.int kk ii)) (h : ∀ ad es, 0 ≤ ii → ii < xs.length → RdF K s es (at_ xs ii) C → CeF s ad es C → IxA v K.n ii ad → TM P f N m G R (.inRegion ops rest :: k) (upd e d (.pointer (some ad))) s.w) : TM P f N (if 0 ≤ ii ∧ ii < xs.length then m else none) G R (.inRegion ops (i :: rest) :: k) e s.w := ix hF hu hs (e8_ t3).1 (e8_ t3).2.1 (e8_ t3).2.2.1 (e8_ t3).2.2.2.1 (e8_ t3).2.2.2.2.1 (e8_ t3).2.2.2.2.2.1 (e8_ t3).2.2.2.2.2.2.1 (e8_ t3).2.2.2.2.2.2.2 h
theorem lc {t q : Nat} {dd : TypeDesc} {x : Operand} {ad : Addr} {es : List Value} {C : List Nat} {v : Value} (hC : CeF s ad es C) (hu : P.underlying t = some dd)
    (ho : ops[i]? = some o) (hd : o.dst = some d) (hN : Nat.blt d N = true) (hw : Region.wanted o (yv e ops) = true) (hop : o.op = .load t x) (hr : dd.isRow = false) (hx : ev e x = .pointer (some (ad.add q))) (hv : es[q]? = some v)
    (h : TM P f N m G R (.inRegion ops rest :: k) (upd e d v) s.w) : TM P f N m G R (.inRegion ops (i :: rest) :: k) e s.w :=
  vl ho hd hN hw (by simp [execOp, hop, hx, load_run hu hr (hC.2 q v hv), Result.andThen]) h
theorem lc' {t q : Nat} {dd : TypeDesc} {x : Operand} {ad : Addr} {es : List Value} {C : List Nat} {v : Value} (hC : CeF s ad es C) (hu : P.underlying t = some dd) (t2 : E8 (ops[i]?) (some o) (o.dst) (some d) (Nat.blt d N) (true) (Region.wanted o (yv e ops)) (true) (o.op) (.load t x) (dd.isRow) (false) (ev e x) (.pointer (some (ad.add q))) (es[q]?) (some v)) (h : TM P f N m G R (.inRegion ops rest :: k) (upd e d v) s.w) : TM P f N m G R (.inRegion ops (i :: rest) :: k) e s.w := lc hC hu (e8_ t2).1 (e8_ t2).2.1 (e8_ t2).2.2.1 (e8_ t2).2.2.2.1 (e8_ t2).2.2.2.2.1 (e8_ t2).2.2.2.2.2.1 (e8_ t2).2.2.2.2.2.2.1 (e8_ t2).2.2.2.2.2.2.2 h
theorem add_zero (a : Addr) : a.add 0 = a := by simp [Addr.add]
theorem lc0 {t : Nat} {dd : TypeDesc} {x : Operand} {ad : Addr} {es : List Value} {C : List Nat} {v : Value} (hC : CeF s ad es C) (hu : P.underlying t = some dd)
    (ho : ops[i]? = some o) (hd : o.dst = some d) (hN : Nat.blt d N = true) (hw : Region.wanted o (yv e ops) = true) (hop : o.op = .load t x) (hr : dd.isRow = false) (hx : ev e x = .pointer (some ad)) (hv : es[0]? = some v)
    (h : TM P f N m G R (.inRegion ops rest :: k) (upd e d v) s.w) : TM P f N m G R (.inRegion ops (i :: rest) :: k) e s.w :=
  vl ho hd hN hw (by have := hC.2 0 v hv; rw [add_zero] at this; simp [execOp, hop, hx, load_run hu hr this, Result.andThen]) h
theorem lca {t : Nat} {dd : TypeDesc} {x : Operand} {ad : Addr} {es : List Value} {C : List Nat} (hC : CeF s ad es C) (hu : P.underlying t = some dd) (hs : (P.info? t).map (·.size) = some es.length)
    (ho : ops[i]? = some o) (hd : o.dst = some d) (hN : Nat.blt d N = true) (hw : Region.wanted o (yv e ops) = true) (hop : o.op = .load t x) (hr : dd.isRow = true) (hx : ev e x = .pointer (some ad))
    (h : TM P f N m G R (.inRegion ops rest :: k) (upd e d (.agg es.toArray)) s.w) : TM P f N m G R (.inRegion ops (i :: rest) :: k) e s.w :=
  vl ho hd hN hw (by simp [execOp, hop, hx, loadAgg_run hu hr hs hC.2, Result.andThen]) h
theorem lca' {t : Nat} {dd : TypeDesc} {x : Operand} {ad : Addr} {es : List Value} {C : List Nat} (hC : CeF s ad es C) (hu : P.underlying t = some dd) (hs : (P.info? t).map (·.size) = some es.length) (t3 : E7 (ops[i]?) (some o) (o.dst) (some d) (Nat.blt d N) (true) (Region.wanted o (yv e ops)) (true) (o.op) (.load t x) (dd.isRow) (true) (ev e x) (.pointer (some ad))) (h : TM P f N m G R (.inRegion ops rest :: k) (upd e d (.agg es.toArray)) s.w) : TM P f N m G R (.inRegion ops (i :: rest) :: k) e s.w := lca hC hu hs (e7_ t3).1 (e7_ t3).2.1 (e7_ t3).2.2.1 (e7_ t3).2.2.2.1 (e7_ t3).2.2.2.2.1 (e7_ t3).2.2.2.2.2.1 (e7_ t3).2.2.2.2.2.2 h
theorem ln {α : Type} {te t : TypeId} {K : Kd α} {v : Value} {xs : List α} {C : List Nat} {x : Operand} (hF : RdF (Kd.sl te K) s [v] xs C) (hu : P.underlying t = some (.slice te))
    (ho : ops[i]? = some o) (hd : o.dst = some d) (hN : Nat.blt d N = true) (hw : Region.wanted o (yv e ops) = true) (hop : o.op = .call { callee := .builtin .len, args := #[x], argTypes := #[t] }) (hx : ev e x = v)
    (h : TM P f N m G R (.inRegion ops rest :: k) (upd e d (.int .i64 (xs.length : Int))) s.w) : TM P f N m G R (.inRegion ops (i :: rest) :: k) e s.w := by
  obtain ⟨v', e1, A, cap, cells, e2, _⟩ := hF
  obtain rfl : v = v' := by simpa using e1
  exact vl ho hd hN hw (by simp [execOp, hop, resolve, invoke, builtin, Builtin.len_, hx, e2, run_underlying hu, goInt, Result.andThen]) h
theorem ln' {α : Type} {te t : TypeId} {K : Kd α} {v : Value} {xs : List α} {C : List Nat} {x : Operand} (hF : RdF (Kd.sl te K) s [v] xs C) (hu : P.underlying t = some (.slice te)) (t2 : E6 (ops[i]?) (some o) (o.dst) (some d) (Nat.blt d N) (true) (Region.wanted o (yv e ops)) (true) (o.op) (.call { callee := .builtin .len, args := #[x], argTypes := #[t] }) (ev e x) (v)) (h : TM P f N m G R (.inRegion ops rest :: k) (upd e d (.int .i64 (xs.length : Int))) s.w) : TM P f N m G R (.inRegion ops (i :: rest) :: k) e s.w := ln hF hu (e6_ t2).1 (e6_ t2).2.1 (e6_ t2).2.2.1 (e6_ t2).2.2.2.1 (e6_ t2).2.2.2.2.1 (e6_ t2).2.2.2.2.2 h
theorem cv {t1 t2 : TypeId} {k1 k2 k3 : IntKind} {n : Int} {x : Operand} (hu : P.underlying t2 = some (.int k2)) (hu1 : P.underlying t1 = some (.int k1))
    (ho : ops[i]? = some o) (hd : o.dst = some d) (hN : Nat.blt d N = true) (hw : Region.wanted o (yv e ops) = true) (hop : o.op = .convert t1 t2 x) (hx : ev e x = .int k3 n)
    (h : TM P f N m G R (.inRegion ops rest :: k) (upd e d (.int k2 (k2.wrap n))) s.w) : TM P f N m G R (.inRegion ops (i :: rest) :: k) e s.w :=
  vl ho hd hN hw (by simp [execOp, hop, hx, convert, run_underlying hu, run_underlying hu1, Conv.intToInt, Result.andThen]) h
theorem shr_ {t1 t2 : TypeId} {k1 k2 : IntKind} {a b : Int} {x y : Operand}
    (ho : ops[i]? = some o) (hd : o.dst = some d) (hN : Nat.blt d N = true) (hw : Region.wanted o (yv e ops) = true) (hop : o.op = .binOp .shr t1 x y t2) (hx : ev e x = .int k1 a) (hy : ev e y = .int k2 b)
    (h : TM P f N m G R (.inRegion ops rest :: k) (upd e d (.int k1 (ishr k1 a b))) s.w) : TM P f N (if 0 ≤ b then m else none) G R (.inRegion ops (i :: rest) :: k) e s.w :=
  mg fun hg => vl ho hd hN hw (by have : ¬ b < 0 := by omega
                                  simp [execOp, hop, hx, hy, binOp, eqGuard, Op.shift, this, ishr, Result.andThen]) h
theorem shl_ {t1 t2 : TypeId} {k1 k2 : IntKind} {a b : Int} {x y : Operand}
    (ho : ops[i]? = some o) (hd : o.dst = some d) (hN : Nat.blt d N = true) (hw : Region.wanted o (yv e ops) = true) (hop : o.op = .binOp .shl t1 x y t2) (hx : ev e x = .int k1 a) (hy : ev e y = .int k2 b)
    (h : TM P f N m G R (.inRegion ops rest :: k) (upd e d (.int k1 (ishl k1 a b))) s.w) : TM P f N (if 0 ≤ b then m else none) G R (.inRegion ops (i :: rest) :: k) e s.w :=
  mg fun hg => vl ho hd hN hw (by have : ¬ b < 0 := by omega
                                  simp [execOp, hop, hx, hy, binOp, eqGuard, Op.shift, this, ishl, Result.andThen]) h
theorem rem_ {t1 t2 : TypeId} {k1 : IntKind} {a b : Int} {x y : Operand}
    (ho : ops[i]? = some o) (hd : o.dst = some d) (hN : Nat.blt d N = true) (hw : Region.wanted o (yv e ops) = true) (hop : o.op = .binOp .rem t1 x y t2) (hx : ev e x = .int k1 a) (hy : ev e y = .int k1 b)
    (h : TM P f N m G R (.inRegion ops rest :: k) (upd e d (.int k1 (a.tmod b))) s.w) : TM P f N (if b ≠ 0 then m else none) G R (.inRegion ops (i :: rest) :: k) e s.w :=
  mg fun hg => vl ho hd hN hw (by simp [execOp, hop, hx, hy, binOp, eqGuard, Op.intDiv, hg, Result.andThen]) h
end
end Go.Proofs.Ytcagjdngannneaa.V
