
import Derived.Test.YtcagjdngannneaaVj
set_option linter.unusedVariables false
set_option linter.unusedSimpArgs false
namespace Go.Proofs.Ytcagjdngannneaa.V
open Go
section
variable {P : Program} {N : Nat} {e : Env} {s : St} {ops : Array Oper} {i d : Nat} {o : Oper}
theorem fa_q {t j q : Nat} {x : Operand} {ad : Addr} (hf : ∀ (a : Addr) (w : World), (Instr.fieldAt t (.pointer (some a)) j).run P w = .ok (.pointer (some (a.add q))) w)
    (ho : ops[i]? = some o) (hd : o.dst = some d) (hN : Nat.blt d N = true) (hw : Region.wanted o (yv e ops) = true) (hop : o.op = .fieldAddr t x j) (hx : ev e x = .pointer (some ad)) : Qv P N ops e s.w i d (.pointer (some (ad.add q))) :=
  ⟨o, ho, hd, hN, by simp only [selB, hop], .inl ⟨hw, (by simp [execOp, hop, hx, hf, Result.andThen])⟩⟩
theorem fa_q' {t j q : Nat} {x : Operand} {ad : Addr} (hf : ∀ (a : Addr) (w : World), (Instr.fieldAt t (.pointer (some a)) j).run P w = .ok (.pointer (some (a.add q))) w) (t1 : E6 (ops[i]?) (some o) (o.dst) (some d) (Nat.blt d N) (true) (Region.wanted o (yv e ops)) (true) (o.op) (.fieldAddr t x j) (ev e x) (.pointer (some ad))) : Qv P N ops e s.w i d (.pointer (some (ad.add q))) := fa_q hf (e6_ t1).1 (e6_ t1).2.1 (e6_ t1).2.2.1 (e6_ t1).2.2.2.1 (e6_ t1).2.2.2.2.1 (e6_ t1).2.2.2.2.2
theorem ld_q {t b q : Nat} {tb : TypeId} {dd : TypeDesc} {x : Operand} {cs : List Value} {c : Nat} {v : Value} (hB : BlF s b tb cs c) (hu : P.underlying t = some dd)
    (ho : ops[i]? = some o) (hd : o.dst = some d) (hN : Nat.blt d N = true) (hw : Region.wanted o (yv e ops) = true) (hop : o.op = .load t x) (hr : dd.isRow = false) (hx : ev e x = .pointer (some ⟨b, q, none⟩)) (hv : cs[q]? = some v) : Qv P N ops e s.w i d v :=
  ⟨o, ho, hd, hN, by simp only [selB, hop], .inl ⟨hw, (by simp [execOp, hop, hx, load_run hu hr (bl_cell hB hv), Result.andThen])⟩⟩
theorem ld_q' {t b q : Nat} {tb : TypeId} {dd : TypeDesc} {x : Operand} {cs : List Value} {c : Nat} {v : Value} (hB : BlF s b tb cs c) (hu : P.underlying t = some dd) (t2 : E8 (ops[i]?) (some o) (o.dst) (some d) (Nat.blt d N) (true) (Region.wanted o (yv e ops)) (true) (o.op) (.load t x) (dd.isRow) (false) (ev e x) (.pointer (some ⟨b, q, none⟩)) (cs[q]?) (some v)) : Qv P N ops e s.w i d v := ld_q hB hu (e8_ t2).1 (e8_ t2).2.1 (e8_ t2).2.2.1 (e8_ t2).2.2.2.1 (e8_ t2).2.2.2.2.1 (e8_ t2).2.2.2.2.2.1 (e8_ t2).2.2.2.2.2.2.1 (e8_ t2).2.2.2.2.2.2.2
theorem lda_q {t b q : Nat} {tb : TypeId} {dd : TypeDesc} {x : Operand} {cs es : List Value} {c : Nat} (hB : BlF s b tb cs c) (hu : P.underlying t = some dd) (hs : (P.info? t).map (·.size) = some es.length)
    (ho : ops[i]? = some o) (hd : o.dst = some d) (hN : Nat.blt d N = true) (hw : Region.wanted o (yv e ops) = true) (hop : o.op = .load t x) (hr : dd.isRow = true) (hx : ev e x = .pointer (some ⟨b, q, none⟩)) (hv : (cs.drop q).take es.length = es) : Qv P N ops e s.w i d (.agg es.toArray) :=
  ⟨o, ho, hd, hN, by simp only [selB, hop], .inl ⟨hw, (by
    have := loadAgg_run (P := P) (w := s.w) (ad := ⟨b, q, none⟩) hu hr hs fun j u hj => by
      rw [Addr.add_mid]
      refine bl_cell hB ?_
      rw [← hv, List.getElem?_take] at hj
      split at hj
      · rw [List.getElem?_drop] at hj; exact hj
      · cases hj
    simp [execOp, hop, hx, this, Result.andThen])⟩⟩
theorem lc_q {t q : Nat} {dd : TypeDesc} {x : Operand} {ad : Addr} {es : List Value} {C : List Nat} {v : Value} (hC : CeF s ad es C) (hu : P.underlying t = some dd)
    (ho : ops[i]? = some o) (hd : o.dst = some d) (hN : Nat.blt d N = true) (hw : Region.wanted o (yv e ops) = true) (hop : o.op = .load t x) (hr : dd.isRow = false) (hx : ev e x = .pointer (some (ad.add q))) (hv : es[q]? = some v) : Qv P N ops e s.w i d v :=
  ⟨o, ho, hd, hN, by simp only [selB, hop], .inl ⟨hw, (by simp [execOp, hop, hx, load_run hu hr (hC.2 q v hv), Result.andThen])⟩⟩
theorem lc0_q {t : Nat} {dd : TypeDesc} {x : Operand} {ad : Addr} {es : List Value} {C : List Nat} {v : Value} (hC : CeF s ad es C) (hu : P.underlying t = some dd)
    (ho : ops[i]? = some o) (hd : o.dst = some d) (hN : Nat.blt d N = true) (hw : Region.wanted o (yv e ops) = true) (hop : o.op = .load t x) (hr : dd.isRow = false) (hx : ev e x = .pointer (some ad)) (hv : es[0]? = some v) : Qv P N ops e s.w i d v :=
  ⟨o, ho, hd, hN, by simp only [selB, hop], .inl ⟨hw, (by have := hC.2 0 v hv; rw [add_zero] at this; simp [execOp, hop, hx, load_run hu hr this, Result.andThen])⟩⟩
theorem lca_q {t : Nat} {dd : TypeDesc} {x : Operand} {ad : Addr} {es : List Value} {C : List Nat} (hC : CeF s ad es C) (hu : P.underlying t = some dd) (hs : (P.info? t).map (·.size) = some es.length)
    (ho : ops[i]? = some o) (hd : o.dst = some d) (hN : Nat.blt d N = true) (hw : Region.wanted o (yv e ops) = true) (hop : o.op = .load t x) (hr : dd.isRow = true) (hx : ev e x = .pointer (some ad)) : Qv P N ops e s.w i d (.agg es.toArray) :=
  ⟨o, ho, hd, hN, by simp only [selB, hop], .inl ⟨hw, (by simp [execOp, hop, hx, loadAgg_run hu hr hs hC.2, Result.andThen])⟩⟩
theorem bd_q {t : Nat} {parts : Array (Nat × Operand)} {z : Value} {pl : Array (Nat × Nat)} {cells : List Value} (hpl : PlF P t pl) (hz : (P.info? t).bind (·.zero) = some z)
    (ho : ops[i]? = some o) (hd : o.dst = some d) (hN : Nat.blt d N = true) (hw : Region.wanted o (yv e ops) = true) (hop : o.op = .build t parts) (hfill : lfill (pl[·]?) z.cells.toList (parts.toList.map fun (i, x) => (i, ev e x)) = some cells) : Qv P N ops e s.w i d (.agg cells.toArray) :=
  ⟨o, ho, hd, hN, by simp only [selB, hop], .inl ⟨hw, (by
    obtain ⟨fs, hu, hpl⟩ := hpl
    have : (Instr.build t (parts.map fun (i, x) => (i, ev e x))).run P s.w = .ok (.agg cells.toArray) s.w := by
      have hfl := lfill_eq _ _ _ _ hfill
      unfold Instr.build
      rw [Sem.run_bind', zero_run hz]
      simp only [Result.andThen]
      rw [Sem.run_bind', run_underlying hu]
      simp only [Result.andThen]
      rw [Sem.run_bind', hpl]
      simp only [Result.andThen]
      simp only [] at hfl
      simp only [Array.toList_map, hfl]
      rfl
    simp [execOp, hop, this, Result.andThen])⟩⟩
theorem pu_q {v : Value} (ho : ops[i]? = some o) (hd : o.dst = some d) (hN : Nat.blt d N = true) (hw : Region.wanted o (yv e ops) = true) (hs : selB o = false) (hx : ex e o.op = some v) : Qv P N ops e s.w i d v :=
  ⟨o, ho, hd, hN, hs, .inl ⟨hw, ex_run hx⟩⟩
theorem pu_q' {v : Value} (t0 : E6 (ops[i]?) (some o) (o.dst) (some d) (Nat.blt d N) (true) (Region.wanted o (yv e ops)) (true) (selB o) (false) (ex e o.op) (some v)) : Qv P N ops e s.w i d v := pu_q (e6_ t0).1 (e6_ t0).2.1 (e6_ t0).2.2.1 (e6_ t0).2.2.2.1 (e6_ t0).2.2.2.2.1 (e6_ t0).2.2.2.2.2
theorem uw_q (ho : ops[i]? = some o) (hd : o.dst = some d) (hN : Nat.blt d N = true) (hw : Region.wanted o (yv e ops) = false) (hs : selB o = false) : Qv P N ops e s.w i d undef :=
  ⟨o, ho, hd, hN, hs, .inr ⟨hw, rfl⟩⟩
theorem mv_q {x : Operand} (v : Value) (ho : ops[i]? = some o) (hd : o.dst = some d) (hN : Nat.blt d N = true) (hw : Region.wanted o (yv e ops) = true) (hop : o.op = .move x) (hx : ev e x = v) : Qv P N ops e s.w i d v :=
  ⟨o, ho, hd, hN, by simp only [selB, hop], .inl ⟨hw, by simp [execOp, hop, hx]⟩⟩
theorem mv_q' {x : Operand} (v : Value) (t1 : E6 (ops[i]?) (some o) (o.dst) (some d) (Nat.blt d N) (true) (Region.wanted o (yv e ops)) (true) (o.op) (.move x) (ev e x) (v)) : Qv P N ops e s.w i d v := mv_q v (e6_ t1).1 (e6_ t1).2.1 (e6_ t1).2.2.1 (e6_ t1).2.2.2.1 (e6_ t1).2.2.2.2.1 (e6_ t1).2.2.2.2.2
theorem ix_e {α : Type} [Inhabited α] {te : TypeId} {K : Kd α} {v : Value} {xs : List α} {C : List Nat} {ii : Int} (hF : RdF (Kd.sl te K) s [v] xs C) (hn : Nat.ble 1 K.n = true) (h0 : 0 ≤ ii) (h1 : ii < xs.length) :
    ∃ ad es, RdF K s es (at_ xs ii) C ∧ CeF s ad es C ∧ IxA v K.n ii ad := by
  obtain ⟨A, cap, es, hv, hrd, hce⟩ := rd_elem hF hn h0 h1
  exact ⟨_, es, hrd, hce, A, _, cap, hv, rfl⟩
theorem ix_q {α : Type} {te t n : TypeId} {K : Kd α} {v : Value} {xs : List α} {C : List Nat} {kk : IntKind} {ii : Int} {X I : Operand} {ad : Addr} (hF : RdF (Kd.sl te K) s [v] xs C) (hu : P.underlying t = some (.slice te)) (hs : (P.info? te).map (·.size) = some n) (h0 : 0 ≤ ii) (h1 : ii < xs.length) (ha : IxA v n ii ad)
    (ho : ops[i]? = some o) (hd : o.dst = some d) (hN : Nat.blt d N = true) (hw : Region.wanted o (yv e ops) = true) (hop : o.op = .indexAddr t X I) (hX : ev e X = v) (hI : ev e I = .int kk ii) : Qv P N ops e s.w i d (.pointer (some ad)) := by
  obtain ⟨v', e1, A, cap, cells, e2, hcap, hels, hc⟩ := hF
  obtain rfl : v = v' := by simpa using e1
  obtain ⟨A', l', cap', e3, rfl⟩ := ha
  rw [e3] at e2
  obtain ⟨rfl, rfl, rfl⟩ : some A' = A ∧ l' = xs.length ∧ cap' = cap := by injection e2 with a b c; exact ⟨a, b, c⟩
  refine ⟨o, ho, hd, hN, by simp only [selB, hop], .inl ⟨hw, ?_⟩⟩
  have h1' := h1
  simp [execOp, hop, hX, hI, Instr.indexAt, asIntOf, run_underlying hu, e3, h0, h1', size_run hs, Result.andThen]
end
end Go.Proofs.Ytcagjdngannneaa.V
