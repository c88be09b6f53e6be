
import Derived.Test.YtcagjdngannneaaVB
set_option linter.unusedVariables false
set_option linter.unusedSimpArgs false
namespace Go.Proofs.Ytcagjdngannneaa.V
open Go
def CutV (n L : Nat) (v : Value) (a b : Nat) (v' : Value) : Prop := ∃ A cap, v = .slice A L cap ∧ a ≤ b ∧ b ≤ cap ∧ v' = .slice (if cap = a then A else A.map (·.add (a * n))) (b - a) (cap - a)
def CapV (v : Value) (N : Nat) : Prop := ∃ A l cap, v = .slice A l cap ∧ N ≤ cap
section
variable {α : Type} {K : Kd α} {te : TypeId} {s : St} {v v' : Value} {xs : List α} {c : Nat}
theorem cut_e (hO : OwF (Kd.sl te K) s [v] xs c) {a b : Nat} (hab : a ≤ b) (hb : b ≤ xs.length) : ∃ v', CutV K.n xs.length v a b v' := by
  obtain ⟨os, ⟨v1, e1, cells, o1, o2, rfl, hR, hE⟩, hnd, hcol⟩ := hO
  obtain rfl : v = v1 := by simpa using e1
  rcases hR.2 with ⟨rfl, h2, _⟩ | ⟨g, cap, cur, rfl, _, hnc, _⟩
  · exact ⟨_, none, 0, by rw [h2], hab, by omega, rfl⟩
  · exact ⟨_, _, cap, rfl, hab, by omega, rfl⟩
theorem cut_m (hO : OwF (Kd.sl te K) s [v] xs c) {a b N : Nat} (hC : CapV v N) (hab : a ≤ b) (hb : b ≤ N) : ∃ v', CutV K.n xs.length v a b v' := by
  obtain ⟨os, ⟨v1, e1, cells, o1, o2, rfl, hR, hE⟩, hnd, hcol⟩ := hO
  obtain rfl : v = v1 := by simpa using e1
  obtain ⟨A, l, cap, e2, hN⟩ := hC
  rcases hR.2 with ⟨rfl, h2, _⟩ | ⟨g, cap', cur, rfl, _, hnc, _⟩
  · simp only [Value.slice.injEq] at e2
    exact ⟨_, none, 0, by rw [h2], hab, by omega, rfl⟩
  · simp only [Value.slice.injEq] at e2
    exact ⟨_, _, cap', rfl, hab, by omega, rfl⟩
theorem cap_e (hO : OwF (Kd.sl te K) s [v] xs c) : CapV v xs.length := by
  obtain ⟨os, ⟨v1, e1, cells, o1, o2, rfl, hR, hE⟩, hnd, hcol⟩ := hO
  obtain rfl : v = v1 := by simpa using e1
  rcases hR.2 with ⟨rfl, h2, _⟩ | ⟨g, cap, cur, rfl, _, hnc, _⟩
  · exact ⟨_, _, _, rfl, by omega⟩
  · exact ⟨_, _, _, rfl, hnc⟩
theorem cut_rdf (hO : OwF (Kd.sl te K) s [v] xs c) {a : Nat} (hC : CutV K.n xs.length v a xs.length v') : RdF (Kd.sl te K) s [v'] (xs.drop a) [c] := by
  obtain ⟨v1, e1, A, cap, cells, hv, hcap, hels, hc⟩ := hO.rd
  obtain rfl : v = v1 := by simpa using e1
  obtain ⟨A', cap', e2, hab, hb, rfl⟩ := hC
  rw [hv] at e2
  simp only [Value.slice.injEq, true_and] at e2
  obtain ⟨rfl, rfl⟩ := e2
  have := cut_rd (K := K) (F := fun b => memb [c] (s.g b) = true) ⟨A, cap, cells, rfl, hcap, hels, hc⟩ hab (Nat.le_refl _)
  rw [List.take_length] at this
  exact ⟨_, rfl, this⟩
theorem cut_ow (hK : FlK K) (hO : OwF (Kd.sl te K) s [v] xs c) {b : Nat} (hb : b ≤ xs.length) (hC : CutV K.n xs.length v 0 b v') : OwF (Kd.sl te K) s [v'] (xs.take b) c ∧ CapV v' xs.length := by
  obtain ⟨os, ⟨v1, e1, cells, o1, o2, rfl, hR, hE⟩, hnd, hcol⟩ := hO
  obtain rfl : v = v1 := by simpa using e1
  obtain ⟨A, cap', e2, _, hbc, rfl⟩ := hC
  have hE2 := hE.rd.take b
  have hlt : (xs.take b).length = b := by simp; omega
  have hA : ∀ B : Option Addr, (if cap' = 0 then B else Option.map (fun a : Addr => a.add (0 * K.n)) B) = B := fun B => by
    split
    · rfl
    · cases B <;> simp [add_zero]
  rw [hA, Nat.sub_zero, Nat.sub_zero]
  rcases hR.2 with ⟨e3, h2, rfl⟩ | ⟨g, cap, cur, e3, hg2, hnc, hcm, hcs, htake, rfl⟩
  · rw [e3] at e2
    simp only [Value.slice.injEq] at e2
    obtain ⟨rfl, _, rfl⟩ := e2
    have hb0 : b = 0 := by omega
    subst hb0
    exact ⟨ow_nil te K s c, ⟨_, _, _, rfl, by omega⟩⟩
  · rw [e3] at e2
    simp only [Value.slice.injEq, true_and] at e2
    obtain ⟨rfl, rfl⟩ := e2
    refine ⟨⟨[g] ++ [], ⟨_, rfl, cells.take (b * K.n), [g], [], rfl, ?_, hK.els _ hE2⟩, by simp, fun b' hb' => hcol b' (by simp at hb'; simp [hb'])⟩, ⟨_, _, _, rfl, hnc⟩⟩
    have hmul : b * K.n ≤ xs.length * K.n := Nat.mul_le_mul_right _ hb
    rw [hlt]
    refine ⟨by rw [List.length_take, hR.1]; omega, .inr ⟨g, cap, cur, rfl, hg2, by omega, hcm, hcs, ?_, rfl⟩⟩
    rw [← htake, List.take_take]
    congr 1
    omega
end
section
variable {P : Program} {f : FuncId} {N : Nat} {O ρ : Type} {m : Option O} {G : O → Option ρ} {R : ρ → Ending → World → Prop} {e : Env} {s : St} {k : List Item} {ops : Array Oper} {i d : Nat} {rest : List Nat} {o : Oper}
theorem cutRun {w : World} {t te n L : Nat} {v v' : Value} {a b : Nat} {lo hi : Option Value} (hC : CutV n L v a b v') (hu : P.underlying t = some (.slice te)) (hs : (P.info? te).map (·.size) = some n)
    (hlo : (lo = none ∧ a = 0) ∨ ∃ k, lo = some (.int k a)) (hhi : (hi = none ∧ b = L) ∨ ∃ k, hi = some (.int k b)) : (Instr.sliceAt t v lo hi none).run P w = .ok v' w := by
  obtain ⟨A, cap, rfl, hab, hb, rfl⟩ := hC
  exact cut_run hu hs hab hb hlo hhi
theorem slA_ {t te n L : Nat} {v v' : Value} {a : Int} {k1 : IntKind} {x p : Operand} (h0 : 0 ≤ a) (hC : CutV n L v a.toNat L v') (hu : P.underlying t = some (.slice te)) (hs : (P.info? te).map (·.size) = some n)
    (ho : ops[i]? = some o) (hd : o.dst = some d) (hN : Nat.blt d N = true) (hw : Region.wanted o (yv e ops) = true) (hop : o.op = .slice t x (some p) none none) (hx : ev e x = v) (hp : ev e p = .int k1 a)
    (h : TM P f N m G R (.inRegion ops rest :: k) (upd e d v') s.w) : TM P f N m G R (.inRegion ops (i :: rest) :: k) e s.w := by
  have hr := cutRun (P := P) (w := s.w) (lo := some (.int k1 a)) (hi := none) hC hu hs (.inr ⟨k1, by rw [Int.toNat_of_nonneg h0]⟩) (.inl ⟨rfl, rfl⟩)
  exact vl ho hd hN hw (by simp [execOp, hop, hx, hp, hr, Result.andThen]) h
theorem slA_q {t te n L : Nat} {v v' : Value} {a : Int} {k1 : IntKind} {x p : Operand} (h0 : 0 ≤ a) (hC : CutV n L v a.toNat L v') (hu : P.underlying t = some (.slice te)) (hs : (P.info? te).map (·.size) = some n)
    (ho : ops[i]? = some o) (hd : o.dst = some d) (hN : Nat.blt d N = true) (hw : Region.wanted o (yv e ops) = true) (hop : o.op = .slice t x (some p) none none) (hx : ev e x = v) (hp : ev e p = .int k1 a) : Qv P N ops e s.w i d v' := by
  have hr := cutRun (P := P) (w := s.w) (lo := some (.int k1 a)) (hi := none) hC hu hs (.inr ⟨k1, by rw [Int.toNat_of_nonneg h0]⟩) (.inl ⟨rfl, rfl⟩)
  exact ⟨o, ho, hd, hN, by simp only [selB, hop], .inl ⟨hw, by simp [execOp, hop, hx, hp, hr, Result.andThen]⟩⟩
theorem slH_ {t te n L : Nat} {v v' : Value} {b : Int} {k1 : IntKind} {x p : Operand} (h0 : 0 ≤ b) (hC : CutV n L v 0 b.toNat v') (hu : P.underlying t = some (.slice te)) (hs : (P.info? te).map (·.size) = some n)
    (ho : ops[i]? = some o) (hd : o.dst = some d) (hN : Nat.blt d N = true) (hw : Region.wanted o (yv e ops) = true) (hop : o.op = .slice t x none (some p) none) (hx : ev e x = v) (hp : ev e p = .int k1 b)
    (h : TM P f N m G R (.inRegion ops rest :: k) (upd e d v') s.w) : TM P f N m G R (.inRegion ops (i :: rest) :: k) e s.w := by
  have hr := cutRun (P := P) (w := s.w) (lo := none) (hi := some (.int k1 b)) hC hu hs (.inl ⟨rfl, rfl⟩) (.inr ⟨k1, by rw [Int.toNat_of_nonneg h0]⟩)
  exact vl ho hd hN hw (by simp [execOp, hop, hx, hp, hr, Result.andThen]) h
theorem slH_q {t te n L : Nat} {v v' : Value} {b : Int} {k1 : IntKind} {x p : Operand} (h0 : 0 ≤ b) (hC : CutV n L v 0 b.toNat v') (hu : P.underlying t = some (.slice te)) (hs : (P.info? te).map (·.size) = some n)
    (ho : ops[i]? = some o) (hd : o.dst = some d) (hN : Nat.blt d N = true) (hw : Region.wanted o (yv e ops) = true) (hop : o.op = .slice t x none (some p) none) (hx : ev e x = v) (hp : ev e p = .int k1 b) : Qv P N ops e s.w i d v' := by
  have hr := cutRun (P := P) (w := s.w) (lo := none) (hi := some (.int k1 b)) hC hu hs (.inl ⟨rfl, rfl⟩) (.inr ⟨k1, by rw [Int.toNat_of_nonneg h0]⟩)
  exact ⟨o, ho, hd, hN, by simp only [selB, hop], .inl ⟨hw, by simp [execOp, hop, hx, hp, hr, Result.andThen]⟩⟩
theorem slB_ {t te n L : Nat} {v v' : Value} {a b : Int} {k1 k2 : IntKind} {x p q : Operand} (h0 : 0 ≤ a) (h1 : 0 ≤ b) (hC : CutV n L v a.toNat b.toNat v') (hu : P.underlying t = some (.slice te)) (hs : (P.info? te).map (·.size) = some n)
    (ho : ops[i]? = some o) (hd : o.dst = some d) (hN : Nat.blt d N = true) (hw : Region.wanted o (yv e ops) = true) (hop : o.op = .slice t x (some p) (some q) none) (hx : ev e x = v) (hp : ev e p = .int k1 a) (hq : ev e q = .int k2 b)
    (h : TM P f N m G R (.inRegion ops rest :: k) (upd e d v') s.w) : TM P f N m G R (.inRegion ops (i :: rest) :: k) e s.w := by
  have hr := cutRun (P := P) (w := s.w) (lo := some (.int k1 a)) (hi := some (.int k2 b)) hC hu hs (.inr ⟨k1, by rw [Int.toNat_of_nonneg h0]⟩) (.inr ⟨k2, by rw [Int.toNat_of_nonneg h1]⟩)
  exact vl ho hd hN hw (by simp [execOp, hop, hx, hp, hq, hr, Result.andThen]) h
theorem sl3_ {α : Type} {K : Kd α} {t te : Nat} {v : Value} {xs : List α} {cc : Nat} {a b c : Int} {k1 k2 k3 : IntKind} {x p q r : Operand} (hO : OwF (Kd.sl te K) s [v] xs cc) (hu : P.underlying t = some (.slice te)) (hs : (P.info? te).map (·.size) = some K.n)
    (ho : ops[i]? = some o) (hd : o.dst = some d) (hN : Nat.blt d N = true) (hw : Region.wanted o (yv e ops) = true) (hop : o.op = .slice t x (some p) (some q) (some r)) (hx : ev e x = v) (hp : ev e p = .int k1 a) (hq : ev e q = .int k2 b) (hr : ev e r = .int k3 c)
    (h : ∀ v', TM P f N m G R (.inRegion ops rest :: k) (upd e d v') s.w) : TM P f N (if 0 ≤ a ∧ a ≤ b ∧ b ≤ c ∧ c ≤ (xs.length : Int) then m else none) G R (.inRegion ops (i :: rest) :: k) e s.w := by
  refine mg fun hg => ?_
  obtain ⟨A, l, cap, rfl, hcap⟩ := cap_e hO
  obtain ⟨a, rfl⟩ := Int.eq_ofNat_of_zero_le hg.1
  obtain ⟨b, rfl⟩ := Int.eq_ofNat_of_zero_le (show 0 ≤ b by omega)
  obtain ⟨c, rfl⟩ := Int.eq_ofNat_of_zero_le (show 0 ≤ c by omega)
  have hab : a ≤ b := by omega
  have hbc : b ≤ c := by omega
  have hcc : c ≤ cap := by omega
  have hb : (Instr.sliceBounds true l cap (some (.int k1 (a : Int))) (some (.int k2 (b : Int))) (some (.int k3 (c : Int)))).run P s.w = .ok (a, b, c) s.w := by
    simp [Instr.sliceBounds, Instr.sliceBound, asIntOf, Result.andThen, hab, hbc, hcc]
  have hrun : ∃ v', (Instr.sliceAt t (.slice A l cap) (some (.int k1 (a : Int))) (some (.int k2 (b : Int))) (some (.int k3 (c : Int)))).run P s.w = .ok v' s.w := by
    unfold Instr.sliceAt
    rw [Sem.run_bind', run_underlying hu]
    simp only [Result.andThen]
    unfold Instr.slice
    rw [Sem.run_bind', run_underlying hu]
    simp only [Result.andThen]
    rw [Sem.run_bind', hb]
    simp only [Result.andThen]
    rw [Sem.run_bind', size_run hs]
    simp [Result.andThen]
  obtain ⟨v', hv'⟩ := hrun
  exact vl (v := v') ho hd hN hw (by simp [execOp, hop, hx, hp, hq, hr, hv', Result.andThen]) (h v')
theorem clr_ {α : Type} {K : Kd α} {t te : TypeId} {y : Operand} {v u : Value} {xs : List α} {c a b : Nat} {z : Value} {x0 : α} (hK : FlK K) (hO : OwF (Kd.sl te K) s [v] xs c) (hC : CutV K.n xs.length v a b u) (ha : a ≤ xs.length) (hb : xs.length ≤ b)
    (hu : P.underlying t = some (.slice te)) (hz : (P.info? te).bind (·.zero) = some z) (hzs : Nat.beq z.cells.size K.n = true) (hn : Nat.ble 1 K.n = true) (h0 : ∀ w, K.ow w z.cells.toList x0 [])
    (ho : ops[i]? = some o) (hd : o.dst = none) (hw : Region.wanted o (yv e ops) = true) (hop : o.op = .call { callee := .builtin .clear, args := #[y], argTypes := #[t] }) (hy : ev e y = u)
    (h : ∀ s', Stp [c] s s' → OwF (Kd.sl te K) s' [v] (xs.take a ++ List.replicate (xs.length - a) x0) c → TM P f N m G R (.inRegion ops rest :: k) e s'.w) : TM P f N m G R (.inRegion ops (i :: rest) :: k) e s.w := by
  have hzs' := Nat.eq_of_beq_eq_true hzs
  have hn' := Nat.le_of_ble_eq_true hn
  have hrefl : Stp [c] s s := ⟨rfl, rfl, rfl, Nat.le_refl _, fun _ _ _ => rfl, fun _ _ _ => ⟨rfl, rfl⟩⟩
  have hO' := hO
  obtain ⟨os, ⟨v1, e1, cells, o1, o2, rfl, hR, hE⟩, hnd, hcol⟩ := hO
  obtain rfl : v = v1 := by simpa using e1
  obtain ⟨A, cap', e2, hab, hbc, rfl⟩ := hC
  have noop : a = b → (Builtin.clear_ #[t] o.type #[.slice (if cap' = a then A else A.map (·.add (a * K.n))) (b - a) (cap' - a)]).run P s.w = .ok (.tuple #[]) s.w := fun hab' => by
    subst hab'
    rw [Nat.sub_self]
    unfold Builtin.clear_
    generalize (if cap' = a then A else A.map (·.add (a * K.n))) = B
    cases B <;> simp [run_underlying hu, Result.andThen]
  have noop2 : a = b → TM P f N m G R (.inRegion ops (i :: rest) :: k) e s.w := fun hab' => by
    have hr := noop hab'
    refine TM.of (fun _ h => T_value0 (v := .tuple #[]) (w' := s.w) ho hd hw (by simp [execOp, hop, resolve, invoke, builtin, hy, hr, Result.andThen]) h) (h s hrefl ?_)
    have : a = xs.length := by omega
    subst this
    rw [List.take_length, Nat.sub_self]; simpa using hO'
  rcases hR.2 with ⟨e3, h2, _⟩ | ⟨g, cap, cur, e3, hg, hlc, hcm, hsz, htk, rfl⟩
  · rw [e3] at e2
    simp only [Value.slice.injEq] at e2
    exact noop2 (by omega)
  by_cases hab' : a = b
  · exact noop2 hab'
  rw [e3] at e2
  simp only [Value.slice.injEq, true_and] at e2
  obtain ⟨rfl, rfl⟩ := e2
  have hac : ¬ cap = a := by omega
  rw [if_neg hac] at hy
  simp only [Option.map_some, Addr.add_mid, Nat.zero_add] at hy
  have hzE : ∀ w l, ElsO K w (List.replicate l x0) (Builtin.zeroCells z.cells l).toList [] := fun w l => by rw [zero_made, hzs']; exact made_els hzs' hn' h0 w l
  have hzl : (Builtin.zeroCells z.cells (b - a)).toList.length = (b - a) * K.n := by rw [Array.length_toList, size_zeroCells, hzs']
  have hm1 : a * K.n ≤ b * K.n := Nat.mul_le_mul_right _ hab
  have hm2 : b * K.n ≤ cap * K.n := Nat.mul_le_mul_right _ hbc
  have hm3 : a * K.n ≤ xs.length * K.n := Nat.mul_le_mul_right _ ha
  have hm4 : xs.length * K.n ≤ b * K.n := Nat.mul_le_mul_right _ hb
  have hsub : (b - a) * K.n = b * K.n - a * K.n := Nat.sub_mul _ _ _
  have hst := run_storeCells_at P g (a * K.n) te (Builtin.zeroCells z.cells (b - a)).toList 0 cur s.w hg (by rw [hzl, hsz]; omega) (hzE s.w (b - a)).rd.one
  simp only [Nat.add_zero, hzl] at hst
  have hrun : (Builtin.clear_ #[t] o.type #[.slice (some ⟨g, a * K.n, none⟩) (b - a) (cap - a)]).run P s.w = .ok (.tuple #[]) (s.w.setRow g (cur.toList.take (a * K.n) ++ (Builtin.zeroCells z.cells (b - a)).toList ++ cur.toList.drop (a * K.n + (b - a) * K.n)).toArray) := by
    obtain ⟨q, hq⟩ : ∃ q, b - a = q + 1 := ⟨b - a - 1, by omega⟩
    rw [hq] at hst ⊢
    simp [Builtin.clear_, run_underlying hu, zero_run hz, hst, Result.andThen]
  refine TM.of (fun _ h => T_value0 (v := .tuple #[]) (w' := s.w.setRow g (cur.toList.take (a * K.n) ++ (Builtin.zeroCells z.cells (b - a)).toList ++ cur.toList.drop (a * K.n + (b - a) * K.n)).toArray) ho hd hw (by simp [execOp, hop, resolve, invoke, builtin, hy, hrun, Result.andThen]) h) (h ⟨_, s.g⟩ ⟨rfl, rfl, rfl, by simp, fun _ _ _ => rfl, fun b' hb' hm => ⟨rfl, setRow_other s.w g b' _ fun e => ?_⟩⟩ ?_)
  · rw [e, hcol g (by simp)] at hm; simp [memb] at hm
  · have hcl : cells.length = xs.length * K.n := hR.1
    have hlen : (xs.take a ++ List.replicate (xs.length - a) x0).length = xs.length := by simp; omega
    have hE1 := ((hE.rd.take a).mono (F' := fun _ => True) fun _ _ _ => trivial).append ((hzE s.w (xs.length - a)).rd.mono (F' := fun _ => True) fun _ _ _ => trivial)
    have hE2 := hK.els (s.w.setRow g (cur.toList.take (a * K.n) ++ (Builtin.zeroCells z.cells (b - a)).toList ++ cur.toList.drop (a * K.n + (b - a) * K.n)).toArray) hE1
    refine ⟨[g] ++ [], ⟨v, rfl, _, [g], [], rfl, ⟨?_, .inr ⟨g, cap, _, by rw [hlen]; exact e3, setRow_heap s.w g cur _ te _ hg, by rw [hlen]; exact hlc, hcm, ?_, ?_, rfl⟩⟩, hE2⟩, by simp, fun b' hb' => hcol b' (by simp at hb'; simp [hb'])⟩
    · have hz2 : (Builtin.zeroCells z.cells (xs.length - a)).toList.length = (xs.length - a) * K.n := by rw [Array.length_toList, size_zeroCells, hzs']
      rw [hlen, List.length_append, List.length_take, hz2, hcl, Nat.sub_mul]; omega
    · simp only [List.size_toArray, List.length_append, List.length_take, List.length_drop, Array.length_toList, hsz, size_zeroCells, hzs']; omega
    · rw [hlen]
      have e5 : (cells.take (a * K.n)) = cur.toList.take (a * K.n) := by rw [← htk, List.take_take]; congr 1; omega
      have e6 : (Builtin.zeroCells z.cells (b - a)).toList.take (xs.length * K.n - a * K.n) = (Builtin.zeroCells z.cells (xs.length - a)).toList := by
        apply List.ext_getElem
        · have hz2 : (Builtin.zeroCells z.cells (xs.length - a)).toList.length = (xs.length - a) * K.n := by rw [Array.length_toList, size_zeroCells, hzs']
          have hsub2 : (xs.length - a) * K.n = xs.length * K.n - a * K.n := Nat.sub_mul _ _ _
          rw [List.length_take, hzl, hz2, hsub, hsub2]; omega
        · intro j h1 h2
          simp [Builtin.zeroCells]
      rw [e5]
      have hla : (cur.toList.take (a * K.n)).length = a * K.n := by rw [List.length_take, Array.length_toList, hsz]; omega
      rw [List.append_assoc, List.take_append, hla, List.take_of_length_le (by rw [hla]; omega), List.take_append, hzl, e6, show xs.length * K.n - a * K.n - (b - a) * K.n = 0 by omega, List.take_zero, List.append_nil]
theorem apIn {α : Type} {K : Kd α} {t te : TypeId} {x y : Operand} {v u : Value} {xs ys : List α} {c M : Nat} {C : List Nat} (hK : FlK K) (hT : SlT P t te K.n) (hD : OwF (Kd.sl te K) s [v] xs c) (hM : CapV v M) (hS : RdF (Kd.sl te K) s [u] ys C)
    (ho : ops[i]? = some o) (hd : o.dst = some d) (hN : Nat.blt d N = true) (hw : Region.wanted o (yv e ops) = true) (hop : o.op = .call { callee := .builtin .append, args := #[x, y], argTypes := #[t, t] }) (hx : ev e x = v) (hy : ev e y = u)
    (h : ∀ v' s', Stp [c] s s' → OwF (Kd.sl te K) s' [v'] (xs ++ ys) c → CapV v' M → TM P f N m G R (.inRegion ops rest :: k) (upd e d v') s'.w) :
    TM P f N (if xs.length + ys.length ≤ M ∧ xs.length + ys.length ≤ Lim then m else none) G R (.inRegion ops (i :: rest) :: k) e s.w := by
  refine mg fun hl => ?_
  obtain ⟨hl1, hl2⟩ := hl
  obtain ⟨os, ⟨v1, e1, cells, o1, o2, rfl, hR, hE⟩, hnd, hcol⟩ := hD
  obtain rfl : v = v1 := by simpa using e1
  obtain ⟨u1, e2, hS⟩ := hS
  obtain rfl : u = u1 := by simpa using e2
  obtain ⟨cells', hSv, hE'⟩ := hS.slv
  obtain ⟨v', w', hr, hR', hg, hb⟩ := append_core (P := P) (ty := o.type) hT hR hSv hl2
  -- the room serves
  have hcap : CapV v' M := by
    obtain ⟨A, l, cap, e3, hMc⟩ := hM
    rcases hR.2 with ⟨e4, h2, _⟩ | ⟨g, cap2, cur, e4, hgg, hlc, hcm, hsz, htk, ho1⟩
    · rw [e4] at e3
      simp only [Value.slice.injEq] at e3
      have hM0 : M = 0 := by omega
      rcases hR'.2 with ⟨e5, _⟩ | ⟨g', cap', cur', e5, _, h5, _⟩
      · exact ⟨_, _, _, e5, by omega⟩
      · exact ⟨_, _, _, e5, by omega⟩
    · rw [e4] at e3
      simp only [Value.slice.injEq] at e3
      obtain ⟨_, _, rfl⟩ := e3
      obtain ⟨hu, z, by_, hi, hz, hn, hbb⟩ := hT
      obtain ⟨Ay, capy, rfl, hlen, hone, hc⟩ := hSv
      obtain ⟨ti, hti, hzz⟩ := Option.map_eq_some_iff.1 hi
      simp only [Prod.mk.injEq] at hzz
      cases Ay with
      | none =>
        have hnil : cells' = [] := by
          cases cells' with
          | nil => rfl
          | cons u us =>
            obtain ⟨ad, h, _⟩ := hc (by simp)
            cases h
        have hy0 : ys.length = 0 := by
          rw [hnil] at hlen
          rcases Nat.mul_eq_zero.1 (show ys.length * K.n = 0 from hlen.symm) with h | h
          · exact h
          · omega
        rw [hy0] at hr
        have hr2 := append_none_run (P := P) (w := s.w) t o.type te _ _ _ capy _ hu (by rw [hti]; simp [hzz.2.1]) hR.owns
        rw [hr2] at hr
        cases hr
        exact ⟨_, _, _, e4, hMc⟩
      | some ad =>
        have hnews : ∀ j u, cells'[j]? = some u → s.w.cell? (ad.add j) = some u := fun j u hj => by
          obtain ⟨ad', e, h⟩ := hc (fun h => by rw [h] at hj; simp at hj)
          obtain rfl := Option.some.inj e
          exact h j u hj
        have hmul : (xs.length + ys.length) * K.n ≤ cap2 * K.n := Nat.mul_le_mul_right _ (by omega)
        rw [Nat.add_mul] at hmul
        have hcell : ∀ j, j < cells'.length → s.w.cell? ⟨g, 0 + xs.length * K.n + j, none⟩ = cur[xs.length * K.n + j]? := fun j hj => by simp [World.cell?, hgg]
        have hr2 := run_append_room_cells (P := P) s.w t o.type te ti hu hti g 0 xs.length cap2 ad ys.length capy cells' (by rw [hzz.2.1]; exact hlen) hnews hone (by omega) (fun j hj => by
          rw [hzz.2.1, hcell j hj, Array.getElem?_eq_getElem (by rw [hsz]; omega)]; rfl) (fun j hj => by simp [World.frozen?, hgg])
        rw [e4, hr2] at hr
        cases hr
        exact ⟨_, _, _, rfl, hMc⟩
  refine vl (v := v') (w' := w') ho hd hN hw (by simp [execOp, hop, resolve, invoke, builtin, hx, hy, hr, Result.andThen]) ?_
  have hp : ∃ s' : St, s'.w = w' ∧ Stp [c] s s' ∧ (∀ b, b < s.w.heap.size → s'.g b = s.g b) ∧ (∀ b, s.w.heap.size ≤ b → s'.g b = c) := by
    refine ⟨⟨w', fun b => if b < s.w.heap.size then s.g b else c⟩, rfl, ⟨hg.os, hg.tape, hg.output, hg.size, fun b hb _ => by simp [hb], fun b hb hm => ⟨by simp [hb], hg.block b hb fun h => ?_⟩⟩, fun b hb => by simp [hb], fun b hb => ?_⟩
    · have := hcol b (List.mem_append_left _ (blk_own hR h.symm))
      rw [this] at hm; simp [memb] at hm
    · have : ¬ b < s.w.heap.size := by omega
      simp [this]
  obtain ⟨s', rfl, p, hold, hnew⟩ := hp
  refine h v' s' p ⟨Value.blk v' ++ [], ⟨v', rfl, cells ++ cells', Value.blk v', [], rfl, by rw [List.length_append]; exact hR', hK.els _ ((hE.rd.mono (F' := fun _ => True) fun _ _ _ => trivial).append (hE'.mono (F' := fun _ => True) fun _ _ _ => trivial))⟩, ?_, fun b hb' => ?_⟩ hcap
  · have hvn : (Value.blk v').Nodup := by unfold Value.blk; split <;> simp
    simpa using hvn
  · rw [List.append_nil] at hb'
    rcases hb b hb' with h1 | h1
    · rw [hold b (hR.lt b h1)]; exact hcol b (List.mem_append_left _ h1)
    · exact hnew b h1
theorem sets_all : ∀ (vs cs : List Value), cs.length = vs.length → sets cs 0 vs = vs := by
  have key : ∀ (vs : List Value) (q : Nat) (cs : List Value), cs.length = q + vs.length → sets cs q vs = cs.take q ++ vs := by
    intro vs
    induction vs with
    | nil => intro q cs h; simp only [sets]; rw [List.take_of_length_le (by simp at h; omega), List.append_nil]
    | cons v vs ih =>
      intro q cs h
      simp only [sets]
      rw [ih (q + 1) (cs.set q v) (by rw [List.length_set, h, List.length_cons]; omega), List.take_succ_eq_append_getElem (by rw [List.length_set, h, List.length_cons]; omega)]
      simp [List.take_set_of_le]
  intro vs cs h
  simpa using key vs 0 cs (by simpa using h)
theorem svp {t b : Nat} {tb : TypeId} {x y : Operand} {cs vs : List Value} {c : Nat} (hB : BlF s b tb cs c) (hs : (P.info? t).map (·.size) = some vs.length) (hv : ∀ v ∈ vs, v.oneCell' = true) (hl : cs.length = vs.length)
    (ho : ops[i]? = some o) (hd : o.dst = none) (hw : Region.wanted o (yv e ops) = true) (hop : o.op = .store t x y) (hx : ev e x = .pointer (some ⟨b, 0, none⟩)) (hy : ev e y = .agg vs.toArray)
    (h : ∀ s', Stp [c] s s' → BlF s' b tb vs c → TM P f N m G R (.inRegion ops rest :: k) e s'.w) : TM P f N m G R (.inRegion ops (i :: rest) :: k) e s.w :=
  sva (q := 0) hB hs ho hd hw hop hx hy (List.all_eq_true.2 hv) (by rw [Nat.zero_add, hl]; exact Nat.ble_self_eq_true _) fun s' p hB' => h s' p (by rw [sets_all vs cs hl] at hB'; exact hB')
theorem ldp {t b : Nat} {tb : TypeId} {dd : TypeDesc} {x : Operand} {cs : List Value} {c : Nat} (hB : BlF s b tb cs c) (hu : P.underlying t = some dd) (hs : (P.info? t).map (·.size) = some cs.length)
    (ho : ops[i]? = some o) (hd : o.dst = some d) (hN : Nat.blt d N = true) (hw : Region.wanted o (yv e ops) = true) (hop : o.op = .load t x) (hr : dd.isRow = true) (hx : ev e x = .pointer (some ⟨b, 0, none⟩))
    (h : TM P f N m G R (.inRegion ops rest :: k) (upd e d (.agg cs.toArray)) s.w) : TM P f N m G R (.inRegion ops (i :: rest) :: k) e s.w :=
  lda (q := 0) hB hu hs ho hd hN hw hop hr hx (by simp) h
end
end Go.Proofs.Ytcagjdngannneaa.V
