
import Derived.Test.YtcagjdngannneaaVy
set_option linter.unusedVariables false
set_option linter.unusedSimpArgs false
namespace Go.Proofs.Ytcagjdngannneaa.V
open Go
section
variable {P : Program} {f : FuncId} {N : Nat} {O ρ : Type} {m : Option O} {G : O → Option ρ} {R : ρ → Ending → World → Prop} {e : Env} {s : St} {k : List Item} {ops : Array Oper} {i d : Nat} {rest : List Nat} {o : Oper}
theorem ixc_run {w : World} {t te cnt n q : Nat} {kk : IntKind} {ii : Int} {ad : Addr} (hu : P.underlying t = some (.array cnt te)) (hs : (P.info? te).map (·.size) = some n) (h0 : decide (0 ≤ ii ∧ ii < (cnt : Int)) = true) (hq : Nat.beq (ii.toNat * n) q = true) :
    (Instr.indexAt t (.pointer (some ad)) (.int kk ii)).run P w = .ok (.pointer (some (ad.add q))) w := by
  obtain ⟨h1, h2⟩ := of_decide_eq_true h0
  have hq' := Nat.eq_of_beq_eq_true hq
  subst hq'
  simp [Instr.indexAt, asIntOf, run_underlying hu, h1, h2, size_run hs, Instr.sureAddr, Result.andThen]
theorem ixc {t te cnt n q : Nat} {kk : IntKind} {ii : Int} {X I : Operand} {ad : Addr} (hu : P.underlying t = some (.array cnt te)) (hs : (P.info? te).map (·.size) = some n)
    (h0 : decide (0 ≤ ii ∧ ii < (cnt : Int)) = true) (hq : Nat.beq (ii.toNat * n) q = true)
    (ho : ops[i]? = some o) (hd : o.dst = some d) (hN : Nat.blt d N = true) (hw : Region.wanted o (yv e ops) = true) (hop : o.op = .indexAddr t X I) (hX : ev e X = .pointer (some ad)) (hI : ev e I = .int kk ii)
    (h : TM P f N m G R (.inRegion ops rest :: k) (upd e d (.pointer (some (ad.add q)))) s.w) : TM P f N m G R (.inRegion ops (i :: rest) :: k) e s.w :=
  vl ho hd hN hw (by simp [execOp, hop, hX, hI, ixc_run hu hs h0 hq, Result.andThen]) h
theorem bdA {t te cnt n : Nat} {parts : Array (Nat × Operand)} {z : Value} {cells : List Value} (hu : P.underlying t = some (.array cnt te)) (hs : (P.info? te).map (·.size) = some n) (hz : (P.info? t).bind (·.zero) = some z)
    (ho : ops[i]? = some o) (hd : o.dst = some d) (hN : Nat.blt d N = true) (hw : Region.wanted o (yv e ops) = true) (hop : o.op = .build t parts) (hfill : lfill (fun i => some (i * n, n)) z.cells.toList (parts.toList.map fun (i, x) => (i, ev e x)) = some cells)
    (h : TM P f N m G R (.inRegion ops rest :: k) (upd e d (.agg cells.toArray)) s.w) : TM P f N m G R (.inRegion ops (i :: rest) :: k) e s.w :=
  vl ho hd hN hw (by
    have : (Instr.build t (parts.map fun (i, x) => (i, ev e x))).run P s.w = .ok (.agg cells.toArray) s.w := by
      have hfl := lfill_eq _ _ _ _ hfill
      unfold Instr.build
      rw [Sem.run_bind', zero_run hz]
      simp only [Result.andThen]
      rw [Sem.run_bind', run_underlying hu]
      simp only [Result.andThen]
      rw [Sem.run_bind', size_run hs]
      simp only [Result.andThen]
      simp only [] at hfl
      simp only [Array.toList_map, hfl]
      rfl
    simp [execOp, hop, this, Result.andThen]) h
end
end Go.Proofs.Ytcagjdngannneaa.V
