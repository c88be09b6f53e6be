
import Derived.Test.YtcagjdngannneaaGreatVy
set_option linter.unusedVariables false
set_option linter.unusedSimpArgs false
namespace Go.Proofs.YtcagjdngannneaaGreat.V
open Go
theorem ix_re {α : Type} [Inhabited α] {te : TypeId} {K : Kd α} {s : St} {v : Value} {xs : List α} {C : List Nat} {ii : Int} {ad : Addr} (hF : RdF (Kd.sl te K) s [v] xs C) (hn : Nat.ble 1 K.n = true) (h0 : 0 ≤ ii) (h1 : ii < xs.length) (hA : IxA v K.n ii ad) :
    ∃ es, RdF K s es (at_ xs ii) C ∧ CeF s ad es C := by
  obtain ⟨A, cap, es, hv, hrd, hce⟩ := rd_elem hF hn h0 h1
  obtain ⟨A', l', cap', hv', rfl⟩ := hA
  rw [hv] at hv'
  simp only [Value.slice.injEq, Option.some.injEq] at hv'
  obtain ⟨rfl, rfl, rfl⟩ := hv'
  exact ⟨es, hrd, hce⟩
section
variable {P : Program} {f : FuncId} {N : Nat} {O ρ : Type} {m : Option O} {G : O → Option ρ} {R : ρ → Ending → World → Prop} {e : Env} {s : St} {k : List Item} {ops : Array Oper} {i d : Nat} {rest : List Nat} {o : Oper}
end
end Go.Proofs.YtcagjdngannneaaGreat.V
