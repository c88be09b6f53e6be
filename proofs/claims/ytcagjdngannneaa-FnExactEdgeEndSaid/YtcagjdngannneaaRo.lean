
import Derived.Test.YtcagjdngannneaaRa
set_option linter.unusedVariables false
set_option linter.unusedSimpArgs false
set_option linter.unusedSectionVars false
namespace Go.Proofs.Ytcagjdngannneaa
open Go V Ieee
theorem near_v (n : Nat) (h : n < 9007199254740992) : IsV (FloatKind.f64.nearest (n : Int)) false (n * pw 1074) := by
  have hr := rep_of h 1074 (by omega)
  have := write_rep false n 0 (n * pw 1074) hr (by
    rw [show ((0 : Int) + 1074).toNat = 1074 by omega, show (-((0 : Int) + 1074)).toNat = 0 by omega, Nat.pow_zero, Nat.mul_one, pw])
  have e : FloatKind.f64.nearest (n : Int) = D.write (.number false n 0) := by
    show D.write (.number (decide ((n : Int) < 0)) (n : Int).natAbs 0) = _
    rw [decide_eq_false (by omega), Int.natAbs_natCast]
  rwa [e]
theorem near_self (n : Int) (h0 : 0 ≤ n) (h1 : n < 9007199254740992) : (fcmp .f64 (FloatKind.f64.nearest n) (FloatKind.f64.nearest n) != some .eq) = false := by
  obtain ⟨m, rfl⟩ := Int.eq_ofNat_of_zero_le h0
  exact cmp_self (near_v m (by omega))
end Go.Proofs.Ytcagjdngannneaa
