/- The row of FnTracks: for every input it returns true, and the input reads as before. Out of the walk and the plain law. -/
import Derived.Test.YtcgbhldenkeplaaRows
import Derived.Test.YtcgbhldenkeplaaHFnTracks
import Derived.Test.YtcgbhldenkeplaaGs
import Derived.WalkKit
import Derived.ProofKit
import Derived.OpenShut
import Derived.ShutString
import Derived.ChangeOld
import Derived.Below
import Derived.SizedLaws
namespace Go.Proofs.Ytcgbhldenkeplaa.fnTracks
open Go.ChangeShapes Go.WideShapes Go.ChangeAt Go.RowKit
open Go.Proofs.Ytcgbhldenkeplaa Go.Proofs.Ytcgbhldenkeplaa.V
set_option linter.unusedVariables false
set_option linter.unusedSimpArgs false
theorem own : ownKnob Try.prog.godebug = none := by kernel_rfl
theorem laidOut : laidOutB Try.prog = true := by kernel_rfl
set_option maxHeartbeats 4000000 in
set_option maxRecDepth 100000 in
theorem lifted (os : Os) (started : os.Started) (H : Type) (enc : TypeId × Value → H) :
    ReturnsInHanded {} Try.checked os 3 .any (Rows.fnTracksSpec.pre6 enc Try.prog Try.f3 Rows.fnTracksRow.domain false) (Rows.fnTracksSpec.post enc Try.prog Try.f3 false true false false) := by
  refine returnsInHanded_of_change_sized (C := Try.checked) own started (by kernel_rfl) Try.func3
    (ChangeSpec.witness6 (enc := enc) (C := Try.checked) false ⟨#[], #[.slice none 0 0], []⟩ 8 (by kernel_rfl) (by kernel_rfl) (by kernel_rfl) (by kernel_rfl)) ?_
  intro W base args ds gs before hval0 hW hcnd hsz0 _
  have hval : ∀ (j : Nat) t v, Try.f3.params[j]? = some t → args[j]? = some v → Value.okWide Try.prog W .any base t v := hval0
  have hW' := hW
  obtain ⟨p, q, hA0, hV, rfl, hfz, hnd⟩ := hW
  have hA : DataW.TrodAll enc Try.prog W 0 (fun _ => true) true Try.f3.params.toList args.toList ds p := hA0
  rw [Try.params3] at hA hval
  obtain ⟨v0, vs0, d0, ds0, p0, q0, hargs, rfl, rfl, h0, r0⟩ := trodAll_cons hA
  obtain ⟨rfl, rfl, rfl⟩ := trodAll_nil r0
  obtain rfl : args = #[v0] := by cases args; simp_all
  obtain ⟨rfl, rfl⟩ := trodVars_none hV
  have k0 := h0
  have lt0 : ∀ x ∈ p0, x.block < W.heap.size := by obtain ⟨m, hm⟩ := k0; exact DataW.trod_lt m _ _ _ hm
  obtain ⟨fu0, f0⟩ := h0
  obtain ⟨a0, rd0, ok0⟩ := Opn.op (tr_sl (e' := 5) Try.underlying22 (by kernel_rfl) (tr_int Try.underlying5)) f0
  obtain ⟨A0, len0, cap0, rfl⟩ := okWide_slice Try.underlying22 (hval 0 22 v0 rfl rfl)
  clear hA0 hval0 hsz0
  refine (laws_FnTracks.calls a0 W (fun _ => True) _ rd0 true (laws_FnTracks_true a0 ok0)).mono fun e W' ⟨v, he, hQ⟩ => ?_
  obtain ⟨rfl, ky⟩ := hQ
  subst he
  have bel := ky.below
  exact ⟨_, rfl, _, _, _, [], _, [], hW', trodAll_mk1 (shut_bool Try.underlying4 _), (trodAll_cons_mk (Below.trod laidOut (by kernel_rfl) (of_decide_eq_true (by kernel_rfl)) k0 bel lt0) trodAll_mk0), rfl, bel.frame _, fun h => by cases h⟩
theorem and2 {a b : Bool} (x : a = true) (y : b = true) : (a && b) = true := by subst x; subst y; rfl
set_option maxHeartbeats 40000000 in
set_option maxRecDepth 100000 in
theorem closed : joinedFacts Try.checked.prog 3 Try.f3 Rows.fnTracksSpec Rows.fnTracksRow = true := by
  unfold joinedFacts
  iterate 31 (refine and2 ?_ (by as_aux_lemma => kernel_rfl))
  as_aux_lemma => kernel_rfl
theorem over : Rows.fnTracksRow.holds Try.pinned (OpenSpec.ofChange Rows.fnTracksSpec) :=
  OpenClaim.holds_of_wide 3 Try.f3 rfl rfl rfl rfl rfl rfl rfl ⟨rfl, rfl, rfl, rfl, rfl⟩ rfl rfl rfl rfl rfl (by kernel_rfl) Try.func3 closed
    (of_decide_eq_true (by kernel_rfl)) (by unfold Func.isWrapper; first | (rw [if_pos (by decide +kernel)]; kernel_rfl) | (rw [if_neg (by decide +kernel)]; exact ⟨rfl, rfl⟩))
    (fun os started H enc _ => lifted os started H enc)
theorem proved : Rows.FnTracksSaid := over
#print axioms proved
end Go.Proofs.Ytcgbhldenkeplaa.fnTracks
namespace Go.Proofs.Ytcgbhldenkeplaa
/-- The row, under a short name, for the claim. -/
theorem fnTracks_holds : Rows.FnTracksSaid := fnTracks.proved
end Go.Proofs.Ytcgbhldenkeplaa
