/- The row of FnExactEdgeEnd: for every input it returns true, and the input reads as before. Out of the walk and the plain law. -/
import Derived.Test.YtcagjdngannneaaRows
import Derived.Test.YtcagjdngannneaaUFnExactEdgeEnd
import Derived.Test.YtcagjdngannneaaXs
import Derived.WalkKit
import Derived.ProofKit
import Derived.OpenShut
import Derived.ShutString
import Derived.ChangeOld
import Derived.Below
import Derived.SizedLaws
namespace Go.Proofs.Ytcagjdngannneaa.fnExactEdgeEnd
open Go.ChangeShapes Go.WideShapes Go.ChangeAt Go.RowKit
open Go.Proofs.Ytcagjdngannneaa Go.Proofs.Ytcagjdngannneaa.V
set_option linter.unusedVariables false
set_option linter.unusedSimpArgs false
theorem own : ownKnob Try.prog.godebug = none := by kernel_rfl
theorem laidOut : laidOutB Try.prog = true := by kernel_rfl
set_option maxHeartbeats 4000000 in
set_option maxRecDepth 100000 in
theorem lifted (os : Os) (started : os.Started) (H : Type) (enc : TypeId × Value → H) :
    ReturnsInHanded {} Try.checked os 6 .any (Rows.fnExactEdgeEndSpec.pre6 enc Try.prog Try.f6 Rows.fnExactEdgeEndRow.domain false) (Rows.fnExactEdgeEndSpec.post enc Try.prog Try.f6 false true false false) := by
  refine returnsInHanded_of_change_sized (C := Try.checked) own started (by kernel_rfl) Try.func6
    (ChangeSpec.witness6 (enc := enc) (C := Try.checked) false ⟨#[], #[.slice none 0 0, .int .i64 0, .int .i64 0, .bool false], []⟩ 8 (by kernel_rfl) (by kernel_rfl) (by kernel_rfl) (by kernel_rfl)) ?_
  intro W base args ds gs before hval0 hW hcnd hsz0 _
  have hval : ∀ (j : Nat) t v, Try.f6.params[j]? = some t → args[j]? = some v → Value.okWide Try.prog W .any base t v := hval0
  have hW' := hW
  obtain ⟨p, q, hA0, hV, rfl, hfz, hnd⟩ := hW
  have hA : DataW.TrodAll enc Try.prog W 0 (fun _ => true) true Try.f6.params.toList args.toList ds p := hA0
  rw [Try.params6] at hA hval
  obtain ⟨v0, vs0, d0, ds0, p0, q0, hargs, rfl, rfl, h0, r0⟩ := trodAll_cons hA
  obtain ⟨v1, vs1, d1, ds1, p1, q1, rfl, rfl, rfl, h1, r1⟩ := trodAll_cons r0
  obtain ⟨v2, vs2, d2, ds2, p2, q2, rfl, rfl, rfl, h2, r2⟩ := trodAll_cons r1
  obtain ⟨v3, vs3, d3, ds3, p3, q3, rfl, rfl, rfl, h3, r3⟩ := trodAll_cons r2
  obtain ⟨rfl, rfl, rfl⟩ := trodAll_nil r3
  obtain rfl : args = #[v0, v1, v2, v3] := by cases args; simp_all
  obtain ⟨rfl, rfl⟩ := trodVars_none hV
  have k0 := h0
  have lt0 : ∀ x ∈ p0, x.block < W.heap.size := by obtain ⟨m, hm⟩ := k0; exact DataW.trod_lt m _ _ _ hm
  obtain ⟨fu0, f0⟩ := h0
  obtain ⟨a0, rd0, ok0⟩ := Opn.op (tr_sl (e' := 149) Try.underlying69 (by kernel_rfl) tr149) f0
  obtain ⟨A0, len0, cap0, rfl⟩ := okWide_slice Try.underlying69 (hval 0 69 v0 rfl rfl)
  have k1 := h1
  have lt1 : ∀ x ∈ p1, x.block < W.heap.size := by obtain ⟨m, hm⟩ := k1; exact DataW.trod_lt m _ _ _ hm
  obtain ⟨fu1, f1⟩ := h1
  obtain ⟨a1, rd1, ok1⟩ := Opn.op (tr_int Try.underlying3) f1
  obtain ⟨n1, rfl⟩ := okWide_int Try.underlying3 (hval 1 3 v1 rfl rfl)
  obtain rfl : a1 = n1 := by have e : [_] = [_] := rd1; exact (by simpa using e : n1 = a1).symm
  have k2 := h2
  have lt2 : ∀ x ∈ p2, x.block < W.heap.size := by obtain ⟨m, hm⟩ := k2; exact DataW.trod_lt m _ _ _ hm
  obtain ⟨fu2, f2⟩ := h2
  obtain ⟨a2, rd2, ok2⟩ := Opn.op (tr_int Try.underlying3) f2
  obtain ⟨n2, rfl⟩ := okWide_int Try.underlying3 (hval 2 3 v2 rfl rfl)
  obtain rfl : a2 = n2 := by have e : [_] = [_] := rd2; exact (by simpa using e : n2 = a2).symm
  have k3 := h3
  have lt3 : ∀ x ∈ p3, x.block < W.heap.size := by obtain ⟨m, hm⟩ := k3; exact DataW.trod_lt m _ _ _ hm
  obtain ⟨fu3, f3⟩ := h3
  obtain ⟨a3, rd3, ok3⟩ := Opn.op (tr_bool Try.underlying4) f3
  obtain ⟨n3, rfl⟩ := okWide_bool Try.underlying4 (hval 3 4 v3 rfl rfl)
  obtain rfl : a3 = n3 := by have e : [_] = [_] := rd3; exact (by simpa using e : n3 = a3).symm
  clear hA0 hval0 hsz0
  refine (laws_FnExactEdgeEnd.calls a0 a1 a2 a3 W (fun _ => True) _ rd0 true (laws_FnExactEdgeEnd_true a0 a1 a2 a3 ok0 ok1 ok2 ok3)).mono fun e W' ⟨v, he, hQ⟩ => ?_
  obtain ⟨rfl, ky⟩ := hQ
  subst he
  have bel := ky.below
  exact ⟨_, rfl, _, _, _, [], _, [], hW', trodAll_mk1 (shut_bool Try.underlying4 _), (trodAll_cons_mk (Below.trod laidOut (by kernel_rfl) (of_decide_eq_true (by kernel_rfl)) k0 bel lt0) (trodAll_cons_mk (Below.trod laidOut (by kernel_rfl) (of_decide_eq_true (by kernel_rfl)) k1 bel lt1) (trodAll_cons_mk (Below.trod laidOut (by kernel_rfl) (of_decide_eq_true (by kernel_rfl)) k2 bel lt2) (trodAll_cons_mk (Below.trod laidOut (by kernel_rfl) (of_decide_eq_true (by kernel_rfl)) k3 bel lt3) trodAll_mk0)))), rfl, bel.frame _, fun h => by cases h⟩
theorem and2 {a b : Bool} (x : a = true) (y : b = true) : (a && b) = true := by subst x; subst y; rfl
set_option maxHeartbeats 40000000 in
set_option maxRecDepth 100000 in
theorem closed : joinedFacts Try.checked.prog 6 Try.f6 Rows.fnExactEdgeEndSpec Rows.fnExactEdgeEndRow = true := by
  unfold joinedFacts
  iterate 31 (refine and2 ?_ (by as_aux_lemma => kernel_rfl))
  as_aux_lemma => kernel_rfl
theorem over : Rows.fnExactEdgeEndRow.holds Try.pinned (OpenSpec.ofChange Rows.fnExactEdgeEndSpec) :=
  OpenClaim.holds_of_wide 6 Try.f6 rfl rfl rfl rfl rfl rfl rfl ⟨rfl, rfl, rfl, rfl, rfl⟩ rfl rfl rfl rfl rfl (by kernel_rfl) Try.func6 closed
    (of_decide_eq_true (by kernel_rfl)) (by unfold Func.isWrapper; first | (rw [if_pos (by decide +kernel)]; kernel_rfl) | (rw [if_neg (by decide +kernel)]; exact ⟨rfl, rfl⟩))
    (fun os started H enc _ => lifted os started H enc)
theorem proved : Rows.FnExactEdgeEndSaid := over
#print axioms proved
end Go.Proofs.Ytcagjdngannneaa.fnExactEdgeEnd
namespace Go.Proofs.Ytcagjdngannneaa
/-- The row, under a short name, for the claim. -/
theorem fnExactEdgeEnd_holds : Rows.FnExactEdgeEndSaid := fnExactEdgeEnd.proved
end Go.Proofs.Ytcagjdngannneaa
