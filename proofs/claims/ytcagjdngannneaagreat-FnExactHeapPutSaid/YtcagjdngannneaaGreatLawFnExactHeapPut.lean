/- The row of FnExactHeapPut: for every input it returns true, and the input reads as before. Out of the walk and the plain law. -/
import Derived.Test.YtcagjdngannneaaGreatRows
import Derived.Test.YtcagjdngannneaaGreatUFnExactHeapPut
import Derived.Test.YtcagjdngannneaaGreatXs
import Derived.WalkKit
import Derived.ProofKit
import Derived.OpenShut
import Derived.ShutString
import Derived.ChangeOld
import Derived.Below
import Derived.SizedLaws
namespace Go.Proofs.YtcagjdngannneaaGreat.fnExactHeapPut
open Go.ChangeShapes Go.WideShapes Go.ChangeAt Go.RowKit
open Go.Proofs.YtcagjdngannneaaGreat Go.Proofs.YtcagjdngannneaaGreat.V
set_option linter.unusedVariables false
set_option linter.unusedSimpArgs false
theorem own : ownKnob Tryz.prog.godebug = none := by kernel_rfl
theorem laidOut : laidOutB Tryz.prog = true := by kernel_rfl
set_option maxHeartbeats 4000000 in
set_option maxRecDepth 100000 in
theorem lifted (os : Os) (started : os.Started) (H : Type) (enc : TypeId × Value → H) :
    ReturnsInHanded {} Tryz.checked os 5 .any (Rows.fnExactHeapPutSpec.pre6 enc Tryz.prog Tryz.f5 Rows.fnExactHeapPutRow.domain false) (Rows.fnExactHeapPutSpec.post enc Tryz.prog Tryz.f5 false true false false) := by
  refine returnsInHanded_of_change_sized (C := Tryz.checked) own started (by kernel_rfl) Tryz.func5
    (ChangeSpec.witness6 (enc := enc) (C := Tryz.checked) false ⟨#[], #[(.agg #[.slice none 0 0]), .int .i64 0, .int .i64 0, (.agg #[.int .i64 0, .int .i64 0, .int .i64 0, .int .i64 0, .float .f64 0, .slice none 0 0, .int .i64 0, .int .i64 0, .float .f64 0, .slice none 0 0]), .int .i64 0], []⟩ 8 (by kernel_rfl) (by kernel_rfl) (by kernel_rfl) (by kernel_rfl)) ?_
  intro W base args ds gs before hval0 hW hcnd hsz0 _
  have hval : ∀ (j : Nat) t v, Tryz.f5.params[j]? = some t → args[j]? = some v → Value.okWide Tryz.prog W .any base t v := hval0
  have hW' := hW
  obtain ⟨p, q, hA0, hV, rfl, hfz, hnd⟩ := hW
  have hA : DataW.TrodAll enc Tryz.prog W 0 (fun _ => true) true Tryz.f5.params.toList args.toList ds p := hA0
  rw [Tryz.params5] at hA hval
  obtain ⟨v0, vs0, d0, ds0, p0, q0, hargs, rfl, rfl, h0, r0⟩ := trodAll_cons hA
  obtain ⟨v1, vs1, d1, ds1, p1, q1, rfl, rfl, rfl, h1, r1⟩ := trodAll_cons r0
  obtain ⟨v2, vs2, d2, ds2, p2, q2, rfl, rfl, rfl, h2, r2⟩ := trodAll_cons r1
  obtain ⟨v3, vs3, d3, ds3, p3, q3, rfl, rfl, rfl, h3, r3⟩ := trodAll_cons r2
  obtain ⟨v4, vs4, d4, ds4, p4, q4, rfl, rfl, rfl, h4, r4⟩ := trodAll_cons r3
  obtain ⟨rfl, rfl, rfl⟩ := trodAll_nil r4
  obtain rfl : args = #[v0, v1, v2, v3, v4] := by cases args; simp_all
  obtain ⟨rfl, rfl⟩ := trodVars_none hV
  have k0 := h0
  have lt0 : ∀ x ∈ p0, x.block < W.heap.size := by obtain ⟨m, hm⟩ := k0; exact DataW.trod_lt m _ _ _ hm
  obtain ⟨fu0, f0⟩ := h0
  obtain ⟨a0, rd0, ok0⟩ := Opn.op tr42 f0
  obtain ⟨cs0, rfl, _⟩ := okWide_struct Tryz.underlying42 (hval 0 42 v0 rfl rfl)
  have cc0 := op42 (top_rd rd0)
  obtain ⟨u0_0, e0, g0_0⟩ := cc0
  obtain ⟨l0⟩ := cs0
  obtain rfl : l0 = _ := e0
  have k1 := h1
  have lt1 : ∀ x ∈ p1, x.block < W.heap.size := by obtain ⟨m, hm⟩ := k1; exact DataW.trod_lt m _ _ _ hm
  obtain ⟨fu1, f1⟩ := h1
  obtain ⟨a1, rd1, ok1⟩ := Opn.op (tr_int Tryz.underlying3) f1
  obtain ⟨n1, rfl⟩ := okWide_int Tryz.underlying3 (hval 1 3 v1 rfl rfl)
  obtain rfl : a1 = n1 := by have e : [_] = [_] := rd1; exact (by simpa using e : n1 = a1).symm
  have k2 := h2
  have lt2 : ∀ x ∈ p2, x.block < W.heap.size := by obtain ⟨m, hm⟩ := k2; exact DataW.trod_lt m _ _ _ hm
  obtain ⟨fu2, f2⟩ := h2
  obtain ⟨a2, rd2, ok2⟩ := Opn.op (tr_int Tryz.underlying3) f2
  obtain ⟨n2, rfl⟩ := okWide_int Tryz.underlying3 (hval 2 3 v2 rfl rfl)
  obtain rfl : a2 = n2 := by have e : [_] = [_] := rd2; exact (by simpa using e : n2 = a2).symm
  have k3 := h3
  have lt3 : ∀ x ∈ p3, x.block < W.heap.size := by obtain ⟨m, hm⟩ := k3; exact DataW.trod_lt m _ _ _ hm
  obtain ⟨fu3, f3⟩ := h3
  obtain ⟨a3, rd3, ok3⟩ := Opn.op tr54 f3
  obtain ⟨cs3, rfl, _⟩ := okWide_struct Tryz.underlying54 (hval 3 54 v3 rfl rfl)
  have cc3 := op54 (top_rd rd3)
  obtain ⟨u3_0, u3_1, u3_2, u3_3, e3, g3_0, g3_1, g3_2, g3_3⟩ := cc3
  obtain ⟨l3⟩ := cs3
  obtain rfl : l3 = _ := e3
  have k4 := h4
  have lt4 : ∀ x ∈ p4, x.block < W.heap.size := by obtain ⟨m, hm⟩ := k4; exact DataW.trod_lt m _ _ _ hm
  obtain ⟨fu4, f4⟩ := h4
  obtain ⟨a4, rd4, ok4⟩ := Opn.op (tr_int Tryz.underlying3) f4
  obtain ⟨n4, rfl⟩ := okWide_int Tryz.underlying3 (hval 4 3 v4 rfl rfl)
  obtain rfl : a4 = n4 := by have e : [_] = [_] := rd4; exact (by simpa using e : n4 = a4).symm
  clear hA0 hval0 hsz0
  refine (laws_FnExactHeapPut.calls a0 a1 a2 a3 a4 W (fun _ => True) _ _ _ _ _ (rd_top g0_0) (fl_rd g3_0) (rd_top g3_1) (fl_rd g3_2) (rd_top g3_3) true (laws_FnExactHeapPut_true a0 a1 a2 a3 a4 ok0 ok1 ok2 ok3 ok4)).mono fun e W' ⟨v, he, hQ⟩ => ?_
  obtain ⟨rfl, ky⟩ := hQ
  subst he
  have bel := ky.below
  exact ⟨_, rfl, _, _, _, [], _, [], hW', trodAll_mk1 (shut_bool Tryz.underlying4 _), (trodAll_cons_mk (Below.trod laidOut (by kernel_rfl) (of_decide_eq_true (by kernel_rfl)) k0 bel lt0) (trodAll_cons_mk (Below.trod laidOut (by kernel_rfl) (of_decide_eq_true (by kernel_rfl)) k1 bel lt1) (trodAll_cons_mk (Below.trod laidOut (by kernel_rfl) (of_decide_eq_true (by kernel_rfl)) k2 bel lt2) (trodAll_cons_mk (Below.trod laidOut (by kernel_rfl) (of_decide_eq_true (by kernel_rfl)) k3 bel lt3) (trodAll_cons_mk (Below.trod laidOut (by kernel_rfl) (of_decide_eq_true (by kernel_rfl)) k4 bel lt4) trodAll_mk0))))), rfl, bel.frame _, fun h => by cases h⟩
theorem and2 {a b : Bool} (x : a = true) (y : b = true) : (a && b) = true := by subst x; subst y; rfl
set_option maxHeartbeats 40000000 in
set_option maxRecDepth 100000 in
theorem closed : joinedFacts Tryz.checked.prog 5 Tryz.f5 Rows.fnExactHeapPutSpec Rows.fnExactHeapPutRow = true := by
  unfold joinedFacts
  iterate 31 (refine and2 ?_ (by as_aux_lemma => kernel_rfl))
  as_aux_lemma => kernel_rfl
theorem over : Rows.fnExactHeapPutRow.holds Tryz.pinned (OpenSpec.ofChange Rows.fnExactHeapPutSpec) :=
  OpenClaim.holds_of_wide 5 Tryz.f5 rfl rfl rfl rfl rfl rfl rfl ⟨rfl, rfl, rfl, rfl, rfl⟩ rfl rfl rfl rfl rfl (by kernel_rfl) Tryz.func5 closed
    (of_decide_eq_true (by kernel_rfl)) (by unfold Func.isWrapper; first | (rw [if_pos (by decide +kernel)]; kernel_rfl) | (rw [if_neg (by decide +kernel)]; exact ⟨rfl, rfl⟩))
    (fun os started H enc _ => lifted os started H enc)
theorem proved : Rows.FnExactHeapPutSaid := over
#print axioms proved
end Go.Proofs.YtcagjdngannneaaGreat.fnExactHeapPut
namespace Go.Proofs.YtcagjdngannneaaGreat
/-- The row, under a short name, for the claim. -/
theorem fnExactHeapPut_holds : Rows.FnExactHeapPutSaid := fnExactHeapPut.proved
end Go.Proofs.YtcagjdngannneaaGreat
