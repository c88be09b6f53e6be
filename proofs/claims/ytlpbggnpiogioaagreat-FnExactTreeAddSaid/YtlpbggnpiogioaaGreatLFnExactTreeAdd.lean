/- The row of FnExactTreeAdd: for every input it returns true, and the input reads as before. Out of the walk and the plain law. -/
import Derived.Test.YtlpbggnpiogioaaGreatRows
import Derived.Test.YtlpbggnpiogioaaGreatHFnExactTreeAdd
import Derived.Test.YtlpbggnpiogioaaGreatGs
import Derived.WalkKit
import Derived.ProofKit
import Derived.OpenShut
import Derived.ShutString
import Derived.ChangeOld
import Derived.Below
import Derived.SizedLaws
namespace Go.Proofs.YtlpbggnpiogioaaGreat.fnExactTreeAdd
open Go.ChangeShapes Go.WideShapes Go.ChangeAt Go.RowKit
open Go.Proofs.YtlpbggnpiogioaaGreat Go.Proofs.YtlpbggnpiogioaaGreat.V
set_option linter.unusedVariables false
set_option linter.unusedSimpArgs false
theorem own : ownKnob Tryz.prog.godebug = none := by kernel_rfl
theorem laidOut : laidOutB Tryz.prog = true := by kernel_rfl
set_option maxHeartbeats 4000000 in
set_option maxRecDepth 100000 in
theorem lifted (os : Os) (started : os.Started) (H : Type) (enc : TypeId × Value → H) :
    ReturnsInHanded {} Tryz.checked os 3 .any (Rows.fnExactTreeAddSpec.pre6 enc Tryz.prog Tryz.f3 Rows.fnExactTreeAddRow.domain false) (Rows.fnExactTreeAddSpec.post enc Tryz.prog Tryz.f3 false true false false) := by
  refine returnsInHanded_of_change_sized (C := Tryz.checked) own started (by kernel_rfl) Tryz.func3
    (ChangeSpec.witness6 (enc := enc) (C := Tryz.checked) false ⟨#[], #[(.agg #[.slice none 0 0, .int .i64 0]), (.agg #[.int .i64 0, .int .i64 0, .float .f64 0, .slice none 0 0]), .int .i64 0], []⟩ 8 (by kernel_rfl) (by kernel_rfl) (by kernel_rfl) (by kernel_rfl)) ?_
  intro W base args ds gs before hval0 hW hcnd hsz0 _
  have hval : ∀ (j : Nat) t v, Tryz.f3.params[j]? = some t → args[j]? = some v → Value.okWide Tryz.prog W .any base t v := hval0
  have hW' := hW
  obtain ⟨p, q, hA0, hV, rfl, hfz, hnd⟩ := hW
  have hA : DataW.TrodAll enc Tryz.prog W 0 (fun _ => true) true Tryz.f3.params.toList args.toList ds p := hA0
  rw [Tryz.params3] at hA hval
  obtain ⟨v0, vs0, d0, ds0, p0, q0, hargs, rfl, rfl, h0, r0⟩ := trodAll_cons hA
  obtain ⟨v1, vs1, d1, ds1, p1, q1, rfl, rfl, rfl, h1, r1⟩ := trodAll_cons r0
  obtain ⟨v2, vs2, d2, ds2, p2, q2, rfl, rfl, rfl, h2, r2⟩ := trodAll_cons r1
  obtain ⟨rfl, rfl, rfl⟩ := trodAll_nil r2
  obtain rfl : args = #[v0, v1, v2] := by cases args; simp_all
  obtain ⟨rfl, rfl⟩ := trodVars_none hV
  have k0 := h0
  have lt0 : ∀ x ∈ p0, x.block < W.heap.size := by obtain ⟨m, hm⟩ := k0; exact DataW.trod_lt m _ _ _ hm
  obtain ⟨fu0, f0⟩ := h0
  obtain ⟨a0, rd0, ok0⟩ := Opn.op tr24 f0
  obtain ⟨cs0, rfl, _⟩ := okWide_struct Tryz.underlying24 (hval 0 24 v0 rfl rfl)
  have cc0 := op24 (top_rd rd0)
  obtain ⟨u0_0, e0, g0_0⟩ := cc0
  obtain ⟨l0⟩ := cs0
  obtain rfl : l0 = _ := e0
  have k1 := h1
  have lt1 : ∀ x ∈ p1, x.block < W.heap.size := by obtain ⟨m, hm⟩ := k1; exact DataW.trod_lt m _ _ _ hm
  obtain ⟨fu1, f1⟩ := h1
  obtain ⟨a1, rd1, ok1⟩ := Opn.op tr28 f1
  obtain ⟨cs1, rfl, _⟩ := okWide_struct Tryz.underlying28 (hval 1 28 v1 rfl rfl)
  have cc1 := op28 (top_rd rd1)
  obtain ⟨u1_0, u1_1, e1, g1_0, g1_1⟩ := cc1
  obtain ⟨l1⟩ := cs1
  obtain rfl : l1 = _ := e1
  have k2 := h2
  have lt2 : ∀ x ∈ p2, x.block < W.heap.size := by obtain ⟨m, hm⟩ := k2; exact DataW.trod_lt m _ _ _ hm
  obtain ⟨fu2, f2⟩ := h2
  obtain ⟨a2, rd2, ok2⟩ := Opn.op (tr_int Tryz.underlying3) f2
  obtain ⟨n2, rfl⟩ := okWide_int Tryz.underlying3 (hval 2 3 v2 rfl rfl)
  obtain rfl : a2 = n2 := by have e : [_] = [_] := rd2; exact (by simpa using e : n2 = a2).symm
  clear hA0 hval0 hsz0
  refine (laws_FnExactTreeAdd.calls a0 a1 a2 W (fun _ => True) _ _ _ (rd_top g0_0) (fl_rd g1_0) (rd_top g1_1) true (laws_FnExactTreeAdd_true a0 a1 a2 ok0 ok1 ok2)).mono fun e W' ⟨v, he, hQ⟩ => ?_
  obtain ⟨rfl, ky⟩ := hQ
  subst he
  have bel := ky.below
  exact ⟨_, rfl, _, _, _, [], _, [], hW', trodAll_mk1 (shut_bool Tryz.underlying4 _), (trodAll_cons_mk (Below.trod laidOut (by kernel_rfl) (of_decide_eq_true (by kernel_rfl)) k0 bel lt0) (trodAll_cons_mk (Below.trod laidOut (by kernel_rfl) (of_decide_eq_true (by kernel_rfl)) k1 bel lt1) (trodAll_cons_mk (Below.trod laidOut (by kernel_rfl) (of_decide_eq_true (by kernel_rfl)) k2 bel lt2) trodAll_mk0))), rfl, bel.frame _, fun h => by cases h⟩
theorem and2 {a b : Bool} (x : a = true) (y : b = true) : (a && b) = true := by subst x; subst y; rfl
set_option maxHeartbeats 40000000 in
set_option maxRecDepth 100000 in
theorem closed : joinedFacts Tryz.checked.prog 3 Tryz.f3 Rows.fnExactTreeAddSpec Rows.fnExactTreeAddRow = true := by
  unfold joinedFacts
  iterate 31 (refine and2 ?_ (by as_aux_lemma => kernel_rfl))
  as_aux_lemma => kernel_rfl
theorem over : Rows.fnExactTreeAddRow.holds Tryz.pinned (OpenSpec.ofChange Rows.fnExactTreeAddSpec) :=
  OpenClaim.holds_of_wide 3 Tryz.f3 rfl rfl rfl rfl rfl rfl rfl ⟨rfl, rfl, rfl, rfl, rfl⟩ rfl rfl rfl rfl rfl (by kernel_rfl) Tryz.func3 closed
    (of_decide_eq_true (by kernel_rfl)) (by unfold Func.isWrapper; first | (rw [if_pos (by decide +kernel)]; kernel_rfl) | (rw [if_neg (by decide +kernel)]; exact ⟨rfl, rfl⟩))
    (fun os started H enc _ => lifted os started H enc)
theorem proved : Rows.FnExactTreeAddSaid := over
#print axioms proved
end Go.Proofs.YtlpbggnpiogioaaGreat.fnExactTreeAdd
namespace Go.Proofs.YtlpbggnpiogioaaGreat
/-- The row, under a short name, for the claim. -/
theorem fnExactTreeAdd_holds : Rows.FnExactTreeAddSaid := fnExactTreeAdd.proved
end Go.Proofs.YtlpbggnpiogioaaGreat
