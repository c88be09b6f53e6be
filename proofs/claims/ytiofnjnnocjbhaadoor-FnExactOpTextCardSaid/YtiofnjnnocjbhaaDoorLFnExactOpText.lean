/- The row of FnExactOpText: for every input it returns true, and the input reads as before. Out of the walk and the plain law. -/
import Derived.Test.YtiofnjnnocjbhaaDoorRows
import Derived.Test.YtiofnjnnocjbhaaDoorHFnExactOpText
import Derived.Test.YtiofnjnnocjbhaaDoorGs
import Derived.Test.YtiofnjnnocjbhaaDoorCards
import Derived.Test.YtiofnjnnocjbhaaDoorTie
import Derived.WalkKit
import Derived.ProofKit
import Derived.OpenShut
import Derived.ShutString
import Derived.ChangeOld
import Derived.Below
import Derived.SizedLaws
import Derived.Handy
import Derived.Lay
import Derived.LaidMore
import Derived.SevenTiedAt
import Derived.Stop.Joined
import Derived.Stop.LaidErr
import Derived.Lib.LaidTab
namespace Go.Proofs.YtiofnjnnocjbhaaDoor.fnExactOpText
open Go.ChangeShapes Go.WideShapes Go.ChangeAt Go.RowKit
open Go.Proofs.YtiofnjnnocjbhaaDoor Go.Proofs.YtiofnjnnocjbhaaDoor.V
set_option linter.unusedVariables false
set_option linter.unusedSimpArgs false
theorem own : ownKnob Tryd.prog.godebug = none := by kernel_rfl
theorem laidOut : laidOutB Tryd.prog = true := by kernel_rfl
theorem gotTab {W : World} (h : laidMet Tryd.prog Rows.fnExactOpTextRow.laid W) : Lib.TabIs Tryd.prog W "internal/strconv.uint64pow10" .u64 Lib.pow10Tab :=
  Lib.tabIs_of_head (rest := Rows.fnExactOpTextRow.laid.drop 3) hTab (by kernel_rfl : (Tryd.prog.globals[gTab]?).map (·.type) = some 140) Tryd.underlying140 Tryd.underlying65 (by kernel_rfl) (by kernel_rfl : Tryd.prog.cellsOf 140 = 20) h.tail.tail
theorem got {W : World} (h0 : laidMetH Tryd.prog Rows.fnExactOpTextRow.laid W) : GT.rd W [] () (fun _ => True) := by
  rw [MakeChecks.laidMetH_plain _ _ _ (by kernel_rfl)] at h0
  have ht := gotTab h0
  exact ⟨rfl, ht, fun b hb => by simp at hb; subst hb; exact ⟨trivial, var_lt hTab ht⟩⟩
set_option maxHeartbeats 4000000 in
set_option maxRecDepth 100000 in
theorem lifted (os : Os) (started : os.Started) (H : Type) (enc : TypeId × Value → H) :
    ReturnsInHanded {} Tryd.checked os 5 .any (fun w args => (Rows.fnExactOpTextSpec.pre enc Tryd.prog Tryd.f5 [] false w args ∧ laidMetH Tryd.prog Rows.fnExactOpTextRow.laid w) ∧ sizedMet enc Tryd.prog Tryd.f5 (OpenSpec.ofChange Rows.fnExactOpTextSpec) false w args) (Rows.fnExactOpTextSpec.post enc Tryd.prog Tryd.f5 false true false false) := by
  refine returnsInHanded_of_change_and (C := Tryd.checked) (X := fun w _ => laidMetH Tryd.prog Rows.fnExactOpTextRow.laid w) (fun _ _ _ hh h => h.of_heap hh) own started (by kernel_rfl) Tryd.func5
    (ChangeSpec.witness_shaped (enc := enc) (C := Tryd.checked) (os := os) (X := fun w _ => laidMetH Tryd.prog Rows.fnExactOpTextRow.laid w) false (World.laidAll Tryd.prog os Rows.fnExactOpTextRow.laid) #[(.agg #[.int .i64 0, .int .i64 0, .int .i64 0, .int .i64 0, .int .i64 0, .int .i64 0, .float .f64 0, .slice none 0 0, .int .i64 0, .int .i64 0, .float .f64 0, .slice none 0 0, .int .i64 0, .int .i64 0, .float .f64 0, .slice none 0 0, .slice none 0 0])] 8 (World.laidAll_os _ _ _)
      (World.shaped_of_ZipB (by kernel_rfl) (by kernel_rfl)) (by kernel_rfl) (by kernel_rfl) (by kernel_rfl)
      (by rw [MakeChecks.laidMetH_plain _ _ _ (by kernel_rfl)]; exact laidMet_laidAll _ (by kernel_rfl) (by kernel_rfl))) ?_
  intro W base args ds gs before hval0 hW hcnd hsz0 hL _
  have hval : ∀ (j : Nat) t v, Tryd.f5.params[j]? = some t → args[j]? = some v → Value.okWide Tryd.prog W .any base t v := hval0
  have hW' := hW
  obtain ⟨p, q, hA0, hV, rfl, hfz, hnd⟩ := hW
  have hA : DataW.TrodAll enc Tryd.prog W 0 (fun _ => true) true Tryd.f5.params.toList args.toList ds p := hA0
  rw [Tryd.params5] at hA hval
  obtain ⟨v0, vs0, d0, ds0, p0, q0, hargs, rfl, rfl, h0, r0⟩ := trodAll_cons hA
  obtain ⟨rfl, rfl, rfl⟩ := trodAll_nil r0
  obtain rfl : args = #[v0] := by cases args; simp_all
  obtain ⟨rfl, rfl⟩ := trodVars_none hV
  have k0 := h0
  have lt0 : ∀ x ∈ p0, x.block < W.heap.size := by obtain ⟨m, hm⟩ := k0; exact DataW.trod_lt m _ _ _ hm
  obtain ⟨fu0, f0⟩ := h0
  obtain ⟨a0, rd0, ok0⟩ := Opn.op tr49 f0
  obtain ⟨cs0, rfl, _⟩ := okWide_struct Tryd.underlying49 (hval 0 49 v0 rfl rfl)
  have cc0 := op49 (top_rd rd0)
  obtain ⟨u0_0, u0_1, u0_2, u0_3, u0_4, u0_5, u0_6, e0, g0_0, g0_1, g0_2, g0_3, g0_4, g0_5, g0_6⟩ := cc0
  obtain ⟨l0⟩ := cs0
  obtain rfl : l0 = _ := e0
  clear hA0 hval0 hsz0
  refine (laws_FnExactOpText.calls a0 W (fun _ => True) _ _ _ _ _ _ _ (got hL) (fl_rd g0_0) (rd_top g0_1) (fl_rd g0_2) (rd_top g0_3) (fl_rd g0_4) (rd_top g0_5) (rd_top g0_6) true (laws_FnExactOpText_true a0 ok0)).mono fun e W' ⟨v, he, hQ⟩ => ?_
  obtain ⟨rfl, ky⟩ := hQ
  subst he
  have bel := ky.below
  exact ⟨_, rfl, _, _, _, [], _, [], hW', trodAll_mk1 (shut_bool Tryd.underlying4 _), (trodAll_cons_mk (Below.trod laidOut (by kernel_rfl) (of_decide_eq_true (by kernel_rfl)) k0 bel lt0) trodAll_mk0), rfl, bel.frame _, fun h => by cases h⟩
theorem and2 {a b : Bool} (x : a = true) (y : b = true) : (a && b) = true := by subst x; subst y; rfl
set_option maxHeartbeats 40000000 in
set_option maxRecDepth 100000 in
theorem closed : joinedFacts Tryd.checked.prog 5 Tryd.f5 Rows.fnExactOpTextSpec Rows.fnExactOpTextRow = true := by
  unfold joinedFacts
  iterate 31 (refine and2 ?_ (by as_aux_lemma => kernel_rfl))
  as_aux_lemma => kernel_rfl
theorem over : Rows.fnExactOpTextRow.holds Tryd.pinned (OpenSpec.ofChange Rows.fnExactOpTextSpec) :=
  OpenClaim.holds_of_wide 5 Tryd.f5 rfl rfl rfl rfl rfl rfl rfl ⟨rfl, rfl, rfl, rfl, rfl⟩ rfl rfl rfl rfl rfl (by kernel_rfl) Tryd.func5 closed
    (of_decide_eq_true (by kernel_rfl)) (by unfold Func.isWrapper; first | (rw [if_pos (by decide +kernel)]; kernel_rfl) | (rw [if_neg (by decide +kernel)]; exact ⟨rfl, rfl⟩))
    (fun os started H enc _ => lifted os started H enc)
theorem proved : Rows.FnExactOpTextSaid := over
theorem plain (g : FuncId) (fn : Func) (hf : Tryd.pinned.checked.prog.funcNamed Rows.fnExactOpTextRow.func = some g) (hfn : Tryd.pinned.checked.prog.funcs[g]? = some fn) :
    true = Tryd.pinned.checked.prog.looks [] ∧ ∀ (j : Nat) t, fn.params[j]? = some t → Tryd.pinned.checked.prog.wantsStandIn t = false := by
  obtain rfl : g = 5 := Option.some.inj ((show Tryd.prog.funcNamed Rows.fnExactOpTextRow.func = some 5 by kernel_rfl).symm.trans hf) |>.symm
  obtain rfl : fn = Tryd.f5 := (Option.some.inj (Tryd.func5.symm.trans hfn)).symm
  refine ⟨by kernel_rfl, fun j t ht => ?_⟩
  rw [Tryd.params5] at ht
  have hm : t ∈ [49] := by simpa using Array.mem_of_getElem? ht
  have hall : ([49].all fun u => !Tryd.prog.wantsStandIn u) = true := by kernel_rfl
  exact (show Tryd.prog.wantsStandIn t = false by simpa using List.all_eq_true.1 hall t hm)
theorem card : Rows.FnExactOpTextCardSaid :=
  Claim7.holds_tied_plain_at .later [] _ _ _ _ proved (fun _ h => by cases h) (by kernel_rfl) (fun _ h => by cases h) fnExactOpText_row_tie rfl ⟨rfl, rfl⟩ (by kernel_rfl) rfl plain (by kernel_rfl)
#print axioms card
end Go.Proofs.YtiofnjnnocjbhaaDoor.fnExactOpText
namespace Go.Proofs.YtiofnjnnocjbhaaDoor
/-- The row, under a short name, for the claim. -/
theorem fnExactOpText_holds : Rows.FnExactOpTextCardSaid := fnExactOpText.card
end Go.Proofs.YtiofnjnnocjbhaaDoor
