/- The row of FnExactItemRead: for every input it returns true, and the input reads as before. Out of the walk and the plain law. -/
import Derived.Test.YtiofnjnnocjbhaaDoorRows
import Derived.Test.YtiofnjnnocjbhaaDoorHFnExactItemRead
import Derived.Test.YtiofnjnnocjbhaaDoorGs
import Derived.Test.YtiofnjnnocjbhaaDoorCards
import Derived.Test.YtiofnjnnocjbhaaDoorTie
import Derived.WalkKit
import Derived.ProofKit
import Derived.OpenShut
import Derived.ShutString
import Derived.ChangeOld
import Derived.Below
import Derived.SizedLaws
import Derived.Handy
import Derived.Lay
import Derived.LaidMore
import Derived.SevenTiedAt
import Derived.Stop.Joined
import Derived.Stop.LaidErr
import Derived.Lib.LaidTab
namespace Go.Proofs.YtiofnjnnocjbhaaDoor.fnExactItemRead
open Go.ChangeShapes Go.WideShapes Go.ChangeAt Go.RowKit
open Go.Proofs.YtiofnjnnocjbhaaDoor Go.Proofs.YtiofnjnnocjbhaaDoor.V
set_option linter.unusedVariables false
set_option linter.unusedSimpArgs false
theorem own : ownKnob Tryd.prog.godebug = none := by kernel_rfl
theorem laidOut : laidOutB Tryd.prog = true := by kernel_rfl
theorem gotTab {W : World} (h : laidMet Tryd.prog Rows.fnExactItemReadRow.laid W) : Lib.TabIs Tryd.prog W "internal/strconv.uint64pow10" .u64 Lib.pow10Tab :=
  Lib.tabIs_of_head (rest := Rows.fnExactItemReadRow.laid.drop 3) hTab (by kernel_rfl : (Tryd.prog.globals[gTab]?).map (·.type) = some 140) Tryd.underlying140 Tryd.underlying65 (by kernel_rfl) (by kernel_rfl : Tryd.prog.cellsOf 140 = 20) h.tail.tail
theorem errStar : "*" ++ "errors.errorString" = "*errors.errorString" := by decide
theorem errRow (u : TypeId) (h : Tryd.prog.typeName? 3 u = some "*errors.errorString") : u = 147 :=
  typeName_ptr_named (nm := "errors.errorString") (by rw [errStar]; kernel_rfl) (by kernel_rfl) (by decide) u (by rw [errStar]; exact h)
theorem got {W : World} (h0 : laidMetH Tryd.prog Rows.fnExactItemReadRow.laid W) : GU.rd W [] () (fun _ => True) := by
  rw [MakeChecks.laidMetH_plain _ _ _ (by kernel_rfl)] at h0
  have ht := gotTab h0
  obtain ⟨aRng, sRng, hvRng, _⟩ := laid_sentinel (r := Rows.fnExactItemReadRow.laid.drop 4) h0.tail.tail.tail hRng (by kernel_rfl : (Tryd.prog.globals[gRng]?).map (·.type) = some 105) Tryd.underlying105 errRow Tryd.underlying147 Tryd.underlying149 rfl rfl Tryd.underlying9 (by kernel_rfl : Tryd.prog.cellsOf 149 = 1) (by kernel_rfl : Tryd.prog.cellsOf 9 = 1)
  obtain ⟨aSyn, sSyn, hvSyn, _⟩ := laid_sentinel (r := Rows.fnExactItemReadRow.laid.drop 5) h0.tail.tail.tail.tail hSyn (by kernel_rfl : (Tryd.prog.globals[gSyn]?).map (·.type) = some 105) Tryd.underlying105 errRow Tryd.underlying147 Tryd.underlying149 rfl rfl Tryd.underlying9 (by kernel_rfl : Tryd.prog.cellsOf 149 = 1) (by kernel_rfl : Tryd.prog.cellsOf 9 = 1)
  exact ⟨rfl, ⟨ht, ⟨_, _, hvSyn⟩, ⟨_, _, hvRng⟩⟩, fun b hb => by
    simp only [List.mem_cons, List.not_mem_nil, or_false] at hb
    rcases hb with rfl | rfl | rfl
    · exact ⟨trivial, var_lt hTab ht⟩
    · exact ⟨trivial, var_lt hSyn hvSyn⟩
    · exact ⟨trivial, var_lt hRng hvRng⟩⟩
set_option maxHeartbeats 4000000 in
set_option maxRecDepth 100000 in
theorem lifted (os : Os) (started : os.Started) (H : Type) (enc : TypeId × Value → H) :
    ReturnsInHanded {} Tryd.checked os 6 .any (fun w args => (Rows.fnExactItemReadSpec.pre enc Tryd.prog Tryd.f6 [] false w args ∧ laidMetH Tryd.prog Rows.fnExactItemReadRow.laid w) ∧ sizedMet enc Tryd.prog Tryd.f6 (OpenSpec.ofChange Rows.fnExactItemReadSpec) false w args) (Rows.fnExactItemReadSpec.post enc Tryd.prog Tryd.f6 false true false false) := by
  refine returnsInHanded_of_change_and (C := Tryd.checked) (X := fun w _ => laidMetH Tryd.prog Rows.fnExactItemReadRow.laid w) (fun _ _ _ hh h => h.of_heap hh) own started (by kernel_rfl) Tryd.func6
    (ChangeSpec.witness_shaped (enc := enc) (C := Tryd.checked) (os := os) (X := fun w _ => laidMetH Tryd.prog Rows.fnExactItemReadRow.laid w) false (World.laidAll Tryd.prog os Rows.fnExactItemReadRow.laid) #[.slice none 0 0] 8 (World.laidAll_os _ _ _)
      (World.shaped_of_ZipB (by kernel_rfl) (by kernel_rfl)) (by kernel_rfl) (by kernel_rfl) (by kernel_rfl)
      (by rw [MakeChecks.laidMetH_plain _ _ _ (by kernel_rfl)]; exact laidMet_laidAll _ (by kernel_rfl) (by kernel_rfl))) ?_
  intro W base args ds gs before hval0 hW hcnd hsz0 hL _
  have hval : ∀ (j : Nat) t v, Tryd.f6.params[j]? = some t → args[j]? = some v → Value.okWide Tryd.prog W .any base t v := hval0
  have hW' := hW
  obtain ⟨p, q, hA0, hV, rfl, hfz, hnd⟩ := hW
  have hA : DataW.TrodAll enc Tryd.prog W 0 (fun _ => true) true Tryd.f6.params.toList args.toList ds p := hA0
  rw [Tryd.params6] at hA hval
  obtain ⟨v0, vs0, d0, ds0, p0, q0, hargs, rfl, rfl, h0, r0⟩ := trodAll_cons hA
  obtain ⟨rfl, rfl, rfl⟩ := trodAll_nil r0
  obtain rfl : args = #[v0] := by cases args; simp_all
  obtain ⟨rfl, rfl⟩ := trodVars_none hV
  have k0 := h0
  have lt0 : ∀ x ∈ p0, x.block < W.heap.size := by obtain ⟨m, hm⟩ := k0; exact DataW.trod_lt m _ _ _ hm
  obtain ⟨fu0, f0⟩ := h0
  obtain ⟨a0, rd0, ok0⟩ := Opn.op (tr_sl (e' := 5) Tryd.underlying23 (by kernel_rfl) (tr_int Tryd.underlying5)) f0
  obtain ⟨A0, len0, cap0, rfl⟩ := okWide_slice Tryd.underlying23 (hval 0 23 v0 rfl rfl)
  clear hA0 hval0 hsz0
  refine (laws_FnExactItemRead.calls a0 W (fun _ => True) _ (got hL) rd0 true (laws_FnExactItemRead_true a0 ok0)).mono fun e W' ⟨v, he, hQ⟩ => ?_
  obtain ⟨rfl, ky⟩ := hQ
  subst he
  have bel := ky.below
  exact ⟨_, rfl, _, _, _, [], _, [], hW', trodAll_mk1 (shut_bool Tryd.underlying4 _), (trodAll_cons_mk (Below.trod laidOut (by kernel_rfl) (of_decide_eq_true (by kernel_rfl)) k0 bel lt0) trodAll_mk0), rfl, bel.frame _, fun h => by cases h⟩
theorem and2 {a b : Bool} (x : a = true) (y : b = true) : (a && b) = true := by subst x; subst y; rfl
set_option maxHeartbeats 40000000 in
set_option maxRecDepth 100000 in
theorem closed : joinedFacts Tryd.checked.prog 6 Tryd.f6 Rows.fnExactItemReadSpec Rows.fnExactItemReadRow = true := by
  unfold joinedFacts
  iterate 31 (refine and2 ?_ (by as_aux_lemma => kernel_rfl))
  as_aux_lemma => kernel_rfl
theorem over : Rows.fnExactItemReadRow.holds Tryd.pinned (OpenSpec.ofChange Rows.fnExactItemReadSpec) :=
  OpenClaim.holds_of_wide 6 Tryd.f6 rfl rfl rfl rfl rfl rfl rfl ⟨rfl, rfl, rfl, rfl, rfl⟩ rfl rfl rfl rfl rfl (by kernel_rfl) Tryd.func6 closed
    (of_decide_eq_true (by kernel_rfl)) (by unfold Func.isWrapper; first | (rw [if_pos (by decide +kernel)]; kernel_rfl) | (rw [if_neg (by decide +kernel)]; exact ⟨rfl, rfl⟩))
    (fun os started H enc _ => lifted os started H enc)
theorem proved : Rows.FnExactItemReadSaid := over
theorem plain (g : FuncId) (fn : Func) (hf : Tryd.pinned.checked.prog.funcNamed Rows.fnExactItemReadRow.func = some g) (hfn : Tryd.pinned.checked.prog.funcs[g]? = some fn) :
    true = Tryd.pinned.checked.prog.looks [] ∧ ∀ (j : Nat) t, fn.params[j]? = some t → Tryd.pinned.checked.prog.wantsStandIn t = false := by
  obtain rfl : g = 6 := Option.some.inj ((show Tryd.prog.funcNamed Rows.fnExactItemReadRow.func = some 6 by kernel_rfl).symm.trans hf) |>.symm
  obtain rfl : fn = Tryd.f6 := (Option.some.inj (Tryd.func6.symm.trans hfn)).symm
  refine ⟨by kernel_rfl, fun j t ht => ?_⟩
  rw [Tryd.params6] at ht
  have hm : t ∈ [23] := by simpa using Array.mem_of_getElem? ht
  have hall : ([23].all fun u => !Tryd.prog.wantsStandIn u) = true := by kernel_rfl
  exact (show Tryd.prog.wantsStandIn t = false by simpa using List.all_eq_true.1 hall t hm)
theorem card : Rows.FnExactItemReadCardSaid :=
  Claim7.holds_tied_plain_at .later [] _ _ _ _ proved (fun _ h => by cases h) (by kernel_rfl) (fun _ h => by cases h) fnExactItemRead_row_tie rfl ⟨rfl, rfl⟩ (by kernel_rfl) rfl plain (by kernel_rfl)
#print axioms card
end Go.Proofs.YtiofnjnnocjbhaaDoor.fnExactItemRead
namespace Go.Proofs.YtiofnjnnocjbhaaDoor
/-- The row, under a short name, for the claim. -/
theorem fnExactItemRead_holds : Rows.FnExactItemReadCardSaid := fnExactItemRead.card
end Go.Proofs.YtiofnjnnocjbhaaDoor
