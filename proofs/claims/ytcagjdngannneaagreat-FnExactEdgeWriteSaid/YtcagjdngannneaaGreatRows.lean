/-
  No cell of these rows narrows 'for every input' (looked for: loops, veiled, ifaces, maps, wideKeys, modest, calm, conditions, laid).
  DERIVED. THE GIVEN ROWS OF THIS SEAT. 7 by the template 'for every input the law returns true; each argument reads behind the call as it read before'; 0 by the template 'total and deterministic' (their statements: YtcagjdngannneaaGreatTotals.lean).
  GIVEN WITH THE SEED: the statements are not yours to turn. If you find one false, say at which input.
  Laid BY PROGRAM, IN A SANDBOX (cutbox-rows.mjs): the forced cells as the released guide's own fill.sh prints them over the translation eebc926c47fd7f62… (all of the seat's roots in one cut). By AI agents, Wed Nov 11 2026. No macro, syntax, notation, axiom, sorry.
-/
import Derived.Test.YtcagjdngannneaaGreatChecked
import GoSem.Claim
import GoSem.ClaimJoined
import GoSem.ClaimMapViews
import Derived.JoinedTies
import Derived.KernelRfl
namespace Go.Proofs.YtcagjdngannneaaGreat
/- THE CELL 'sum', in the pinned program and in every row, IS THE sha256 OF THE DUMP (.gsa) THAT YtcagjdngannneaaGreatProg.lean LOADS. Nothing in Lean hashes anything: it is a label: what it is worth is what the hold of that sum in a sandbox is worth. -/
noncomputable def Tryz.pinned : Pinned := { name := "ytcagjdngannneaagreat", sum := "eebc926c47fd7f62fbb89583e9b7d93d95186918c574046b6bc1066f44c6bb14", checked := Tryz.checked }
namespace Rows
def none {H : Type} : Left H := { results := [], args := [] }

/-- 'laws.FnExactEdgeWrite': WHATEVER THE INPUT: true; the input reads as it did. -/
def fnExactEdgeWriteSpec : ChangeSpec := { name := "fnExactEdgeWrite", fn := fun _ => fun
  | [d1, d2, d3] => { results := [.lit (.bool true)], args := [d1, d2, d3] }
  | _ => none }
def fnExactEdgeWriteRow : OpenClaim := { program := "ytcagjdngannneaagreat", sum := "eebc926c47fd7f62fbb89583e9b7d93d95186918c574046b6bc1066f44c6bb14", func := "loop.example/g00252/laws.FnExactEdgeWrite", spec := "fnExactEdgeWrite", inPlace := ["math.Float64bits", "internal/bytealg.Compare"], unfollowed := true, recurses := true, apart := false }
def FnExactEdgeWriteSaid : Prop := fnExactEdgeWriteRow.holds Tryz.pinned (OpenSpec.ofChange fnExactEdgeWriteSpec)

/-- ITS FALSE NEIGHBOUR: 'it returns false'. Refute it at one input. -/
def fnExactEdgeWriteWrong : ChangeSpec := { name := "fnExactEdgeWrite", fn := fun _ => fun
  | [d1, d2, d3] => { results := [.lit (.bool false)], args := [d1, d2, d3] }
  | _ => none }
def FnExactEdgeWriteWrongFalsely : Prop := fnExactEdgeWriteRow.holds Tryz.pinned (OpenSpec.ofChange fnExactEdgeWriteWrong)

/-- 'laws.FnExactHeapMark': WHATEVER THE INPUT: true; the input reads as it did. -/
def fnExactHeapMarkSpec : ChangeSpec := { name := "fnExactHeapMark", fn := fun _ => fun
  | [d1, d2, d3, d4, d5] => { results := [.lit (.bool true)], args := [d1, d2, d3, d4, d5] }
  | _ => none }
def fnExactHeapMarkRow : OpenClaim := { program := "ytcagjdngannneaagreat", sum := "eebc926c47fd7f62fbb89583e9b7d93d95186918c574046b6bc1066f44c6bb14", func := "loop.example/g00252/laws.FnExactHeapMark", spec := "fnExactHeapMark", inPlace := ["math.Float64frombits", "math.Float64bits"], unfollowed := true, recurses := true, apart := false }
def FnExactHeapMarkSaid : Prop := fnExactHeapMarkRow.holds Tryz.pinned (OpenSpec.ofChange fnExactHeapMarkSpec)

/-- ITS FALSE NEIGHBOUR: 'it returns false'. Refute it at one input. -/
def fnExactHeapMarkWrong : ChangeSpec := { name := "fnExactHeapMark", fn := fun _ => fun
  | [d1, d2, d3, d4, d5] => { results := [.lit (.bool false)], args := [d1, d2, d3, d4, d5] }
  | _ => none }
def FnExactHeapMarkWrongFalsely : Prop := fnExactHeapMarkRow.holds Tryz.pinned (OpenSpec.ofChange fnExactHeapMarkWrong)

/-- 'laws.FnExactHeapPut': WHATEVER THE INPUT: true; the input reads as it did. -/
def fnExactHeapPutSpec : ChangeSpec := { name := "fnExactHeapPut", fn := fun _ => fun
  | [d1, d2, d3, d4, d5] => { results := [.lit (.bool true)], args := [d1, d2, d3, d4, d5] }
  | _ => none }
def fnExactHeapPutRow : OpenClaim := { program := "ytcagjdngannneaagreat", sum := "eebc926c47fd7f62fbb89583e9b7d93d95186918c574046b6bc1066f44c6bb14", func := "loop.example/g00252/laws.FnExactHeapPut", spec := "fnExactHeapPut", inPlace := ["math.Float64frombits", "math.Float64bits"], unfollowed := true, recurses := true, apart := false }
def FnExactHeapPutSaid : Prop := fnExactHeapPutRow.holds Tryz.pinned (OpenSpec.ofChange fnExactHeapPutSpec)

/-- ITS FALSE NEIGHBOUR: 'it returns false'. Refute it at one input. -/
def fnExactHeapPutWrong : ChangeSpec := { name := "fnExactHeapPut", fn := fun _ => fun
  | [d1, d2, d3, d4, d5] => { results := [.lit (.bool false)], args := [d1, d2, d3, d4, d5] }
  | _ => none }
def FnExactHeapPutWrongFalsely : Prop := fnExactHeapPutRow.holds Tryz.pinned (OpenSpec.ofChange fnExactHeapPutWrong)

/-- 'laws.FnExactTreeAdd': WHATEVER THE INPUT: true; the input reads as it did. -/
def fnExactTreeAddSpec : ChangeSpec := { name := "fnExactTreeAdd", fn := fun _ => fun
  | [d1, d2, d3] => { results := [.lit (.bool true)], args := [d1, d2, d3] }
  | _ => none }
def fnExactTreeAddRow : OpenClaim := { program := "ytcagjdngannneaagreat", sum := "eebc926c47fd7f62fbb89583e9b7d93d95186918c574046b6bc1066f44c6bb14", func := "loop.example/g00252/laws.FnExactTreeAdd", spec := "fnExactTreeAdd", inPlace := ["math.Float64bits", "internal/bytealg.Compare", "slices.overlaps[loop.example/g00252/impl.Entry]", "slices.overlaps[int]"], unfollowed := true, recurses := true, apart := false }
def FnExactTreeAddSaid : Prop := fnExactTreeAddRow.holds Tryz.pinned (OpenSpec.ofChange fnExactTreeAddSpec)

/-- ITS FALSE NEIGHBOUR: 'it returns false'. Refute it at one input. -/
def fnExactTreeAddWrong : ChangeSpec := { name := "fnExactTreeAdd", fn := fun _ => fun
  | [d1, d2, d3] => { results := [.lit (.bool false)], args := [d1, d2, d3] }
  | _ => none }
def FnExactTreeAddWrongFalsely : Prop := fnExactTreeAddRow.holds Tryz.pinned (OpenSpec.ofChange fnExactTreeAddWrong)

/-- 'laws.FnExactGraphEdges': WHATEVER THE INPUT: true; the input reads as it did. -/
def fnExactGraphEdgesSpec : ChangeSpec := { name := "fnExactGraphEdges", fn := fun _ => fun
  | [d] => { results := [.lit (.bool true)], args := [d] }
  | _ => none }
def fnExactGraphEdgesRow : OpenClaim := { program := "ytcagjdngannneaagreat", sum := "eebc926c47fd7f62fbb89583e9b7d93d95186918c574046b6bc1066f44c6bb14", func := "loop.example/g00252/laws.FnExactGraphEdges", spec := "fnExactGraphEdges", inPlace := ["math.Float64bits", "internal/bytealg.Compare"], unfollowed := true, recurses := true, apart := false }
def FnExactGraphEdgesSaid : Prop := fnExactGraphEdgesRow.holds Tryz.pinned (OpenSpec.ofChange fnExactGraphEdgesSpec)

/-- ITS FALSE NEIGHBOUR: 'it returns false'. Refute it at one input. -/
def fnExactGraphEdgesWrong : ChangeSpec := { name := "fnExactGraphEdges", fn := fun _ => fun
  | [d] => { results := [.lit (.bool false)], args := [d] }
  | _ => none }
def FnExactGraphEdgesWrongFalsely : Prop := fnExactGraphEdgesRow.holds Tryz.pinned (OpenSpec.ofChange fnExactGraphEdgesWrong)

/-- 'laws.FnExactRedoOne': WHATEVER THE INPUT: true; the input reads as it did. -/
def fnExactRedoOneSpec : ChangeSpec := { name := "fnExactRedoOne", fn := fun _ => fun
  | [d1, d2] => { results := [.lit (.bool true)], args := [d1, d2] }
  | _ => none }
def fnExactRedoOneRow : OpenClaim := { program := "ytcagjdngannneaagreat", sum := "eebc926c47fd7f62fbb89583e9b7d93d95186918c574046b6bc1066f44c6bb14", func := "loop.example/g00252/laws.FnExactRedoOne", spec := "fnExactRedoOne", inPlace := ["math.Float64frombits", "math.Float64bits"], unfollowed := true, recurses := true, apart := false }
def FnExactRedoOneSaid : Prop := fnExactRedoOneRow.holds Tryz.pinned (OpenSpec.ofChange fnExactRedoOneSpec)

/-- ITS FALSE NEIGHBOUR: 'it returns false'. Refute it at one input. -/
def fnExactRedoOneWrong : ChangeSpec := { name := "fnExactRedoOne", fn := fun _ => fun
  | [d1, d2] => { results := [.lit (.bool false)], args := [d1, d2] }
  | _ => none }
def FnExactRedoOneWrongFalsely : Prop := fnExactRedoOneRow.holds Tryz.pinned (OpenSpec.ofChange fnExactRedoOneWrong)

/-- 'laws.FnExactRedoAll': WHATEVER THE INPUT: true; the input reads as it did. -/
def fnExactRedoAllSpec : ChangeSpec := { name := "fnExactRedoAll", fn := fun _ => fun
  | [d1, d2] => { results := [.lit (.bool true)], args := [d1, d2] }
  | _ => none }
def fnExactRedoAllRow : OpenClaim := { program := "ytcagjdngannneaagreat", sum := "eebc926c47fd7f62fbb89583e9b7d93d95186918c574046b6bc1066f44c6bb14", func := "loop.example/g00252/laws.FnExactRedoAll", spec := "fnExactRedoAll", inPlace := ["math.Float64frombits", "math.Float64bits"], unfollowed := true, recurses := true, apart := false }
def FnExactRedoAllSaid : Prop := fnExactRedoAllRow.holds Tryz.pinned (OpenSpec.ofChange fnExactRedoAllSpec)

/-- ITS FALSE NEIGHBOUR: 'it returns false'. Refute it at one input. -/
def fnExactRedoAllWrong : ChangeSpec := { name := "fnExactRedoAll", fn := fun _ => fun
  | [d1, d2] => { results := [.lit (.bool false)], args := [d1, d2] }
  | _ => none }
def FnExactRedoAllWrongFalsely : Prop := fnExactRedoAllRow.holds Tryz.pinned (OpenSpec.ofChange fnExactRedoAllWrong)

/- THE SECOND FORM. 'bulk': how many values and letters a reading holds, each counted each time it is reached (what is shared counts as often as it is met; a slice's spare places count too). A statement '..UptoSaid' is the law's where the arguments, and the package variables that the reading takes, are together of bulk at most 1048576: NARROWER than '..Said'. Prove '..Said' where nothing that the law and all that it calls make is longer than what came in: it says more and counts as full. Else prove '..UptoSaid'. A law counts once. -/
mutual
def uptoBulk {H : Type} : DataW H → Nat
  | .lit (.string bytes) => bytes.length + 1
  | .lit _ => 1
  | .nil => 1
  | .ptr d => uptoBulk d + 1
  | .slice elems spare => uptoBulkAll elems + uptoBulkAll spare + 1
  | .agg parts => uptoBulkAll parts + 1
  | .iface _ d => uptoBulk d + 1
  | .map entries => uptoBulkEntries entries + 1
  | .held _ => 1
def uptoBulkAll {H : Type} : List (DataW H) → Nat
  | [] => 0
  | d :: r => uptoBulk d + uptoBulkAll r
def uptoBulkEntries {H : Type} : List (Lit × DataW H) → Nat
  | [] => 0
  | x :: r => uptoBulkEntry x + uptoBulkEntries r
def uptoBulkEntry {H : Type} : Lit × DataW H → Nat
  | (.string bytes, d) => bytes.length + uptoBulk d + 1
  | (_, d) => uptoBulk d + 1
 end
def uptoSmall : (H : Type) → List (DataW H) → Bool := fun _ ds => decide (uptoBulkAll ds ≤ 1048576)
def OpenSpec.upto (s : _root_.Go.ChangeSpec) : _root_.Go.OpenSpec := { _root_.Go.OpenSpec.ofChange s with cond := some uptoSmall }

/-- 'laws.FnExactEdgeWrite', WHERE WHAT IT READS IS OF BULK AT MOST 1048576: true; the input reads as it did. -/
def fnExactEdgeWriteUptoRow : OpenClaim := { program := "ytcagjdngannneaagreat", sum := "eebc926c47fd7f62fbb89583e9b7d93d95186918c574046b6bc1066f44c6bb14", func := "loop.example/g00252/laws.FnExactEdgeWrite", spec := "fnExactEdgeWrite", inPlace := ["math.Float64bits", "internal/bytealg.Compare"], unfollowed := true, recurses := true, apart := false, narrowed := true }
def FnExactEdgeWriteUptoSaid : Prop := fnExactEdgeWriteUptoRow.holds Tryz.pinned (OpenSpec.upto fnExactEdgeWriteSpec)

/-- 'laws.FnExactHeapMark', WHERE WHAT IT READS IS OF BULK AT MOST 1048576: true; the input reads as it did. -/
def fnExactHeapMarkUptoRow : OpenClaim := { program := "ytcagjdngannneaagreat", sum := "eebc926c47fd7f62fbb89583e9b7d93d95186918c574046b6bc1066f44c6bb14", func := "loop.example/g00252/laws.FnExactHeapMark", spec := "fnExactHeapMark", inPlace := ["math.Float64frombits", "math.Float64bits"], unfollowed := true, recurses := true, apart := false, narrowed := true }
def FnExactHeapMarkUptoSaid : Prop := fnExactHeapMarkUptoRow.holds Tryz.pinned (OpenSpec.upto fnExactHeapMarkSpec)

/-- 'laws.FnExactHeapPut', WHERE WHAT IT READS IS OF BULK AT MOST 1048576: true; the input reads as it did. -/
def fnExactHeapPutUptoRow : OpenClaim := { program := "ytcagjdngannneaagreat", sum := "eebc926c47fd7f62fbb89583e9b7d93d95186918c574046b6bc1066f44c6bb14", func := "loop.example/g00252/laws.FnExactHeapPut", spec := "fnExactHeapPut", inPlace := ["math.Float64frombits", "math.Float64bits"], unfollowed := true, recurses := true, apart := false, narrowed := true }
def FnExactHeapPutUptoSaid : Prop := fnExactHeapPutUptoRow.holds Tryz.pinned (OpenSpec.upto fnExactHeapPutSpec)

/-- 'laws.FnExactTreeAdd', WHERE WHAT IT READS IS OF BULK AT MOST 1048576: true; the input reads as it did. -/
def fnExactTreeAddUptoRow : OpenClaim := { program := "ytcagjdngannneaagreat", sum := "eebc926c47fd7f62fbb89583e9b7d93d95186918c574046b6bc1066f44c6bb14", func := "loop.example/g00252/laws.FnExactTreeAdd", spec := "fnExactTreeAdd", inPlace := ["math.Float64bits", "internal/bytealg.Compare", "slices.overlaps[loop.example/g00252/impl.Entry]", "slices.overlaps[int]"], unfollowed := true, recurses := true, apart := false, narrowed := true }
def FnExactTreeAddUptoSaid : Prop := fnExactTreeAddUptoRow.holds Tryz.pinned (OpenSpec.upto fnExactTreeAddSpec)

/-- 'laws.FnExactGraphEdges', WHERE WHAT IT READS IS OF BULK AT MOST 1048576: true; the input reads as it did. -/
def fnExactGraphEdgesUptoRow : OpenClaim := { program := "ytcagjdngannneaagreat", sum := "eebc926c47fd7f62fbb89583e9b7d93d95186918c574046b6bc1066f44c6bb14", func := "loop.example/g00252/laws.FnExactGraphEdges", spec := "fnExactGraphEdges", inPlace := ["math.Float64bits", "internal/bytealg.Compare"], unfollowed := true, recurses := true, apart := false, narrowed := true }
def FnExactGraphEdgesUptoSaid : Prop := fnExactGraphEdgesUptoRow.holds Tryz.pinned (OpenSpec.upto fnExactGraphEdgesSpec)

/-- 'laws.FnExactRedoOne', WHERE WHAT IT READS IS OF BULK AT MOST 1048576: true; the input reads as it did. -/
def fnExactRedoOneUptoRow : OpenClaim := { program := "ytcagjdngannneaagreat", sum := "eebc926c47fd7f62fbb89583e9b7d93d95186918c574046b6bc1066f44c6bb14", func := "loop.example/g00252/laws.FnExactRedoOne", spec := "fnExactRedoOne", inPlace := ["math.Float64frombits", "math.Float64bits"], unfollowed := true, recurses := true, apart := false, narrowed := true }
def FnExactRedoOneUptoSaid : Prop := fnExactRedoOneUptoRow.holds Tryz.pinned (OpenSpec.upto fnExactRedoOneSpec)

/-- 'laws.FnExactRedoAll', WHERE WHAT IT READS IS OF BULK AT MOST 1048576: true; the input reads as it did. -/
def fnExactRedoAllUptoRow : OpenClaim := { program := "ytcagjdngannneaagreat", sum := "eebc926c47fd7f62fbb89583e9b7d93d95186918c574046b6bc1066f44c6bb14", func := "loop.example/g00252/laws.FnExactRedoAll", spec := "fnExactRedoAll", inPlace := ["math.Float64frombits", "math.Float64bits"], unfollowed := true, recurses := true, apart := false, narrowed := true }
def FnExactRedoAllUptoSaid : Prop := fnExactRedoAllUptoRow.holds Tryz.pinned (OpenSpec.upto fnExactRedoAllSpec)

end Rows
end Go.Proofs.YtcagjdngannneaaGreat
