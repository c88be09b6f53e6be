/-
  No cell of these rows narrows 'for every input' (looked for: loops, veiled, ifaces, maps, wideKeys, modest, calm, conditions, laid).
  DERIVED. THE GIVEN ROWS OF THIS SEAT. 6 by the template 'for every input the law returns true; each argument reads behind the call as it read before'; 0 by the template 'total and deterministic' (their statements: YtegicanjlefmdaaGreatTotals.lean).
  GIVEN WITH THE SEED: the statements are not yours to turn. If you find one false, say at which input.
  Laid BY PROGRAM, IN A SANDBOX (cutbox-rows.mjs): the forced cells as the released guide's own fill.sh prints them over the translation cb184882fa08f5d7… (all of the seat's roots in one cut). By AI agents, Wed Nov 11 2026. No macro, syntax, notation, axiom, sorry.
-/
import Derived.Test.YtegicanjlefmdaaGreatChecked
import GoSem.Claim
import GoSem.ClaimJoined
import GoSem.ClaimMapViews
import Derived.JoinedTies
import Derived.KernelRfl
namespace Go.Proofs.YtegicanjlefmdaaGreat
/- THE CELL 'sum', in the pinned program and in every row, IS THE sha256 OF THE DUMP (.gsa) THAT YtegicanjlefmdaaGreatProg.lean LOADS. Nothing in Lean hashes anything: it is a label: what it is worth is what the hold of that sum in a sandbox is worth. -/
noncomputable def Tryz.pinned : Pinned := { name := "ytegicanjlefmdaagreat", sum := "cb184882fa08f5d7beb2f2871f87631745c0cdaf9293e59d4db9d2771506a6d2", checked := Tryz.checked }
namespace Rows
def none {H : Type} : Left H := { results := [], args := [] }

/-- 'laws.FnHeaps': WHATEVER THE INPUT: true; the input reads as it did. -/
def fnHeapsSpec : ChangeSpec := { name := "fnHeaps", fn := fun _ => fun
  | [d] => { results := [.lit (.bool true)], args := [d] }
  | _ => none }
def fnHeapsRow : OpenClaim := { program := "ytegicanjlefmdaagreat", sum := "cb184882fa08f5d7beb2f2871f87631745c0cdaf9293e59d4db9d2771506a6d2", func := "loop.example/g00252/laws.FnHeaps", spec := "fnHeaps", inPlace := ["math.Float64frombits", "math.Float64bits"], unfollowed := true, recurses := true, apart := false }
def FnHeapsSaid : Prop := fnHeapsRow.holds Tryz.pinned (OpenSpec.ofChange fnHeapsSpec)

/-- ITS FALSE NEIGHBOUR: 'it returns false'. Refute it at one input. -/
def fnHeapsWrong : ChangeSpec := { name := "fnHeaps", fn := fun _ => fun
  | [d] => { results := [.lit (.bool false)], args := [d] }
  | _ => none }
def FnHeapsWrongFalsely : Prop := fnHeapsRow.holds Tryz.pinned (OpenSpec.ofChange fnHeapsWrong)

/-- 'laws.FnVersions': WHATEVER THE INPUT: true; the input reads as it did. -/
def fnVersionsSpec : ChangeSpec := { name := "fnVersions", fn := fun _ => fun
  | [d] => { results := [.lit (.bool true)], args := [d] }
  | _ => none }
def fnVersionsRow : OpenClaim := { program := "ytegicanjlefmdaagreat", sum := "cb184882fa08f5d7beb2f2871f87631745c0cdaf9293e59d4db9d2771506a6d2", func := "loop.example/g00252/laws.FnVersions", spec := "fnVersions", inPlace := ["math.Float64bits", "internal/bytealg.Compare", "math.Float64frombits"], unfollowed := true, recurses := true, apart := false }
def FnVersionsSaid : Prop := fnVersionsRow.holds Tryz.pinned (OpenSpec.ofChange fnVersionsSpec)

/-- ITS FALSE NEIGHBOUR: 'it returns false'. Refute it at one input. -/
def fnVersionsWrong : ChangeSpec := { name := "fnVersions", fn := fun _ => fun
  | [d] => { results := [.lit (.bool false)], args := [d] }
  | _ => none }
def FnVersionsWrongFalsely : Prop := fnVersionsRow.holds Tryz.pinned (OpenSpec.ofChange fnVersionsWrong)

/-- 'laws.FnOrders': WHATEVER THE INPUT: true; the input reads as it did. -/
def fnOrdersSpec : ChangeSpec := { name := "fnOrders", fn := fun _ => fun
  | [d] => { results := [.lit (.bool true)], args := [d] }
  | _ => none }
def fnOrdersRow : OpenClaim := { program := "ytegicanjlefmdaagreat", sum := "cb184882fa08f5d7beb2f2871f87631745c0cdaf9293e59d4db9d2771506a6d2", func := "loop.example/g00252/laws.FnOrders", spec := "fnOrders", inPlace := ["math.Float64bits", "internal/bytealg.Compare"], unfollowed := true, recurses := true, apart := false }
def FnOrdersSaid : Prop := fnOrdersRow.holds Tryz.pinned (OpenSpec.ofChange fnOrdersSpec)

/-- ITS FALSE NEIGHBOUR: 'it returns false'. Refute it at one input. -/
def fnOrdersWrong : ChangeSpec := { name := "fnOrders", fn := fun _ => fun
  | [d] => { results := [.lit (.bool false)], args := [d] }
  | _ => none }
def FnOrdersWrongFalsely : Prop := fnOrdersRow.holds Tryz.pinned (OpenSpec.ofChange fnOrdersWrong)

/-- 'laws.FnExactRedoOne': WHATEVER THE INPUT: true; the input reads as it did. -/
def fnExactRedoOneSpec : ChangeSpec := { name := "fnExactRedoOne", fn := fun _ => fun
  | [d1, d2] => { results := [.lit (.bool true)], args := [d1, d2] }
  | _ => none }
def fnExactRedoOneRow : OpenClaim := { program := "ytegicanjlefmdaagreat", sum := "cb184882fa08f5d7beb2f2871f87631745c0cdaf9293e59d4db9d2771506a6d2", func := "loop.example/g00252/laws.FnExactRedoOne", spec := "fnExactRedoOne", inPlace := ["math.Float64frombits", "math.Float64bits"], unfollowed := true, recurses := true, apart := false }
def FnExactRedoOneSaid : Prop := fnExactRedoOneRow.holds Tryz.pinned (OpenSpec.ofChange fnExactRedoOneSpec)

/-- ITS FALSE NEIGHBOUR: 'it returns false'. Refute it at one input. -/
def fnExactRedoOneWrong : ChangeSpec := { name := "fnExactRedoOne", fn := fun _ => fun
  | [d1, d2] => { results := [.lit (.bool false)], args := [d1, d2] }
  | _ => none }
def FnExactRedoOneWrongFalsely : Prop := fnExactRedoOneRow.holds Tryz.pinned (OpenSpec.ofChange fnExactRedoOneWrong)

/-- 'laws.FnExactRedoAll': WHATEVER THE INPUT: true; the input reads as it did. -/
def fnExactRedoAllSpec : ChangeSpec := { name := "fnExactRedoAll", fn := fun _ => fun
  | [d1, d2] => { results := [.lit (.bool true)], args := [d1, d2] }
  | _ => none }
def fnExactRedoAllRow : OpenClaim := { program := "ytegicanjlefmdaagreat", sum := "cb184882fa08f5d7beb2f2871f87631745c0cdaf9293e59d4db9d2771506a6d2", func := "loop.example/g00252/laws.FnExactRedoAll", spec := "fnExactRedoAll", inPlace := ["math.Float64frombits", "math.Float64bits"], unfollowed := true, recurses := true, apart := false }
def FnExactRedoAllSaid : Prop := fnExactRedoAllRow.holds Tryz.pinned (OpenSpec.ofChange fnExactRedoAllSpec)

/-- ITS FALSE NEIGHBOUR: 'it returns false'. Refute it at one input. -/
def fnExactRedoAllWrong : ChangeSpec := { name := "fnExactRedoAll", fn := fun _ => fun
  | [d1, d2] => { results := [.lit (.bool false)], args := [d1, d2] }
  | _ => none }
def FnExactRedoAllWrongFalsely : Prop := fnExactRedoAllRow.holds Tryz.pinned (OpenSpec.ofChange fnExactRedoAllWrong)

/-- 'laws.FnExactCommitted': WHATEVER THE INPUT: true; the input reads as it did. -/
def fnExactCommittedSpec : ChangeSpec := { name := "fnExactCommitted", fn := fun _ => fun
  | [d1, d2] => { results := [.lit (.bool true)], args := [d1, d2] }
  | _ => none }
def fnExactCommittedRow : OpenClaim := { program := "ytegicanjlefmdaagreat", sum := "cb184882fa08f5d7beb2f2871f87631745c0cdaf9293e59d4db9d2771506a6d2", func := "loop.example/g00252/laws.FnExactCommitted", spec := "fnExactCommitted", inPlace := ["math.Float64frombits", "math.Float64bits", "internal/bytealg.Compare"], unfollowed := true, recurses := true, apart := false }
def FnExactCommittedSaid : Prop := fnExactCommittedRow.holds Tryz.pinned (OpenSpec.ofChange fnExactCommittedSpec)

/-- ITS FALSE NEIGHBOUR: 'it returns false'. Refute it at one input. -/
def fnExactCommittedWrong : ChangeSpec := { name := "fnExactCommitted", fn := fun _ => fun
  | [d1, d2] => { results := [.lit (.bool false)], args := [d1, d2] }
  | _ => none }
def FnExactCommittedWrongFalsely : Prop := fnExactCommittedRow.holds Tryz.pinned (OpenSpec.ofChange fnExactCommittedWrong)

/- THE SECOND FORM. 'bulk': how many values and letters a reading holds, each counted each time it is reached (what is shared counts as often as it is met; a slice's spare places count too). A statement '..UptoSaid' is the law's where the arguments, and the package variables that the reading takes, are together of bulk at most 1048576: NARROWER than '..Said'. Prove '..Said' where nothing that the law and all that it calls make is longer than what came in: it says more and counts as full. Else prove '..UptoSaid'. A law counts once. -/
mutual
def uptoBulk {H : Type} : DataW H → Nat
  | .lit (.string bytes) => bytes.length + 1
  | .lit _ => 1
  | .nil => 1
  | .ptr d => uptoBulk d + 1
  | .slice elems spare => uptoBulkAll elems + uptoBulkAll spare + 1
  | .agg parts => uptoBulkAll parts + 1
  | .iface _ d => uptoBulk d + 1
  | .map entries => uptoBulkEntries entries + 1
  | .held _ => 1
def uptoBulkAll {H : Type} : List (DataW H) → Nat
  | [] => 0
  | d :: r => uptoBulk d + uptoBulkAll r
def uptoBulkEntries {H : Type} : List (Lit × DataW H) → Nat
  | [] => 0
  | x :: r => uptoBulkEntry x + uptoBulkEntries r
def uptoBulkEntry {H : Type} : Lit × DataW H → Nat
  | (.string bytes, d) => bytes.length + uptoBulk d + 1
  | (_, d) => uptoBulk d + 1
 end
def uptoSmall : (H : Type) → List (DataW H) → Bool := fun _ ds => decide (uptoBulkAll ds ≤ 1048576)
def OpenSpec.upto (s : _root_.Go.ChangeSpec) : _root_.Go.OpenSpec := { _root_.Go.OpenSpec.ofChange s with cond := some uptoSmall }

/-- 'laws.FnHeaps', WHERE WHAT IT READS IS OF BULK AT MOST 1048576: true; the input reads as it did. -/
def fnHeapsUptoRow : OpenClaim := { program := "ytegicanjlefmdaagreat", sum := "cb184882fa08f5d7beb2f2871f87631745c0cdaf9293e59d4db9d2771506a6d2", func := "loop.example/g00252/laws.FnHeaps", spec := "fnHeaps", inPlace := ["math.Float64frombits", "math.Float64bits"], unfollowed := true, recurses := true, apart := false, narrowed := true }
def FnHeapsUptoSaid : Prop := fnHeapsUptoRow.holds Tryz.pinned (OpenSpec.upto fnHeapsSpec)

/-- 'laws.FnVersions', WHERE WHAT IT READS IS OF BULK AT MOST 1048576: true; the input reads as it did. -/
def fnVersionsUptoRow : OpenClaim := { program := "ytegicanjlefmdaagreat", sum := "cb184882fa08f5d7beb2f2871f87631745c0cdaf9293e59d4db9d2771506a6d2", func := "loop.example/g00252/laws.FnVersions", spec := "fnVersions", inPlace := ["math.Float64bits", "internal/bytealg.Compare", "math.Float64frombits"], unfollowed := true, recurses := true, apart := false, narrowed := true }
def FnVersionsUptoSaid : Prop := fnVersionsUptoRow.holds Tryz.pinned (OpenSpec.upto fnVersionsSpec)

/-- 'laws.FnOrders', WHERE WHAT IT READS IS OF BULK AT MOST 1048576: true; the input reads as it did. -/
def fnOrdersUptoRow : OpenClaim := { program := "ytegicanjlefmdaagreat", sum := "cb184882fa08f5d7beb2f2871f87631745c0cdaf9293e59d4db9d2771506a6d2", func := "loop.example/g00252/laws.FnOrders", spec := "fnOrders", inPlace := ["math.Float64bits", "internal/bytealg.Compare"], unfollowed := true, recurses := true, apart := false, narrowed := true }
def FnOrdersUptoSaid : Prop := fnOrdersUptoRow.holds Tryz.pinned (OpenSpec.upto fnOrdersSpec)

/-- 'laws.FnExactRedoOne', WHERE WHAT IT READS IS OF BULK AT MOST 1048576: true; the input reads as it did. -/
def fnExactRedoOneUptoRow : OpenClaim := { program := "ytegicanjlefmdaagreat", sum := "cb184882fa08f5d7beb2f2871f87631745c0cdaf9293e59d4db9d2771506a6d2", func := "loop.example/g00252/laws.FnExactRedoOne", spec := "fnExactRedoOne", inPlace := ["math.Float64frombits", "math.Float64bits"], unfollowed := true, recurses := true, apart := false, narrowed := true }
def FnExactRedoOneUptoSaid : Prop := fnExactRedoOneUptoRow.holds Tryz.pinned (OpenSpec.upto fnExactRedoOneSpec)

/-- 'laws.FnExactRedoAll', WHERE WHAT IT READS IS OF BULK AT MOST 1048576: true; the input reads as it did. -/
def fnExactRedoAllUptoRow : OpenClaim := { program := "ytegicanjlefmdaagreat", sum := "cb184882fa08f5d7beb2f2871f87631745c0cdaf9293e59d4db9d2771506a6d2", func := "loop.example/g00252/laws.FnExactRedoAll", spec := "fnExactRedoAll", inPlace := ["math.Float64frombits", "math.Float64bits"], unfollowed := true, recurses := true, apart := false, narrowed := true }
def FnExactRedoAllUptoSaid : Prop := fnExactRedoAllUptoRow.holds Tryz.pinned (OpenSpec.upto fnExactRedoAllSpec)

/-- 'laws.FnExactCommitted', WHERE WHAT IT READS IS OF BULK AT MOST 1048576: true; the input reads as it did. -/
def fnExactCommittedUptoRow : OpenClaim := { program := "ytegicanjlefmdaagreat", sum := "cb184882fa08f5d7beb2f2871f87631745c0cdaf9293e59d4db9d2771506a6d2", func := "loop.example/g00252/laws.FnExactCommitted", spec := "fnExactCommitted", inPlace := ["math.Float64frombits", "math.Float64bits", "internal/bytealg.Compare"], unfollowed := true, recurses := true, apart := false, narrowed := true }
def FnExactCommittedUptoSaid : Prop := fnExactCommittedUptoRow.holds Tryz.pinned (OpenSpec.upto fnExactCommittedSpec)

end Rows
end Go.Proofs.YtegicanjlefmdaaGreat
