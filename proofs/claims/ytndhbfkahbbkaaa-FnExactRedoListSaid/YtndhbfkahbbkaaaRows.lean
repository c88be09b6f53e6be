/-
  No cell of these rows narrows 'for every input' (looked for: loops, veiled, ifaces, maps, wideKeys, modest, calm, conditions, laid).
  DERIVED. THE GIVEN ROWS OF THIS SEAT. 4 by the template 'for every input the law returns true; each argument reads behind the call as it read before'; 0 by the template 'total and deterministic' (their statements: YtndhbfkahbbkaaaTotals.lean).
  GIVEN WITH THE SEED: the statements are not yours to turn. If you find one false, say at which input.
  Laid BY PROGRAM, IN A SANDBOX (cutbox-rows.mjs): the forced cells as the released guide's own fill.sh prints them over the translation 39b19f3e7d5b8330… (all of the seat's roots in one cut). By AI agents, Wed Nov 11 2026. No macro, syntax, notation, axiom, sorry.
-/
import Derived.Test.YtndhbfkahbbkaaaChecked
import GoSem.Claim
import GoSem.ClaimJoined
import GoSem.ClaimMapViews
import Derived.JoinedTies
import Derived.KernelRfl
namespace Go.Proofs.Ytndhbfkahbbkaaa
/- THE CELL 'sum', in the pinned program and in every row, IS THE sha256 OF THE DUMP (.gsa) THAT YtndhbfkahbbkaaaProg.lean LOADS. Nothing in Lean hashes anything: it is a label: what it is worth is what the hold of that sum in a sandbox is worth. -/
noncomputable def Try.pinned : Pinned := { name := "ytndhbfkahbbkaaa", sum := "39b19f3e7d5b8330796d1b67ed61362db7061e3e48185099531582c9ae829fe3", checked := Try.checked }
namespace Rows
def none {H : Type} : Left H := { results := [], args := [] }

/-- 'laws.FnExactControlBytes': WHATEVER THE INPUT: true; the input reads as it did. -/
def fnExactControlBytesSpec : ChangeSpec := { name := "fnExactControlBytes", fn := fun _ => fun
  | [d] => { results := [.lit (.bool true)], args := [d] }
  | _ => none }
def fnExactControlBytesRow : OpenClaim := { program := "ytndhbfkahbbkaaa", sum := "39b19f3e7d5b8330796d1b67ed61362db7061e3e48185099531582c9ae829fe3", func := "loop.example/g00252/laws.FnExactControlBytes", spec := "fnExactControlBytes", apart := false }
def FnExactControlBytesSaid : Prop := fnExactControlBytesRow.holds Try.pinned (OpenSpec.ofChange fnExactControlBytesSpec)

/-- ITS FALSE NEIGHBOUR: 'it returns false'. Refute it at one input. -/
def fnExactControlBytesWrong : ChangeSpec := { name := "fnExactControlBytes", fn := fun _ => fun
  | [d] => { results := [.lit (.bool false)], args := [d] }
  | _ => none }
def FnExactControlBytesWrongFalsely : Prop := fnExactControlBytesRow.holds Try.pinned (OpenSpec.ofChange fnExactControlBytesWrong)

/-- 'laws.FnControls': WHATEVER THE INPUT: true; the input reads as it did. -/
def fnControlsSpec : ChangeSpec := { name := "fnControls", fn := fun _ => fun
  | [d] => { results := [.lit (.bool true)], args := [d] }
  | _ => none }
def fnControlsRow : OpenClaim := { program := "ytndhbfkahbbkaaa", sum := "39b19f3e7d5b8330796d1b67ed61362db7061e3e48185099531582c9ae829fe3", func := "loop.example/g00252/laws.FnControls", spec := "fnControls", apart := false }
def FnControlsSaid : Prop := fnControlsRow.holds Try.pinned (OpenSpec.ofChange fnControlsSpec)

/-- ITS FALSE NEIGHBOUR: 'it returns false'. Refute it at one input. -/
def fnControlsWrong : ChangeSpec := { name := "fnControls", fn := fun _ => fun
  | [d] => { results := [.lit (.bool false)], args := [d] }
  | _ => none }
def FnControlsWrongFalsely : Prop := fnControlsRow.holds Try.pinned (OpenSpec.ofChange fnControlsWrong)

/-- 'laws.FnExactControlRead': WHATEVER THE INPUT: true; the input reads as it did. -/
def fnExactControlReadSpec : ChangeSpec := { name := "fnExactControlRead", fn := fun _ => fun
  | [d] => { results := [.lit (.bool true)], args := [d] }
  | _ => none }
def fnExactControlReadRow : OpenClaim := { program := "ytndhbfkahbbkaaa", sum := "39b19f3e7d5b8330796d1b67ed61362db7061e3e48185099531582c9ae829fe3", func := "loop.example/g00252/laws.FnExactControlRead", spec := "fnExactControlRead", apart := false }
def FnExactControlReadSaid : Prop := fnExactControlReadRow.holds Try.pinned (OpenSpec.ofChange fnExactControlReadSpec)

/-- ITS FALSE NEIGHBOUR: 'it returns false'. Refute it at one input. -/
def fnExactControlReadWrong : ChangeSpec := { name := "fnExactControlRead", fn := fun _ => fun
  | [d] => { results := [.lit (.bool false)], args := [d] }
  | _ => none }
def FnExactControlReadWrongFalsely : Prop := fnExactControlReadRow.holds Try.pinned (OpenSpec.ofChange fnExactControlReadWrong)

/-- 'laws.FnExactRedoList': WHATEVER THE INPUT: true; the input reads as it did. -/
def fnExactRedoListSpec : ChangeSpec := { name := "fnExactRedoList", fn := fun _ => fun
  | [d1, d2, d3] => { results := [.lit (.bool true)], args := [d1, d2, d3] }
  | _ => none }
def fnExactRedoListRow : OpenClaim := { program := "ytndhbfkahbbkaaa", sum := "39b19f3e7d5b8330796d1b67ed61362db7061e3e48185099531582c9ae829fe3", func := "loop.example/g00252/laws.FnExactRedoList", spec := "fnExactRedoList", unfollowed := true, recurses := true, apart := false }
def FnExactRedoListSaid : Prop := fnExactRedoListRow.holds Try.pinned (OpenSpec.ofChange fnExactRedoListSpec)

/-- ITS FALSE NEIGHBOUR: 'it returns false'. Refute it at one input. -/
def fnExactRedoListWrong : ChangeSpec := { name := "fnExactRedoList", fn := fun _ => fun
  | [d1, d2, d3] => { results := [.lit (.bool false)], args := [d1, d2, d3] }
  | _ => none }
def FnExactRedoListWrongFalsely : Prop := fnExactRedoListRow.holds Try.pinned (OpenSpec.ofChange fnExactRedoListWrong)

/- THE SECOND FORM. 'bulk': how many values and letters a reading holds, each counted each time it is reached (what is shared counts as often as it is met; a slice's spare places count too). A statement '..UptoSaid' is the law's where the arguments, and the package variables that the reading takes, are together of bulk at most 1048576: NARROWER than '..Said'. Prove '..Said' where nothing that the law and all that it calls make is longer than what came in: it says more and counts as full. Else prove '..UptoSaid'. A law counts once. -/
mutual
def uptoBulk {H : Type} : DataW H → Nat
  | .lit (.string bytes) => bytes.length + 1
  | .lit _ => 1
  | .nil => 1
  | .ptr d => uptoBulk d + 1
  | .slice elems spare => uptoBulkAll elems + uptoBulkAll spare + 1
  | .agg parts => uptoBulkAll parts + 1
  | .iface _ d => uptoBulk d + 1
  | .map entries => uptoBulkEntries entries + 1
  | .held _ => 1
def uptoBulkAll {H : Type} : List (DataW H) → Nat
  | [] => 0
  | d :: r => uptoBulk d + uptoBulkAll r
def uptoBulkEntries {H : Type} : List (Lit × DataW H) → Nat
  | [] => 0
  | x :: r => uptoBulkEntry x + uptoBulkEntries r
def uptoBulkEntry {H : Type} : Lit × DataW H → Nat
  | (.string bytes, d) => bytes.length + uptoBulk d + 1
  | (_, d) => uptoBulk d + 1
 end
def uptoSmall : (H : Type) → List (DataW H) → Bool := fun _ ds => decide (uptoBulkAll ds ≤ 1048576)
def OpenSpec.upto (s : _root_.Go.ChangeSpec) : _root_.Go.OpenSpec := { _root_.Go.OpenSpec.ofChange s with cond := some uptoSmall }

/-- 'laws.FnExactControlBytes', WHERE WHAT IT READS IS OF BULK AT MOST 1048576: true; the input reads as it did. -/
def fnExactControlBytesUptoRow : OpenClaim := { program := "ytndhbfkahbbkaaa", sum := "39b19f3e7d5b8330796d1b67ed61362db7061e3e48185099531582c9ae829fe3", func := "loop.example/g00252/laws.FnExactControlBytes", spec := "fnExactControlBytes", apart := false, narrowed := true }
def FnExactControlBytesUptoSaid : Prop := fnExactControlBytesUptoRow.holds Try.pinned (OpenSpec.upto fnExactControlBytesSpec)

/-- 'laws.FnControls', WHERE WHAT IT READS IS OF BULK AT MOST 1048576: true; the input reads as it did. -/
def fnControlsUptoRow : OpenClaim := { program := "ytndhbfkahbbkaaa", sum := "39b19f3e7d5b8330796d1b67ed61362db7061e3e48185099531582c9ae829fe3", func := "loop.example/g00252/laws.FnControls", spec := "fnControls", apart := false, narrowed := true }
def FnControlsUptoSaid : Prop := fnControlsUptoRow.holds Try.pinned (OpenSpec.upto fnControlsSpec)

/-- 'laws.FnExactControlRead', WHERE WHAT IT READS IS OF BULK AT MOST 1048576: true; the input reads as it did. -/
def fnExactControlReadUptoRow : OpenClaim := { program := "ytndhbfkahbbkaaa", sum := "39b19f3e7d5b8330796d1b67ed61362db7061e3e48185099531582c9ae829fe3", func := "loop.example/g00252/laws.FnExactControlRead", spec := "fnExactControlRead", apart := false, narrowed := true }
def FnExactControlReadUptoSaid : Prop := fnExactControlReadUptoRow.holds Try.pinned (OpenSpec.upto fnExactControlReadSpec)

/-- 'laws.FnExactRedoList', WHERE WHAT IT READS IS OF BULK AT MOST 1048576: true; the input reads as it did. -/
def fnExactRedoListUptoRow : OpenClaim := { program := "ytndhbfkahbbkaaa", sum := "39b19f3e7d5b8330796d1b67ed61362db7061e3e48185099531582c9ae829fe3", func := "loop.example/g00252/laws.FnExactRedoList", spec := "fnExactRedoList", unfollowed := true, recurses := true, apart := false, narrowed := true }
def FnExactRedoListUptoSaid : Prop := fnExactRedoListUptoRow.holds Try.pinned (OpenSpec.upto fnExactRedoListSpec)

end Rows
end Go.Proofs.Ytndhbfkahbbkaaa
