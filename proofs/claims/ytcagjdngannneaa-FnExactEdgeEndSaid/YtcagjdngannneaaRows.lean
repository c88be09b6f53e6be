/-
  No cell of these rows narrows 'for every input' (looked for: loops, veiled, ifaces, maps, wideKeys, modest, calm, conditions, laid).
  DERIVED. THE GIVEN ROWS OF THIS SEAT. 5 by the template 'for every input the law returns true; each argument reads behind the call as it read before'; 0 by the template 'total and deterministic' (their statements: YtcagjdngannneaaTotals.lean).
  GIVEN WITH THE SEED: the statements are not yours to turn. If you find one false, say at which input.
  Laid BY PROGRAM, IN A SANDBOX (cutbox-rows.mjs): the forced cells as the released guide's own fill.sh prints them over the translation 0584b14cd43790a7… (all of the seat's roots in one cut). By AI agents, Wed Nov 11 2026. No macro, syntax, notation, axiom, sorry.
-/
import Derived.Test.YtcagjdngannneaaChecked
import GoSem.Claim
import GoSem.ClaimJoined
import GoSem.ClaimMapViews
import Derived.JoinedTies
import Derived.KernelRfl
namespace Go.Proofs.Ytcagjdngannneaa
/- THE CELL 'sum', in the pinned program and in every row, IS THE sha256 OF THE DUMP (.gsa) THAT YtcagjdngannneaaProg.lean LOADS. Nothing in Lean hashes anything: it is a label: what it is worth is what the hold of that sum in a sandbox is worth. -/
noncomputable def Try.pinned : Pinned := { name := "ytcagjdngannneaa", sum := "0584b14cd43790a73323711b8b5f14a796c78de310084f726fcd7780ff53faec", checked := Try.checked }
namespace Rows
def none {H : Type} : Left H := { results := [], args := [] }

/-- 'laws.FnExactGraphRing': WHATEVER THE INPUT: true; the input reads as it did. -/
def fnExactGraphRingSpec : ChangeSpec := { name := "fnExactGraphRing", fn := fun _ => fun
  | [d] => { results := [.lit (.bool true)], args := [d] }
  | _ => none }
def fnExactGraphRingRow : OpenClaim := { program := "ytcagjdngannneaa", sum := "0584b14cd43790a73323711b8b5f14a796c78de310084f726fcd7780ff53faec", func := "loop.example/g00252/laws.FnExactGraphRing", spec := "fnExactGraphRing", inPlace := ["math.Float64bits", "internal/bytealg.Compare"], unfollowed := true, recurses := true, apart := false }
def FnExactGraphRingSaid : Prop := fnExactGraphRingRow.holds Try.pinned (OpenSpec.ofChange fnExactGraphRingSpec)

/-- ITS FALSE NEIGHBOUR: 'it returns false'. Refute it at one input. -/
def fnExactGraphRingWrong : ChangeSpec := { name := "fnExactGraphRing", fn := fun _ => fun
  | [d] => { results := [.lit (.bool false)], args := [d] }
  | _ => none }
def FnExactGraphRingWrongFalsely : Prop := fnExactGraphRingRow.holds Try.pinned (OpenSpec.ofChange fnExactGraphRingWrong)

/-- 'laws.FnExactTreeDrop': WHATEVER THE INPUT: true; the input reads as it did. -/
def fnExactTreeDropSpec : ChangeSpec := { name := "fnExactTreeDrop", fn := fun _ => fun
  | [d1, d2, d3] => { results := [.lit (.bool true)], args := [d1, d2, d3] }
  | _ => none }
def fnExactTreeDropRow : OpenClaim := { program := "ytcagjdngannneaa", sum := "0584b14cd43790a73323711b8b5f14a796c78de310084f726fcd7780ff53faec", func := "loop.example/g00252/laws.FnExactTreeDrop", spec := "fnExactTreeDrop", inPlace := ["math.Float64bits", "internal/bytealg.Compare"], unfollowed := true, recurses := true, apart := false }
def FnExactTreeDropSaid : Prop := fnExactTreeDropRow.holds Try.pinned (OpenSpec.ofChange fnExactTreeDropSpec)

/-- ITS FALSE NEIGHBOUR: 'it returns false'. Refute it at one input. -/
def fnExactTreeDropWrong : ChangeSpec := { name := "fnExactTreeDrop", fn := fun _ => fun
  | [d1, d2, d3] => { results := [.lit (.bool false)], args := [d1, d2, d3] }
  | _ => none }
def FnExactTreeDropWrongFalsely : Prop := fnExactTreeDropRow.holds Try.pinned (OpenSpec.ofChange fnExactTreeDropWrong)

/-- 'laws.FnTracks': WHATEVER THE INPUT: true; the input reads as it did. -/
def fnTracksSpec : ChangeSpec := { name := "fnTracks", fn := fun _ => fun
  | [d] => { results := [.lit (.bool true)], args := [d] }
  | _ => none }
def fnTracksRow : OpenClaim := { program := "ytcagjdngannneaa", sum := "0584b14cd43790a73323711b8b5f14a796c78de310084f726fcd7780ff53faec", func := "loop.example/g00252/laws.FnTracks", spec := "fnTracks", inPlace := ["math.Float64bits", "internal/bytealg.Compare"], unfollowed := true, recurses := true, apart := false }
def FnTracksSaid : Prop := fnTracksRow.holds Try.pinned (OpenSpec.ofChange fnTracksSpec)

/-- ITS FALSE NEIGHBOUR: 'it returns false'. Refute it at one input. -/
def fnTracksWrong : ChangeSpec := { name := "fnTracks", fn := fun _ => fun
  | [d] => { results := [.lit (.bool false)], args := [d] }
  | _ => none }
def FnTracksWrongFalsely : Prop := fnTracksRow.holds Try.pinned (OpenSpec.ofChange fnTracksWrong)

/-- 'laws.FnExactEdgeEnd': WHATEVER THE INPUT: true; the input reads as it did. -/
def fnExactEdgeEndSpec : ChangeSpec := { name := "fnExactEdgeEnd", fn := fun _ => fun
  | [d1, d2, d3, d4] => { results := [.lit (.bool true)], args := [d1, d2, d3, d4] }
  | _ => none }
def fnExactEdgeEndRow : OpenClaim := { program := "ytcagjdngannneaa", sum := "0584b14cd43790a73323711b8b5f14a796c78de310084f726fcd7780ff53faec", func := "loop.example/g00252/laws.FnExactEdgeEnd", spec := "fnExactEdgeEnd", inPlace := ["math.Float64bits", "internal/bytealg.Compare"], unfollowed := true, recurses := true, apart := false }
def FnExactEdgeEndSaid : Prop := fnExactEdgeEndRow.holds Try.pinned (OpenSpec.ofChange fnExactEdgeEndSpec)

/-- ITS FALSE NEIGHBOUR: 'it returns false'. Refute it at one input. -/
def fnExactEdgeEndWrong : ChangeSpec := { name := "fnExactEdgeEnd", fn := fun _ => fun
  | [d1, d2, d3, d4] => { results := [.lit (.bool false)], args := [d1, d2, d3, d4] }
  | _ => none }
def FnExactEdgeEndWrongFalsely : Prop := fnExactEdgeEndRow.holds Try.pinned (OpenSpec.ofChange fnExactEdgeEndWrong)

/-- 'laws.FnExactEdgeRead': WHATEVER THE INPUT: true; the input reads as it did. -/
def fnExactEdgeReadSpec : ChangeSpec := { name := "fnExactEdgeRead", fn := fun _ => fun
  | [d1, d2, d3] => { results := [.lit (.bool true)], args := [d1, d2, d3] }
  | _ => none }
def fnExactEdgeReadRow : OpenClaim := { program := "ytcagjdngannneaa", sum := "0584b14cd43790a73323711b8b5f14a796c78de310084f726fcd7780ff53faec", func := "loop.example/g00252/laws.FnExactEdgeRead", spec := "fnExactEdgeRead", inPlace := ["math.Float64bits", "internal/bytealg.Compare"], unfollowed := true, recurses := true, apart := false }
def FnExactEdgeReadSaid : Prop := fnExactEdgeReadRow.holds Try.pinned (OpenSpec.ofChange fnExactEdgeReadSpec)

/-- ITS FALSE NEIGHBOUR: 'it returns false'. Refute it at one input. -/
def fnExactEdgeReadWrong : ChangeSpec := { name := "fnExactEdgeRead", fn := fun _ => fun
  | [d1, d2, d3] => { results := [.lit (.bool false)], args := [d1, d2, d3] }
  | _ => none }
def FnExactEdgeReadWrongFalsely : Prop := fnExactEdgeReadRow.holds Try.pinned (OpenSpec.ofChange fnExactEdgeReadWrong)

/- THE SECOND FORM. 'bulk': how many values and letters a reading holds, each counted each time it is reached (what is shared counts as often as it is met; a slice's spare places count too). A statement '..UptoSaid' is the law's where the arguments, and the package variables that the reading takes, are together of bulk at most 1048576: NARROWER than '..Said'. Prove '..Said' where nothing that the law and all that it calls make is longer than what came in: it says more and counts as full. Else prove '..UptoSaid'. A law counts once. -/
mutual
def uptoBulk {H : Type} : DataW H → Nat
  | .lit (.string bytes) => bytes.length + 1
  | .lit _ => 1
  | .nil => 1
  | .ptr d => uptoBulk d + 1
  | .slice elems spare => uptoBulkAll elems + uptoBulkAll spare + 1
  | .agg parts => uptoBulkAll parts + 1
  | .iface _ d => uptoBulk d + 1
  | .map entries => uptoBulkEntries entries + 1
  | .held _ => 1
def uptoBulkAll {H : Type} : List (DataW H) → Nat
  | [] => 0
  | d :: r => uptoBulk d + uptoBulkAll r
def uptoBulkEntries {H : Type} : List (Lit × DataW H) → Nat
  | [] => 0
  | x :: r => uptoBulkEntry x + uptoBulkEntries r
def uptoBulkEntry {H : Type} : Lit × DataW H → Nat
  | (.string bytes, d) => bytes.length + uptoBulk d + 1
  | (_, d) => uptoBulk d + 1
 end
def uptoSmall : (H : Type) → List (DataW H) → Bool := fun _ ds => decide (uptoBulkAll ds ≤ 1048576)
def OpenSpec.upto (s : _root_.Go.ChangeSpec) : _root_.Go.OpenSpec := { _root_.Go.OpenSpec.ofChange s with cond := some uptoSmall }

/-- 'laws.FnExactGraphRing', WHERE WHAT IT READS IS OF BULK AT MOST 1048576: true; the input reads as it did. -/
def fnExactGraphRingUptoRow : OpenClaim := { program := "ytcagjdngannneaa", sum := "0584b14cd43790a73323711b8b5f14a796c78de310084f726fcd7780ff53faec", func := "loop.example/g00252/laws.FnExactGraphRing", spec := "fnExactGraphRing", inPlace := ["math.Float64bits", "internal/bytealg.Compare"], unfollowed := true, recurses := true, apart := false, narrowed := true }
def FnExactGraphRingUptoSaid : Prop := fnExactGraphRingUptoRow.holds Try.pinned (OpenSpec.upto fnExactGraphRingSpec)

/-- 'laws.FnExactTreeDrop', WHERE WHAT IT READS IS OF BULK AT MOST 1048576: true; the input reads as it did. -/
def fnExactTreeDropUptoRow : OpenClaim := { program := "ytcagjdngannneaa", sum := "0584b14cd43790a73323711b8b5f14a796c78de310084f726fcd7780ff53faec", func := "loop.example/g00252/laws.FnExactTreeDrop", spec := "fnExactTreeDrop", inPlace := ["math.Float64bits", "internal/bytealg.Compare"], unfollowed := true, recurses := true, apart := false, narrowed := true }
def FnExactTreeDropUptoSaid : Prop := fnExactTreeDropUptoRow.holds Try.pinned (OpenSpec.upto fnExactTreeDropSpec)

/-- 'laws.FnTracks', WHERE WHAT IT READS IS OF BULK AT MOST 1048576: true; the input reads as it did. -/
def fnTracksUptoRow : OpenClaim := { program := "ytcagjdngannneaa", sum := "0584b14cd43790a73323711b8b5f14a796c78de310084f726fcd7780ff53faec", func := "loop.example/g00252/laws.FnTracks", spec := "fnTracks", inPlace := ["math.Float64bits", "internal/bytealg.Compare"], unfollowed := true, recurses := true, apart := false, narrowed := true }
def FnTracksUptoSaid : Prop := fnTracksUptoRow.holds Try.pinned (OpenSpec.upto fnTracksSpec)

/-- 'laws.FnExactEdgeEnd', WHERE WHAT IT READS IS OF BULK AT MOST 1048576: true; the input reads as it did. -/
def fnExactEdgeEndUptoRow : OpenClaim := { program := "ytcagjdngannneaa", sum := "0584b14cd43790a73323711b8b5f14a796c78de310084f726fcd7780ff53faec", func := "loop.example/g00252/laws.FnExactEdgeEnd", spec := "fnExactEdgeEnd", inPlace := ["math.Float64bits", "internal/bytealg.Compare"], unfollowed := true, recurses := true, apart := false, narrowed := true }
def FnExactEdgeEndUptoSaid : Prop := fnExactEdgeEndUptoRow.holds Try.pinned (OpenSpec.upto fnExactEdgeEndSpec)

/-- 'laws.FnExactEdgeRead', WHERE WHAT IT READS IS OF BULK AT MOST 1048576: true; the input reads as it did. -/
def fnExactEdgeReadUptoRow : OpenClaim := { program := "ytcagjdngannneaa", sum := "0584b14cd43790a73323711b8b5f14a796c78de310084f726fcd7780ff53faec", func := "loop.example/g00252/laws.FnExactEdgeRead", spec := "fnExactEdgeRead", inPlace := ["math.Float64bits", "internal/bytealg.Compare"], unfollowed := true, recurses := true, apart := false, narrowed := true }
def FnExactEdgeReadUptoSaid : Prop := fnExactEdgeReadUptoRow.holds Try.pinned (OpenSpec.upto fnExactEdgeReadSpec)

end Rows
end Go.Proofs.Ytcagjdngannneaa
