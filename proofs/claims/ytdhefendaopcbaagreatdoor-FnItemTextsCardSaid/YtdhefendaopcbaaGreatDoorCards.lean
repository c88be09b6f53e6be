/-
  DERIVED. GIVEN WITH THE SEED: THE CARDS: each row of YtdhefendaopcbaaGreatDoorRows.lean that lists a variable, with what it lists TIED to the program's text (the seventh form; the later family's looks); each row that meets fmt, with fmt's text TOLD by the authors' own Lean function (tested against real Go, not proved from fmt's source: count such statements apart). THE CARD IS WHAT COUNTS. Prove the row's statement (the work); the ties are given (YtdhefendaopcbaaGreatDoorTie.lean); close each card by the builder's one call (the guide's Derived/Test/ToyasCard.lean, 'card_holds'). Laid BY PROGRAM, IN A SANDBOX (cutbox-door.mjs). By AI agents, Wed Nov 11 2026. No macro, syntax, notation, axiom, sorry.
-/
import Derived.Test.YtdhefendaopcbaaGreatDoorRows
import GoSem.ClaimSeven
namespace Go.Proofs.YtdhefendaopcbaaGreatDoor
namespace Rows

/-- THE TIED CARD OF 'laws.FnItemTexts'. -/
def fnItemTextsCard : Claim7 := { stood := { row := fnItemTextsRow, standIns := [], harness := (true, "87803ac62e32e7f8d6ece4edf50fe27ba39d2759fe7100f7499635f306e97775"), looks := true }, kinds := [], alts := [], laidByText := true, laidKinds := [.data, .data, .data, .data, .sentinel, .sentinel, .pinned], laidTests := true, laidLooks := .later }
def FnItemTextsCardSaid : Prop := Claim7.holds Tryz.pinned (.plain (OpenSpec.ofChange fnItemTextsSpec)) fnItemTextsCard

/-- THE TIED CARD OF 'laws.FnExactOpRead'. -/
def fnExactOpReadCard : Claim7 := { stood := { row := fnExactOpReadRow, standIns := [], harness := (true, "87803ac62e32e7f8d6ece4edf50fe27ba39d2759fe7100f7499635f306e97775"), looks := true }, kinds := [], alts := [], laidByText := true, laidKinds := [.data, .data, .data, .data, .sentinel, .sentinel, .pinned], laidTests := true, laidLooks := .later }
def FnExactOpReadCardSaid : Prop := Claim7.holds Tryz.pinned (.plain (OpenSpec.ofChange fnExactOpReadSpec)) fnExactOpReadCard

/-- THE SECOND FORM's CARD OF 'laws.FnItemTexts'. -/
def fnItemTextsUptoCard : Claim7 := { stood := { row := fnItemTextsUptoRow, standIns := [], harness := (true, "87803ac62e32e7f8d6ece4edf50fe27ba39d2759fe7100f7499635f306e97775"), looks := true }, kinds := [], alts := [], laidByText := true, laidKinds := [.data, .data, .data, .data, .sentinel, .sentinel, .pinned], laidTests := true, laidLooks := .later }
def FnItemTextsUptoCardSaid : Prop := Claim7.holds Tryz.pinned (.plain (OpenSpec.upto fnItemTextsSpec)) fnItemTextsUptoCard

/-- THE SECOND FORM's CARD OF 'laws.FnExactOpRead'. -/
def fnExactOpReadUptoCard : Claim7 := { stood := { row := fnExactOpReadUptoRow, standIns := [], harness := (true, "87803ac62e32e7f8d6ece4edf50fe27ba39d2759fe7100f7499635f306e97775"), looks := true }, kinds := [], alts := [], laidByText := true, laidKinds := [.data, .data, .data, .data, .sentinel, .sentinel, .pinned], laidTests := true, laidLooks := .later }
def FnExactOpReadUptoCardSaid : Prop := Claim7.holds Tryz.pinned (.plain (OpenSpec.upto fnExactOpReadSpec)) fnExactOpReadUptoCard
end Rows
end Go.Proofs.YtdhefendaopcbaaGreatDoor
