/-
  DERIVED. GIVEN WITH THE SEED: THE CARDS: each row of YtiofnjnnocjbhaaDoorRows.lean that lists a variable, with what it lists TIED to the program's text (the seventh form; the later family's looks); each row that meets fmt, with fmt's text TOLD by the authors' own Lean function (tested against real Go, not proved from fmt's source: count such statements apart). THE CARD IS WHAT COUNTS. Prove the row's statement (the work); the ties are given (YtiofnjnnocjbhaaDoorTie.lean); close each card by the builder's one call (the guide's Derived/Test/ToyasCard.lean, 'card_holds'). Laid BY PROGRAM, IN A SANDBOX (cutbox-door.mjs). By AI agents, Wed Nov 11 2026. No macro, syntax, notation, axiom, sorry.
-/
import Derived.Test.YtiofnjnnocjbhaaDoorRows
import GoSem.ClaimSeven
namespace Go.Proofs.YtiofnjnnocjbhaaDoor
namespace Rows

/-- THE TIED CARD OF 'laws.FnExactItemText'. -/
def fnExactItemTextCard : Claim7 := { stood := { row := fnExactItemTextRow, standIns := [], harness := (true, "fa482e56e685a7cd017052489f8431dc828fdf0fab16b6e637e55f5032bf1840"), looks := true }, kinds := [], alts := [], laidByText := true, laidKinds := [.data, .data, .data], laidTests := true, laidLooks := .later }
def FnExactItemTextCardSaid : Prop := Claim7.holds Tryd.pinned (.plain (OpenSpec.ofChange fnExactItemTextSpec)) fnExactItemTextCard

/-- THE TIED CARD OF 'laws.FnExactReplyText'. -/
def fnExactReplyTextCard : Claim7 := { stood := { row := fnExactReplyTextRow, standIns := [], harness := (true, "fa482e56e685a7cd017052489f8431dc828fdf0fab16b6e637e55f5032bf1840"), looks := true }, kinds := [], alts := [], laidByText := true, laidKinds := [.data, .data, .data], laidTests := true, laidLooks := .later }
def FnExactReplyTextCardSaid : Prop := Claim7.holds Tryd.pinned (.plain (OpenSpec.ofChange fnExactReplyTextSpec)) fnExactReplyTextCard

/-- THE TIED CARD OF 'laws.FnExactOpText'. -/
def fnExactOpTextCard : Claim7 := { stood := { row := fnExactOpTextRow, standIns := [], harness := (true, "fa482e56e685a7cd017052489f8431dc828fdf0fab16b6e637e55f5032bf1840"), looks := true }, kinds := [], alts := [], laidByText := true, laidKinds := [.data, .data, .data], laidTests := true, laidLooks := .later }
def FnExactOpTextCardSaid : Prop := Claim7.holds Tryd.pinned (.plain (OpenSpec.ofChange fnExactOpTextSpec)) fnExactOpTextCard

/-- THE TIED CARD OF 'laws.FnExactItemRead'. -/
def fnExactItemReadCard : Claim7 := { stood := { row := fnExactItemReadRow, standIns := [], harness := (true, "fa482e56e685a7cd017052489f8431dc828fdf0fab16b6e637e55f5032bf1840"), looks := true }, kinds := [], alts := [], laidByText := true, laidKinds := [.data, .data, .data, .sentinel, .sentinel], laidTests := true, laidLooks := .later }
def FnExactItemReadCardSaid : Prop := Claim7.holds Tryd.pinned (.plain (OpenSpec.ofChange fnExactItemReadSpec)) fnExactItemReadCard

/-- THE SECOND FORM's CARD OF 'laws.FnExactItemText'. -/
def fnExactItemTextUptoCard : Claim7 := { stood := { row := fnExactItemTextUptoRow, standIns := [], harness := (true, "fa482e56e685a7cd017052489f8431dc828fdf0fab16b6e637e55f5032bf1840"), looks := true }, kinds := [], alts := [], laidByText := true, laidKinds := [.data, .data, .data], laidTests := true, laidLooks := .later }
def FnExactItemTextUptoCardSaid : Prop := Claim7.holds Tryd.pinned (.plain (OpenSpec.upto fnExactItemTextSpec)) fnExactItemTextUptoCard

/-- THE SECOND FORM's CARD OF 'laws.FnExactReplyText'. -/
def fnExactReplyTextUptoCard : Claim7 := { stood := { row := fnExactReplyTextUptoRow, standIns := [], harness := (true, "fa482e56e685a7cd017052489f8431dc828fdf0fab16b6e637e55f5032bf1840"), looks := true }, kinds := [], alts := [], laidByText := true, laidKinds := [.data, .data, .data], laidTests := true, laidLooks := .later }
def FnExactReplyTextUptoCardSaid : Prop := Claim7.holds Tryd.pinned (.plain (OpenSpec.upto fnExactReplyTextSpec)) fnExactReplyTextUptoCard

/-- THE SECOND FORM's CARD OF 'laws.FnExactOpText'. -/
def fnExactOpTextUptoCard : Claim7 := { stood := { row := fnExactOpTextUptoRow, standIns := [], harness := (true, "fa482e56e685a7cd017052489f8431dc828fdf0fab16b6e637e55f5032bf1840"), looks := true }, kinds := [], alts := [], laidByText := true, laidKinds := [.data, .data, .data], laidTests := true, laidLooks := .later }
def FnExactOpTextUptoCardSaid : Prop := Claim7.holds Tryd.pinned (.plain (OpenSpec.upto fnExactOpTextSpec)) fnExactOpTextUptoCard

/-- THE SECOND FORM's CARD OF 'laws.FnExactItemRead'. -/
def fnExactItemReadUptoCard : Claim7 := { stood := { row := fnExactItemReadUptoRow, standIns := [], harness := (true, "fa482e56e685a7cd017052489f8431dc828fdf0fab16b6e637e55f5032bf1840"), looks := true }, kinds := [], alts := [], laidByText := true, laidKinds := [.data, .data, .data, .sentinel, .sentinel], laidTests := true, laidLooks := .later }
def FnExactItemReadUptoCardSaid : Prop := Claim7.holds Tryd.pinned (.plain (OpenSpec.upto fnExactItemReadSpec)) fnExactItemReadUptoCard
end Rows
end Go.Proofs.YtiofnjnnocjbhaaDoor
