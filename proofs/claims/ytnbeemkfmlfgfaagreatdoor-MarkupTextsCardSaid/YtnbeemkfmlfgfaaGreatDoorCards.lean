/-
  DERIVED. GIVEN WITH THE SEED: THE CARDS: each row of YtnbeemkfmlfgfaaGreatDoorRows.lean that lists a variable, with what it lists TIED to the program's text (the seventh form; the later family's looks); each row that meets fmt, with fmt's text TOLD by the authors' own Lean function (tested against real Go, not proved from fmt's source: count such statements apart). THE CARD IS WHAT COUNTS. Prove the row's statement (the work); the ties are given (YtnbeemkfmlfgfaaGreatDoorTie.lean); close each card by the builder's one call (the guide's Derived/Test/ToyasCard.lean, 'card_holds'). Laid BY PROGRAM, IN A SANDBOX (cutbox-door.mjs). By AI agents, Wed Nov 11 2026. No macro, syntax, notation, axiom, sorry.
-/
import Derived.Test.YtnbeemkfmlfgfaaGreatDoorRows
import GoSem.ClaimSeven
namespace Go.Proofs.YtnbeemkfmlfgfaaGreatDoor
namespace Rows

/-- THE TIED CARD OF 'vinculumtop.WholeMacros'. -/
def wholeMacrosCard : Claim7 := { stood := { row := wholeMacrosRow, standIns := [], harness := (true, "e897aa63da7ac1eedc557c079479ee585e30cecd320bb3c65229454132b2d612"), looks := true }, kinds := [], alts := [], laidByText := true, laidKinds := [.data, .pinned], laidTests := true, laidLooks := .later }
def WholeMacrosCardSaid : Prop := Claim7.holds Tryz.pinned (.plain (OpenSpec.ofChange wholeMacrosSpec)) wholeMacrosCard

/-- THE TIED CARD OF 'vinculumlaw24.MarkupTexts'. -/
def markupTextsCard : Claim7 := { stood := { row := markupTextsRow, standIns := [], harness := (true, "e897aa63da7ac1eedc557c079479ee585e30cecd320bb3c65229454132b2d612"), looks := true }, kinds := [], alts := [], laidByText := true, laidKinds := [.data, .pinned], laidTests := true, laidLooks := .later }
def MarkupTextsCardSaid : Prop := Claim7.holds Tryz.pinned (.plain (OpenSpec.ofChange markupTextsSpec)) markupTextsCard

/-- THE TIED CARD OF 'vinculumlaw24.MarkupRoundTrip'. -/
def markupRoundTripCard : Claim7 := { stood := { row := markupRoundTripRow, standIns := [], harness := (true, "e897aa63da7ac1eedc557c079479ee585e30cecd320bb3c65229454132b2d612"), looks := true }, kinds := [], alts := [], laidByText := true, laidKinds := [.data, .pinned], laidTests := true, laidLooks := .later }
def MarkupRoundTripCardSaid : Prop := Claim7.holds Tryz.pinned (.plain (OpenSpec.ofChange markupRoundTripSpec)) markupRoundTripCard

/-- THE TIED CARD OF 'vinculumlaw24.MarkupNormal'. -/
def markupNormalCard : Claim7 := { stood := { row := markupNormalRow, standIns := [], harness := (true, "e897aa63da7ac1eedc557c079479ee585e30cecd320bb3c65229454132b2d612"), looks := true }, kinds := [], alts := [], laidByText := true, laidKinds := [.data, .pinned], laidTests := true, laidLooks := .later }
def MarkupNormalCardSaid : Prop := Claim7.holds Tryz.pinned (.plain (OpenSpec.ofChange markupNormalSpec)) markupNormalCard

/-- THE TIED CARD OF 'vinculumlaw24.MarkupPrinted'. -/
def markupPrintedCard : Claim7 := { stood := { row := markupPrintedRow, standIns := [], harness := (true, "e897aa63da7ac1eedc557c079479ee585e30cecd320bb3c65229454132b2d612"), looks := true }, kinds := [], alts := [], laidByText := true, laidKinds := [.data, .pinned], laidTests := true, laidLooks := .later }
def MarkupPrintedCardSaid : Prop := Claim7.holds Tryz.pinned (.plain (OpenSpec.ofChange markupPrintedSpec)) markupPrintedCard

/-- THE SECOND FORM's CARD OF 'vinculumtop.WholeMacros'. -/
def wholeMacrosUptoCard : Claim7 := { stood := { row := wholeMacrosUptoRow, standIns := [], harness := (true, "e897aa63da7ac1eedc557c079479ee585e30cecd320bb3c65229454132b2d612"), looks := true }, kinds := [], alts := [], laidByText := true, laidKinds := [.data, .pinned], laidTests := true, laidLooks := .later }
def WholeMacrosUptoCardSaid : Prop := Claim7.holds Tryz.pinned (.plain (OpenSpec.upto wholeMacrosSpec)) wholeMacrosUptoCard

/-- THE SECOND FORM's CARD OF 'vinculumlaw24.MarkupTexts'. -/
def markupTextsUptoCard : Claim7 := { stood := { row := markupTextsUptoRow, standIns := [], harness := (true, "e897aa63da7ac1eedc557c079479ee585e30cecd320bb3c65229454132b2d612"), looks := true }, kinds := [], alts := [], laidByText := true, laidKinds := [.data, .pinned], laidTests := true, laidLooks := .later }
def MarkupTextsUptoCardSaid : Prop := Claim7.holds Tryz.pinned (.plain (OpenSpec.upto markupTextsSpec)) markupTextsUptoCard

/-- THE SECOND FORM's CARD OF 'vinculumlaw24.MarkupRoundTrip'. -/
def markupRoundTripUptoCard : Claim7 := { stood := { row := markupRoundTripUptoRow, standIns := [], harness := (true, "e897aa63da7ac1eedc557c079479ee585e30cecd320bb3c65229454132b2d612"), looks := true }, kinds := [], alts := [], laidByText := true, laidKinds := [.data, .pinned], laidTests := true, laidLooks := .later }
def MarkupRoundTripUptoCardSaid : Prop := Claim7.holds Tryz.pinned (.plain (OpenSpec.upto markupRoundTripSpec)) markupRoundTripUptoCard

/-- THE SECOND FORM's CARD OF 'vinculumlaw24.MarkupNormal'. -/
def markupNormalUptoCard : Claim7 := { stood := { row := markupNormalUptoRow, standIns := [], harness := (true, "e897aa63da7ac1eedc557c079479ee585e30cecd320bb3c65229454132b2d612"), looks := true }, kinds := [], alts := [], laidByText := true, laidKinds := [.data, .pinned], laidTests := true, laidLooks := .later }
def MarkupNormalUptoCardSaid : Prop := Claim7.holds Tryz.pinned (.plain (OpenSpec.upto markupNormalSpec)) markupNormalUptoCard

/-- THE SECOND FORM's CARD OF 'vinculumlaw24.MarkupPrinted'. -/
def markupPrintedUptoCard : Claim7 := { stood := { row := markupPrintedUptoRow, standIns := [], harness := (true, "e897aa63da7ac1eedc557c079479ee585e30cecd320bb3c65229454132b2d612"), looks := true }, kinds := [], alts := [], laidByText := true, laidKinds := [.data, .pinned], laidTests := true, laidLooks := .later }
def MarkupPrintedUptoCardSaid : Prop := Claim7.holds Tryz.pinned (.plain (OpenSpec.upto markupPrintedSpec)) markupPrintedUptoCard
end Rows
end Go.Proofs.YtnbeemkfmlfgfaaGreatDoor
