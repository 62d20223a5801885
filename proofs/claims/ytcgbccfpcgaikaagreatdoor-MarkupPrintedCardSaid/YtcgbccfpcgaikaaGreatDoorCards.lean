/-
  DERIVED. GIVEN WITH THE SEED: THE CARDS: each row of YtcgbccfpcgaikaaGreatDoorRows.lean that lists a variable, with what it lists TIED to the program's text (the seventh form; the later family's looks); each row that meets fmt, with fmt's text TOLD by the authors' own Lean function (tested against real Go, not proved from fmt's source: count such statements apart). THE CARD IS WHAT COUNTS. Prove the row's statement (the work); the ties are given (YtcgbccfpcgaikaaGreatDoorTie.lean); close each card by the builder's one call (the guide's Derived/Test/ToyasCard.lean, 'card_holds'). Laid BY PROGRAM, IN A SANDBOX (cutbox-door.mjs). By AI agents, Wed Nov 11 2026. No macro, syntax, notation, axiom, sorry.
-/
import Derived.Test.YtcgbccfpcgaikaaGreatDoorRows
import GoSem.ClaimSeven
namespace Go.Proofs.YtcgbccfpcgaikaaGreatDoor
namespace Rows

/-- THE TIED CARD OF 'vinculumlaw24.MarkupPrinted'. -/
def markupPrintedCard : Claim7 := { stood := { row := markupPrintedRow, standIns := [], harness := (true, "f642ff07a980a6666008af0c73855cda99d8f2d671664d3e3745c0a94719ea6d"), looks := true }, kinds := [], alts := [], laidByText := true, laidKinds := [.data, .pinned], laidTests := true, laidLooks := .later }
def MarkupPrintedCardSaid : Prop := Claim7.holds Tryz.pinned (.plain (OpenSpec.ofChange markupPrintedSpec)) markupPrintedCard

/-- THE SECOND FORM's CARD OF 'vinculumlaw24.MarkupPrinted'. -/
def markupPrintedUptoCard : Claim7 := { stood := { row := markupPrintedUptoRow, standIns := [], harness := (true, "f642ff07a980a6666008af0c73855cda99d8f2d671664d3e3745c0a94719ea6d"), looks := true }, kinds := [], alts := [], laidByText := true, laidKinds := [.data, .pinned], laidTests := true, laidLooks := .later }
def MarkupPrintedUptoCardSaid : Prop := Claim7.holds Tryz.pinned (.plain (OpenSpec.upto markupPrintedSpec)) markupPrintedUptoCard
end Rows
end Go.Proofs.YtcgbccfpcgaikaaGreatDoor
