/-
  DERIVED. GIVEN WITH THE SEED: THE CARDS: each row of YtabjglnjjdcfmaaGreatDoorRows.lean that lists a variable, with what it lists TIED to the program's text (the seventh form; the later family's looks); each row that meets fmt, with fmt's text TOLD by the authors' own Lean function (tested against real Go, not proved from fmt's source: count such statements apart). THE CARD IS WHAT COUNTS. Prove the row's statement (the work); the ties are given (YtabjglnjjdcfmaaGreatDoorTie.lean); close each card by the builder's one call (the guide's Derived/Test/ToyasCard.lean, 'card_holds'). Laid BY PROGRAM, IN A SANDBOX (cutbox-door.mjs). By AI agents, Wed Nov 11 2026. No macro, syntax, notation, axiom, sorry.
-/
import Derived.Test.YtabjglnjjdcfmaaGreatDoorRows
import GoSem.ClaimSeven
namespace Go.Proofs.YtabjglnjjdcfmaaGreatDoor
namespace Rows

/-- THE TIED CARD OF 'vinculumtop.WholeMacros'. -/
def wholeMacrosCard : Claim7 := { stood := { row := wholeMacrosRow, standIns := [], harness := (true, "6ac814fd9baab8c3dbf46877aba58f1a7e7f7a1f6ae24dc2f0c845e5cf1f65c3"), looks := true }, kinds := [], alts := [], laidByText := true, laidKinds := [.data, .pinned], laidTests := true, laidLooks := .later }
def WholeMacrosCardSaid : Prop := Claim7.holds Tryz.pinned (.plain (OpenSpec.ofChange wholeMacrosSpec)) wholeMacrosCard

/-- THE SECOND FORM's CARD OF 'vinculumtop.WholeMacros'. -/
def wholeMacrosUptoCard : Claim7 := { stood := { row := wholeMacrosUptoRow, standIns := [], harness := (true, "6ac814fd9baab8c3dbf46877aba58f1a7e7f7a1f6ae24dc2f0c845e5cf1f65c3"), looks := true }, kinds := [], alts := [], laidByText := true, laidKinds := [.data, .pinned], laidTests := true, laidLooks := .later }
def WholeMacrosUptoCardSaid : Prop := Claim7.holds Tryz.pinned (.plain (OpenSpec.upto wholeMacrosSpec)) wholeMacrosUptoCard
end Rows
end Go.Proofs.YtabjglnjjdcfmaaGreatDoor
