/-
  DERIVED. GIVEN WITH THE SEED: THE CARDS: each row of YtnkmccgpmmnfeaaDoorRows.lean that lists a variable, with what it lists TIED to the program's text (the seventh form; the later family's looks); each row that meets fmt, with fmt's text TOLD by the authors' own Lean function (tested against real Go, not proved from fmt's source: count such statements apart). THE CARD IS WHAT COUNTS. Prove the row's statement (the work); the ties are given (YtnkmccgpmmnfeaaDoorTie.lean); close each card by the builder's one call (the guide's Derived/Test/ToyasCard.lean, 'card_holds'). Laid BY PROGRAM, IN A SANDBOX (cutbox-door.mjs). By AI agents, Wed Nov 11 2026. No macro, syntax, notation, axiom, sorry.
-/
import Derived.Test.YtnkmccgpmmnfeaaDoorRows
import GoSem.ClaimSeven
namespace Go.Proofs.YtnkmccgpmmnfeaaDoor
namespace Rows

/-- THE TIED CARD OF 'vinculumlaw23.XmlRejects'. -/
def xmlRejectsCard : Claim7 := { stood := { row := xmlRejectsRow, standIns := [], harness := (true, "984dd3fcac43d21b25dc331cba5c985713a236995af30a3ba9aa02a85efce8b6"), looks := true }, kinds := [], alts := [], laidByText := true, laidKinds := [.data, .pinned], laidTests := true, laidLooks := .later }
def XmlRejectsCardSaid : Prop := Claim7.holds Tryd.pinned (.plain (OpenSpec.ofChange xmlRejectsSpec)) xmlRejectsCard

/-- THE TIED CARD OF 'vinculumlaw23.XmlSpaces'. -/
def xmlSpacesCard : Claim7 := { stood := { row := xmlSpacesRow, standIns := [], harness := (true, "984dd3fcac43d21b25dc331cba5c985713a236995af30a3ba9aa02a85efce8b6"), looks := true }, kinds := [], alts := [], laidByText := true, laidKinds := [.data, .pinned], laidTests := true, laidLooks := .later }
def XmlSpacesCardSaid : Prop := Claim7.holds Tryd.pinned (.plain (OpenSpec.ofChange xmlSpacesSpec)) xmlSpacesCard

/-- THE TIED CARD OF 'vinculumlaw23.XmlValid'. -/
def xmlValidCard : Claim7 := { stood := { row := xmlValidRow, standIns := [], harness := (true, "984dd3fcac43d21b25dc331cba5c985713a236995af30a3ba9aa02a85efce8b6"), looks := true }, kinds := [], alts := [], laidByText := true, laidKinds := [.data, .pinned], laidTests := true, laidLooks := .later }
def XmlValidCardSaid : Prop := Claim7.holds Tryd.pinned (.plain (OpenSpec.ofChange xmlValidSpec)) xmlValidCard

/-- THE SECOND FORM's CARD OF 'vinculumlaw23.XmlRejects'. -/
def xmlRejectsUptoCard : Claim7 := { stood := { row := xmlRejectsUptoRow, standIns := [], harness := (true, "984dd3fcac43d21b25dc331cba5c985713a236995af30a3ba9aa02a85efce8b6"), looks := true }, kinds := [], alts := [], laidByText := true, laidKinds := [.data, .pinned], laidTests := true, laidLooks := .later }
def XmlRejectsUptoCardSaid : Prop := Claim7.holds Tryd.pinned (.plain (OpenSpec.upto xmlRejectsSpec)) xmlRejectsUptoCard

/-- THE SECOND FORM's CARD OF 'vinculumlaw23.XmlSpaces'. -/
def xmlSpacesUptoCard : Claim7 := { stood := { row := xmlSpacesUptoRow, standIns := [], harness := (true, "984dd3fcac43d21b25dc331cba5c985713a236995af30a3ba9aa02a85efce8b6"), looks := true }, kinds := [], alts := [], laidByText := true, laidKinds := [.data, .pinned], laidTests := true, laidLooks := .later }
def XmlSpacesUptoCardSaid : Prop := Claim7.holds Tryd.pinned (.plain (OpenSpec.upto xmlSpacesSpec)) xmlSpacesUptoCard

/-- THE SECOND FORM's CARD OF 'vinculumlaw23.XmlValid'. -/
def xmlValidUptoCard : Claim7 := { stood := { row := xmlValidUptoRow, standIns := [], harness := (true, "984dd3fcac43d21b25dc331cba5c985713a236995af30a3ba9aa02a85efce8b6"), looks := true }, kinds := [], alts := [], laidByText := true, laidKinds := [.data, .pinned], laidTests := true, laidLooks := .later }
def XmlValidUptoCardSaid : Prop := Claim7.holds Tryd.pinned (.plain (OpenSpec.upto xmlValidSpec)) xmlValidUptoCard
end Rows
end Go.Proofs.YtnkmccgpmmnfeaaDoor
