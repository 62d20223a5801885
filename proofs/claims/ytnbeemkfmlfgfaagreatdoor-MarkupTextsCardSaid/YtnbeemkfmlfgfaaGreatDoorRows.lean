/-
  NARROWER THAN 'FOR EVERY INPUT', by the rows' own cells (each row's printed sentence says how): WholeMacros: laid · MarkupTexts: loops, laid · MarkupRoundTrip: loops, laid · MarkupNormal: laid · MarkupPrinted: loops, laid.
  DERIVED. THE GIVEN ROWS OF THIS SEAT. 5 by the template 'for every input the law returns true; each argument reads behind the call as it read before'; 0 by the template 'total and deterministic' (their statements: YtnbeemkfmlfgfaaGreatDoorTotals.lean).
  GIVEN WITH THE SEED: the statements are not yours to turn. If you find one false, say at which input.
  Laid BY PROGRAM, IN A SANDBOX (cutbox-rows.mjs): the forced cells as the released guide's own fill.sh prints them over the translation 5f1b5b7ceb7d3863… (all of the seat's roots in one cut). By AI agents, Wed Nov 11 2026. No macro, syntax, notation, axiom, sorry.
-/
import Derived.Test.YtnbeemkfmlfgfaaGreatDoorChecked
import GoSem.PinnedTables
import GoSem.Claim
import GoSem.ClaimJoined
import GoSem.ClaimMapViews
import Derived.JoinedTies
import Derived.KernelRfl
namespace Go.Proofs.YtnbeemkfmlfgfaaGreatDoor
/- THE CELL 'sum', in the pinned program and in every row, IS THE sha256 OF THE DUMP (.gsa) THAT YtnbeemkfmlfgfaaGreatDoorProg.lean LOADS. Nothing in Lean hashes anything: it is a label: what it is worth is what the hold of that sum in a sandbox is worth. -/
noncomputable def Tryz.pinned : Pinned := { name := "ytnbeemkfmlfgfaagreatdoor", sum := "5f1b5b7ceb7d386314f0d5a518e2d5c4ae588313eb59bfeb00dad926a783c337", checked := Tryz.checked }
namespace Rows
def none {H : Type} : Left H := { results := [], args := [] }

/- WHAT THE LISTED PACKAGE-LEVEL VARIABLES READ AS WHEN THE CALL BEGINS. Each datum BY PROGRAM (the guide's laid-datum.mjs) off the statement by which the dump's own 'gosem.cut.vars' lays the variable. In a bare row this is a premise. The card (YtnbeemkfmlfgfaaGreatDoorCards.lean) ties it to the program's text. -/
def laid_unicode_utf8_acceptRanges {H : Type} : DataW H := .agg [.agg [.lit (.int .u8 128), .lit (.int .u8 191)], .agg [.lit (.int .u8 160), .lit (.int .u8 191)], .agg [.lit (.int .u8 128), .lit (.int .u8 159)], .agg [.lit (.int .u8 144), .lit (.int .u8 191)], .agg [.lit (.int .u8 128), .lit (.int .u8 143)], .agg [.lit (.int .u8 0), .lit (.int .u8 0)], .agg [.lit (.int .u8 0), .lit (.int .u8 0)], .agg [.lit (.int .u8 0), .lit (.int .u8 0)], .agg [.lit (.int .u8 0), .lit (.int .u8 0)], .agg [.lit (.int .u8 0), .lit (.int .u8 0)], .agg [.lit (.int .u8 0), .lit (.int .u8 0)], .agg [.lit (.int .u8 0), .lit (.int .u8 0)], .agg [.lit (.int .u8 0), .lit (.int .u8 0)], .agg [.lit (.int .u8 0), .lit (.int .u8 0)], .agg [.lit (.int .u8 0), .lit (.int .u8 0)], .agg [.lit (.int .u8 0), .lit (.int .u8 0)]]
/-- One of Go's own tables, pinned by name: the form's constant. -/
def laid_unicode_utf8_first : DataW Unit := Go.Pinned.utf8First

/-- 'vinculumtop.WholeMacros': WHATEVER THE INPUT: true; the input reads as it did. -/
def wholeMacrosSpec : ChangeSpec := { name := "wholeMacros", fn := fun _ => fun
  | [d1, d2] => { results := [.lit (.bool true)], args := [d1, d2] }
  | _ => none }
def wholeMacrosRow : OpenClaim := { program := "ytnbeemkfmlfgfaagreatdoor", sum := "5f1b5b7ceb7d386314f0d5a518e2d5c4ae588313eb59bfeb00dad926a783c337", func := "vinculum/vinculumtop.WholeMacros", spec := "wholeMacros", inPlace := ["internal/abi.NoEscape", "internal/bytealg.IndexByteString", "internal/bytealg.IndexString"], unfollowed := true, recurses := true, named := ["internal/bytealg.MaxLen", "unicode/utf8.first", "unicode/utf8.acceptRanges"], apart := false, laid := [("unicode/utf8.acceptRanges", laid_unicode_utf8_acceptRanges), ("unicode/utf8.first", laid_unicode_utf8_first)] }
def WholeMacrosSaid : Prop := wholeMacrosRow.holds Tryz.pinned (OpenSpec.ofChange wholeMacrosSpec)

/-- ITS FALSE NEIGHBOUR: 'it returns false'. Refute it at one input. -/
def wholeMacrosWrong : ChangeSpec := { name := "wholeMacros", fn := fun _ => fun
  | [d1, d2] => { results := [.lit (.bool false)], args := [d1, d2] }
  | _ => none }
def WholeMacrosWrongFalsely : Prop := wholeMacrosRow.holds Tryz.pinned (OpenSpec.ofChange wholeMacrosWrong)

/-- 'vinculumlaw24.MarkupTexts': WHATEVER THE INPUT: true; the input reads as it did. -/
def markupTextsSpec : ChangeSpec := { name := "markupTexts", fn := fun _ => fun
  | [d1, d2] => { results := [.lit (.bool true)], args := [d1, d2] }
  | _ => none }
def markupTextsRow : OpenClaim := { program := "ytnbeemkfmlfgfaagreatdoor", sum := "5f1b5b7ceb7d386314f0d5a518e2d5c4ae588313eb59bfeb00dad926a783c337", func := "vinculum/vinculumlaw24.MarkupTexts", spec := "markupTexts", inPlace := ["internal/bytealg.IndexByteString", "internal/bytealg.IndexString", "internal/abi.NoEscape"], unfollowed := true, recurses := true, named := ["internal/bytealg.MaxLen", "unicode/utf8.first", "unicode/utf8.acceptRanges"], loops := true, apart := false, laid := [("unicode/utf8.acceptRanges", laid_unicode_utf8_acceptRanges), ("unicode/utf8.first", laid_unicode_utf8_first)] }
def MarkupTextsSaid : Prop := markupTextsRow.holds Tryz.pinned (OpenSpec.ofChange markupTextsSpec)

/-- ITS FALSE NEIGHBOUR: 'it returns false'. Refute it at one input. -/
def markupTextsWrong : ChangeSpec := { name := "markupTexts", fn := fun _ => fun
  | [d1, d2] => { results := [.lit (.bool false)], args := [d1, d2] }
  | _ => none }
def MarkupTextsWrongFalsely : Prop := markupTextsRow.holds Tryz.pinned (OpenSpec.ofChange markupTextsWrong)

/-- 'vinculumlaw24.MarkupRoundTrip': WHATEVER THE INPUT: true; the input reads as it did. -/
def markupRoundTripSpec : ChangeSpec := { name := "markupRoundTrip", fn := fun _ => fun
  | [d] => { results := [.lit (.bool true)], args := [d] }
  | _ => none }
def markupRoundTripRow : OpenClaim := { program := "ytnbeemkfmlfgfaagreatdoor", sum := "5f1b5b7ceb7d386314f0d5a518e2d5c4ae588313eb59bfeb00dad926a783c337", func := "vinculum/vinculumlaw24.MarkupRoundTrip", spec := "markupRoundTrip", inPlace := ["internal/bytealg.IndexByteString", "internal/bytealg.IndexString", "internal/abi.NoEscape"], unfollowed := true, recurses := true, named := ["internal/bytealg.MaxLen", "unicode/utf8.first", "unicode/utf8.acceptRanges"], loops := true, apart := false, laid := [("unicode/utf8.acceptRanges", laid_unicode_utf8_acceptRanges), ("unicode/utf8.first", laid_unicode_utf8_first)] }
def MarkupRoundTripSaid : Prop := markupRoundTripRow.holds Tryz.pinned (OpenSpec.ofChange markupRoundTripSpec)

/-- ITS FALSE NEIGHBOUR: 'it returns false'. Refute it at one input. -/
def markupRoundTripWrong : ChangeSpec := { name := "markupRoundTrip", fn := fun _ => fun
  | [d] => { results := [.lit (.bool false)], args := [d] }
  | _ => none }
def MarkupRoundTripWrongFalsely : Prop := markupRoundTripRow.holds Tryz.pinned (OpenSpec.ofChange markupRoundTripWrong)

/-- 'vinculumlaw24.MarkupNormal': WHATEVER THE INPUT: true; the input reads as it did. -/
def markupNormalSpec : ChangeSpec := { name := "markupNormal", fn := fun _ => fun
  | [d] => { results := [.lit (.bool true)], args := [d] }
  | _ => none }
def markupNormalRow : OpenClaim := { program := "ytnbeemkfmlfgfaagreatdoor", sum := "5f1b5b7ceb7d386314f0d5a518e2d5c4ae588313eb59bfeb00dad926a783c337", func := "vinculum/vinculumlaw24.MarkupNormal", spec := "markupNormal", inPlace := ["internal/bytealg.IndexByteString", "internal/bytealg.IndexString", "internal/abi.NoEscape"], unfollowed := true, recurses := true, named := ["internal/bytealg.MaxLen", "unicode/utf8.first", "unicode/utf8.acceptRanges"], apart := false, laid := [("unicode/utf8.acceptRanges", laid_unicode_utf8_acceptRanges), ("unicode/utf8.first", laid_unicode_utf8_first)] }
def MarkupNormalSaid : Prop := markupNormalRow.holds Tryz.pinned (OpenSpec.ofChange markupNormalSpec)

/-- ITS FALSE NEIGHBOUR: 'it returns false'. Refute it at one input. -/
def markupNormalWrong : ChangeSpec := { name := "markupNormal", fn := fun _ => fun
  | [d] => { results := [.lit (.bool false)], args := [d] }
  | _ => none }
def MarkupNormalWrongFalsely : Prop := markupNormalRow.holds Tryz.pinned (OpenSpec.ofChange markupNormalWrong)

/-- 'vinculumlaw24.MarkupPrinted': WHATEVER THE INPUT: true; the input reads as it did. -/
def markupPrintedSpec : ChangeSpec := { name := "markupPrinted", fn := fun _ => fun
  | [d] => { results := [.lit (.bool true)], args := [d] }
  | _ => none }
def markupPrintedRow : OpenClaim := { program := "ytnbeemkfmlfgfaagreatdoor", sum := "5f1b5b7ceb7d386314f0d5a518e2d5c4ae588313eb59bfeb00dad926a783c337", func := "vinculum/vinculumlaw24.MarkupPrinted", spec := "markupPrinted", inPlace := ["internal/bytealg.IndexByteString", "internal/bytealg.IndexString", "internal/abi.NoEscape"], unfollowed := true, recurses := true, named := ["internal/bytealg.MaxLen", "unicode/utf8.first", "unicode/utf8.acceptRanges"], loops := true, apart := false, laid := [("unicode/utf8.acceptRanges", laid_unicode_utf8_acceptRanges), ("unicode/utf8.first", laid_unicode_utf8_first)] }
def MarkupPrintedSaid : Prop := markupPrintedRow.holds Tryz.pinned (OpenSpec.ofChange markupPrintedSpec)

/-- ITS FALSE NEIGHBOUR: 'it returns false'. Refute it at one input. -/
def markupPrintedWrong : ChangeSpec := { name := "markupPrinted", fn := fun _ => fun
  | [d] => { results := [.lit (.bool false)], args := [d] }
  | _ => none }
def MarkupPrintedWrongFalsely : Prop := markupPrintedRow.holds Tryz.pinned (OpenSpec.ofChange markupPrintedWrong)

/- THE SECOND FORM. 'bulk': how many values and letters a reading holds, each counted each time it is reached (what is shared counts as often as it is met; a slice's spare places count too). A statement '..UptoSaid' is the law's where the arguments, and the package variables that the reading takes, are together of bulk at most 1048576: NARROWER than '..Said'. Prove '..Said' where nothing that the law and all that it calls make is longer than what came in: it says more and counts as full. Else prove '..UptoSaid'. A law counts once. -/
mutual
def uptoBulk {H : Type} : DataW H → Nat
  | .lit (.string bytes) => bytes.length + 1
  | .lit _ => 1
  | .nil => 1
  | .ptr d => uptoBulk d + 1
  | .slice elems spare => uptoBulkAll elems + uptoBulkAll spare + 1
  | .agg parts => uptoBulkAll parts + 1
  | .iface _ d => uptoBulk d + 1
  | .map entries => uptoBulkEntries entries + 1
  | .held _ => 1
def uptoBulkAll {H : Type} : List (DataW H) → Nat
  | [] => 0
  | d :: r => uptoBulk d + uptoBulkAll r
def uptoBulkEntries {H : Type} : List (Lit × DataW H) → Nat
  | [] => 0
  | x :: r => uptoBulkEntry x + uptoBulkEntries r
def uptoBulkEntry {H : Type} : Lit × DataW H → Nat
  | (.string bytes, d) => bytes.length + uptoBulk d + 1
  | (_, d) => uptoBulk d + 1
 end
def uptoSmall : (H : Type) → List (DataW H) → Bool := fun _ ds => decide (uptoBulkAll ds ≤ 1048576)
def OpenSpec.upto (s : _root_.Go.ChangeSpec) : _root_.Go.OpenSpec := { _root_.Go.OpenSpec.ofChange s with cond := some uptoSmall }

/-- 'vinculumtop.WholeMacros', WHERE WHAT IT READS IS OF BULK AT MOST 1048576: true; the input reads as it did. -/
def wholeMacrosUptoRow : OpenClaim := { program := "ytnbeemkfmlfgfaagreatdoor", sum := "5f1b5b7ceb7d386314f0d5a518e2d5c4ae588313eb59bfeb00dad926a783c337", func := "vinculum/vinculumtop.WholeMacros", spec := "wholeMacros", inPlace := ["internal/abi.NoEscape", "internal/bytealg.IndexByteString", "internal/bytealg.IndexString"], unfollowed := true, recurses := true, named := ["internal/bytealg.MaxLen", "unicode/utf8.first", "unicode/utf8.acceptRanges"], apart := false, laid := [("unicode/utf8.acceptRanges", laid_unicode_utf8_acceptRanges), ("unicode/utf8.first", laid_unicode_utf8_first)], narrowed := true }
def WholeMacrosUptoSaid : Prop := wholeMacrosUptoRow.holds Tryz.pinned (OpenSpec.upto wholeMacrosSpec)

/-- 'vinculumlaw24.MarkupTexts', WHERE WHAT IT READS IS OF BULK AT MOST 1048576: true; the input reads as it did. -/
def markupTextsUptoRow : OpenClaim := { program := "ytnbeemkfmlfgfaagreatdoor", sum := "5f1b5b7ceb7d386314f0d5a518e2d5c4ae588313eb59bfeb00dad926a783c337", func := "vinculum/vinculumlaw24.MarkupTexts", spec := "markupTexts", inPlace := ["internal/bytealg.IndexByteString", "internal/bytealg.IndexString", "internal/abi.NoEscape"], unfollowed := true, recurses := true, named := ["internal/bytealg.MaxLen", "unicode/utf8.first", "unicode/utf8.acceptRanges"], loops := true, apart := false, laid := [("unicode/utf8.acceptRanges", laid_unicode_utf8_acceptRanges), ("unicode/utf8.first", laid_unicode_utf8_first)], narrowed := true }
def MarkupTextsUptoSaid : Prop := markupTextsUptoRow.holds Tryz.pinned (OpenSpec.upto markupTextsSpec)

/-- 'vinculumlaw24.MarkupRoundTrip', WHERE WHAT IT READS IS OF BULK AT MOST 1048576: true; the input reads as it did. -/
def markupRoundTripUptoRow : OpenClaim := { program := "ytnbeemkfmlfgfaagreatdoor", sum := "5f1b5b7ceb7d386314f0d5a518e2d5c4ae588313eb59bfeb00dad926a783c337", func := "vinculum/vinculumlaw24.MarkupRoundTrip", spec := "markupRoundTrip", inPlace := ["internal/bytealg.IndexByteString", "internal/bytealg.IndexString", "internal/abi.NoEscape"], unfollowed := true, recurses := true, named := ["internal/bytealg.MaxLen", "unicode/utf8.first", "unicode/utf8.acceptRanges"], loops := true, apart := false, laid := [("unicode/utf8.acceptRanges", laid_unicode_utf8_acceptRanges), ("unicode/utf8.first", laid_unicode_utf8_first)], narrowed := true }
def MarkupRoundTripUptoSaid : Prop := markupRoundTripUptoRow.holds Tryz.pinned (OpenSpec.upto markupRoundTripSpec)

/-- 'vinculumlaw24.MarkupNormal', WHERE WHAT IT READS IS OF BULK AT MOST 1048576: true; the input reads as it did. -/
def markupNormalUptoRow : OpenClaim := { program := "ytnbeemkfmlfgfaagreatdoor", sum := "5f1b5b7ceb7d386314f0d5a518e2d5c4ae588313eb59bfeb00dad926a783c337", func := "vinculum/vinculumlaw24.MarkupNormal", spec := "markupNormal", inPlace := ["internal/bytealg.IndexByteString", "internal/bytealg.IndexString", "internal/abi.NoEscape"], unfollowed := true, recurses := true, named := ["internal/bytealg.MaxLen", "unicode/utf8.first", "unicode/utf8.acceptRanges"], apart := false, laid := [("unicode/utf8.acceptRanges", laid_unicode_utf8_acceptRanges), ("unicode/utf8.first", laid_unicode_utf8_first)], narrowed := true }
def MarkupNormalUptoSaid : Prop := markupNormalUptoRow.holds Tryz.pinned (OpenSpec.upto markupNormalSpec)

/-- 'vinculumlaw24.MarkupPrinted', WHERE WHAT IT READS IS OF BULK AT MOST 1048576: true; the input reads as it did. -/
def markupPrintedUptoRow : OpenClaim := { program := "ytnbeemkfmlfgfaagreatdoor", sum := "5f1b5b7ceb7d386314f0d5a518e2d5c4ae588313eb59bfeb00dad926a783c337", func := "vinculum/vinculumlaw24.MarkupPrinted", spec := "markupPrinted", inPlace := ["internal/bytealg.IndexByteString", "internal/bytealg.IndexString", "internal/abi.NoEscape"], unfollowed := true, recurses := true, named := ["internal/bytealg.MaxLen", "unicode/utf8.first", "unicode/utf8.acceptRanges"], loops := true, apart := false, laid := [("unicode/utf8.acceptRanges", laid_unicode_utf8_acceptRanges), ("unicode/utf8.first", laid_unicode_utf8_first)], narrowed := true }
def MarkupPrintedUptoSaid : Prop := markupPrintedUptoRow.holds Tryz.pinned (OpenSpec.upto markupPrintedSpec)

end Rows
end Go.Proofs.YtnbeemkfmlfgfaaGreatDoor
