/-
  NARROWER THAN 'FOR EVERY INPUT', by the rows' own cells (each row's printed sentence says how): MarkupElement: loops · MarkupFirst: loops.
  DERIVED. THE GIVEN ROWS OF THIS SEAT. 2 by the template 'for every input the law returns true; each argument reads behind the call as it read before'; 0 by the template 'total and deterministic' (their statements: YtloipakdnalpdaaTotals.lean).
  GIVEN WITH THE SEED: the statements are not yours to turn. If you find one false, say at which input.
  Laid BY PROGRAM, IN A SANDBOX (cutbox-rows.mjs): the forced cells as the released guide's own fill.sh prints them over the translation 67535c81b190011e… (all of the seat's roots in one cut). By AI agents, Wed Nov 11 2026. No macro, syntax, notation, axiom, sorry.
-/
import Derived.Test.YtloipakdnalpdaaChecked
import GoSem.Claim
import GoSem.ClaimJoined
import GoSem.ClaimMapViews
import Derived.JoinedTies
import Derived.KernelRfl
namespace Go.Proofs.Ytloipakdnalpdaa
/- THE CELL 'sum', in the pinned program and in every row, IS THE sha256 OF THE DUMP (.gsa) THAT YtloipakdnalpdaaProg.lean LOADS. Nothing in Lean hashes anything: it is a label: what it is worth is what the hold of that sum in a sandbox is worth. -/
noncomputable def Try.pinned : Pinned := { name := "ytloipakdnalpdaa", sum := "67535c81b190011ef27077501784fdc261e472309ce0b18ff615b5224ad1ad5e", checked := Try.checked }
namespace Rows
def none {H : Type} : Left H := { results := [], args := [] }

/-- 'vinculumlaw24.MarkupElement': WHATEVER THE INPUT: true; the input reads as it did. -/
def markupElementSpec : ChangeSpec := { name := "markupElement", fn := fun _ => fun
  | [d] => { results := [.lit (.bool true)], args := [d] }
  | _ => none }
def markupElementRow : OpenClaim := { program := "ytloipakdnalpdaa", sum := "67535c81b190011ef27077501784fdc261e472309ce0b18ff615b5224ad1ad5e", func := "vinculum/vinculumlaw24.MarkupElement", spec := "markupElement", inPlace := ["internal/bytealg.IndexByteString", "internal/bytealg.IndexString", "internal/abi.NoEscape"], unfollowed := true, recurses := true, named := ["internal/bytealg.MaxLen"], loops := true, apart := false }
def MarkupElementSaid : Prop := markupElementRow.holds Try.pinned (OpenSpec.ofChange markupElementSpec)

/-- ITS FALSE NEIGHBOUR: 'it returns false'. Refute it at one input. -/
def markupElementWrong : ChangeSpec := { name := "markupElement", fn := fun _ => fun
  | [d] => { results := [.lit (.bool false)], args := [d] }
  | _ => none }
def MarkupElementWrongFalsely : Prop := markupElementRow.holds Try.pinned (OpenSpec.ofChange markupElementWrong)

/-- 'vinculumlaw24.MarkupFirst': WHATEVER THE INPUT: true; the input reads as it did. -/
def markupFirstSpec : ChangeSpec := { name := "markupFirst", fn := fun _ => fun
  | [d1, d2] => { results := [.lit (.bool true)], args := [d1, d2] }
  | _ => none }
def markupFirstRow : OpenClaim := { program := "ytloipakdnalpdaa", sum := "67535c81b190011ef27077501784fdc261e472309ce0b18ff615b5224ad1ad5e", func := "vinculum/vinculumlaw24.MarkupFirst", spec := "markupFirst", inPlace := ["internal/bytealg.IndexByteString", "internal/bytealg.IndexString", "internal/abi.NoEscape"], unfollowed := true, recurses := true, named := ["internal/bytealg.MaxLen"], loops := true, apart := false }
def MarkupFirstSaid : Prop := markupFirstRow.holds Try.pinned (OpenSpec.ofChange markupFirstSpec)

/-- ITS FALSE NEIGHBOUR: 'it returns false'. Refute it at one input. -/
def markupFirstWrong : ChangeSpec := { name := "markupFirst", fn := fun _ => fun
  | [d1, d2] => { results := [.lit (.bool false)], args := [d1, d2] }
  | _ => none }
def MarkupFirstWrongFalsely : Prop := markupFirstRow.holds Try.pinned (OpenSpec.ofChange markupFirstWrong)

/- THE SECOND FORM. 'bulk': how many values and letters a reading holds, each counted each time it is reached (what is shared counts as often as it is met; a slice's spare places count too). A statement '..UptoSaid' is the law's where the arguments, and the package variables that the reading takes, are together of bulk at most 1048576: NARROWER than '..Said'. Prove '..Said' where nothing that the law and all that it calls make is longer than what came in: it says more and counts as full. Else prove '..UptoSaid'. A law counts once. -/
mutual
def uptoBulk {H : Type} : DataW H → Nat
  | .lit (.string bytes) => bytes.length + 1
  | .lit _ => 1
  | .nil => 1
  | .ptr d => uptoBulk d + 1
  | .slice elems spare => uptoBulkAll elems + uptoBulkAll spare + 1
  | .agg parts => uptoBulkAll parts + 1
  | .iface _ d => uptoBulk d + 1
  | .map entries => uptoBulkEntries entries + 1
  | .held _ => 1
def uptoBulkAll {H : Type} : List (DataW H) → Nat
  | [] => 0
  | d :: r => uptoBulk d + uptoBulkAll r
def uptoBulkEntries {H : Type} : List (Lit × DataW H) → Nat
  | [] => 0
  | x :: r => uptoBulkEntry x + uptoBulkEntries r
def uptoBulkEntry {H : Type} : Lit × DataW H → Nat
  | (.string bytes, d) => bytes.length + uptoBulk d + 1
  | (_, d) => uptoBulk d + 1
 end
def uptoSmall : (H : Type) → List (DataW H) → Bool := fun _ ds => decide (uptoBulkAll ds ≤ 1048576)
def OpenSpec.upto (s : _root_.Go.ChangeSpec) : _root_.Go.OpenSpec := { _root_.Go.OpenSpec.ofChange s with cond := some uptoSmall }

/-- 'vinculumlaw24.MarkupElement', WHERE WHAT IT READS IS OF BULK AT MOST 1048576: true; the input reads as it did. -/
def markupElementUptoRow : OpenClaim := { program := "ytloipakdnalpdaa", sum := "67535c81b190011ef27077501784fdc261e472309ce0b18ff615b5224ad1ad5e", func := "vinculum/vinculumlaw24.MarkupElement", spec := "markupElement", inPlace := ["internal/bytealg.IndexByteString", "internal/bytealg.IndexString", "internal/abi.NoEscape"], unfollowed := true, recurses := true, named := ["internal/bytealg.MaxLen"], loops := true, apart := false, narrowed := true }
def MarkupElementUptoSaid : Prop := markupElementUptoRow.holds Try.pinned (OpenSpec.upto markupElementSpec)

/-- 'vinculumlaw24.MarkupFirst', WHERE WHAT IT READS IS OF BULK AT MOST 1048576: true; the input reads as it did. -/
def markupFirstUptoRow : OpenClaim := { program := "ytloipakdnalpdaa", sum := "67535c81b190011ef27077501784fdc261e472309ce0b18ff615b5224ad1ad5e", func := "vinculum/vinculumlaw24.MarkupFirst", spec := "markupFirst", inPlace := ["internal/bytealg.IndexByteString", "internal/bytealg.IndexString", "internal/abi.NoEscape"], unfollowed := true, recurses := true, named := ["internal/bytealg.MaxLen"], loops := true, apart := false, narrowed := true }
def MarkupFirstUptoSaid : Prop := markupFirstUptoRow.holds Try.pinned (OpenSpec.upto markupFirstSpec)

end Rows
end Go.Proofs.Ytloipakdnalpdaa
