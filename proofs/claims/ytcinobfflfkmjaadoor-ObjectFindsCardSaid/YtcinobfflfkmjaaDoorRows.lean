/-
  NARROWER THAN 'FOR EVERY INPUT', by the rows' own cells (each row's printed sentence says how): ObjectFinds: laid · ObjectRows: laid · ObjectBrackets: laid · ObjectQuotes: laid.
  DERIVED. THE GIVEN ROWS OF THIS SEAT. 4 by the template 'for every input the law returns true; each argument reads behind the call as it read before'; 0 by the template 'total and deterministic' (their statements: YtcinobfflfkmjaaDoorTotals.lean).
  GIVEN WITH THE SEED: the statements are not yours to turn. If you find one false, say at which input.
  Laid BY PROGRAM, IN A SANDBOX (cutbox-rows.mjs): the forced cells as the released guide's own fill.sh prints them over the translation 77e23a4f5e3d1ade… (all of the seat's roots in one cut). By AI agents, Wed Nov 11 2026. No macro, syntax, notation, axiom, sorry.
-/
import Derived.Test.YtcinobfflfkmjaaDoorChecked
import GoSem.PinnedTables
import GoSem.Claim
import GoSem.ClaimJoined
import GoSem.ClaimMapViews
import Derived.JoinedTies
import Derived.KernelRfl
namespace Go.Proofs.YtcinobfflfkmjaaDoor
/- THE CELL 'sum', in the pinned program and in every row, IS THE sha256 OF THE DUMP (.gsa) THAT YtcinobfflfkmjaaDoorProg.lean LOADS. Nothing in Lean hashes anything: it is a label: what it is worth is what the hold of that sum in a sandbox is worth. -/
noncomputable def Tryd.pinned : Pinned := { name := "ytcinobfflfkmjaadoor", sum := "77e23a4f5e3d1ade63a11fc979649a7a68589db57c156a85c8f9c44d2266f667", checked := Tryd.checked }
namespace Rows
def none {H : Type} : Left H := { results := [], args := [] }

/- WHAT THE LISTED PACKAGE-LEVEL VARIABLES READ AS WHEN THE CALL BEGINS. Each datum BY PROGRAM (the guide's laid-datum.mjs) off the statement by which the dump's own 'gosem.cut.vars' lays the variable. In a bare row this is a premise. The card (YtcinobfflfkmjaaDoorCards.lean) ties it to the program's text. -/
def laid_unicode_utf8_acceptRanges {H : Type} : DataW H := .agg [.agg [.lit (.int .u8 128), .lit (.int .u8 191)], .agg [.lit (.int .u8 160), .lit (.int .u8 191)], .agg [.lit (.int .u8 128), .lit (.int .u8 159)], .agg [.lit (.int .u8 144), .lit (.int .u8 191)], .agg [.lit (.int .u8 128), .lit (.int .u8 143)], .agg [.lit (.int .u8 0), .lit (.int .u8 0)], .agg [.lit (.int .u8 0), .lit (.int .u8 0)], .agg [.lit (.int .u8 0), .lit (.int .u8 0)], .agg [.lit (.int .u8 0), .lit (.int .u8 0)], .agg [.lit (.int .u8 0), .lit (.int .u8 0)], .agg [.lit (.int .u8 0), .lit (.int .u8 0)], .agg [.lit (.int .u8 0), .lit (.int .u8 0)], .agg [.lit (.int .u8 0), .lit (.int .u8 0)], .agg [.lit (.int .u8 0), .lit (.int .u8 0)], .agg [.lit (.int .u8 0), .lit (.int .u8 0)], .agg [.lit (.int .u8 0), .lit (.int .u8 0)]]
/-- One of Go's own tables, pinned by name: the form's constant. -/
def laid_unicode_utf8_first : DataW Unit := Go.Pinned.utf8First

/-- 'bureaulaw13.ObjectFinds': WHATEVER THE INPUT: true; the input reads as it did. -/
def objectFindsSpec : ChangeSpec := { name := "objectFinds", fn := fun _ => fun
  | [d1, d2, d3] => { results := [.lit (.bool true)], args := [d1, d2, d3] }
  | _ => none }
def objectFindsRow : OpenClaim := { program := "ytcinobfflfkmjaadoor", sum := "77e23a4f5e3d1ade63a11fc979649a7a68589db57c156a85c8f9c44d2266f667", func := "bureau/bureaulaw13.ObjectFinds", spec := "objectFinds", inPlace := ["internal/bytealg.CountString", "internal/bytealg.IndexByteString", "internal/bytealg.IndexString"], named := ["unicode/utf8.first", "unicode/utf8.acceptRanges", "internal/bytealg.MaxLen"], apart := false, laid := [("unicode/utf8.acceptRanges", laid_unicode_utf8_acceptRanges), ("unicode/utf8.first", laid_unicode_utf8_first)] }
def ObjectFindsSaid : Prop := objectFindsRow.holds Tryd.pinned (OpenSpec.ofChange objectFindsSpec)

/-- ITS FALSE NEIGHBOUR: 'it returns false'. Refute it at one input. -/
def objectFindsWrong : ChangeSpec := { name := "objectFinds", fn := fun _ => fun
  | [d1, d2, d3] => { results := [.lit (.bool false)], args := [d1, d2, d3] }
  | _ => none }
def ObjectFindsWrongFalsely : Prop := objectFindsRow.holds Tryd.pinned (OpenSpec.ofChange objectFindsWrong)

/-- 'bureaulaw13.ObjectRows': WHATEVER THE INPUT: true; the input reads as it did. -/
def objectRowsSpec : ChangeSpec := { name := "objectRows", fn := fun _ => fun
  | [d1, d2] => { results := [.lit (.bool true)], args := [d1, d2] }
  | _ => none }
def objectRowsRow : OpenClaim := { program := "ytcinobfflfkmjaadoor", sum := "77e23a4f5e3d1ade63a11fc979649a7a68589db57c156a85c8f9c44d2266f667", func := "bureau/bureaulaw13.ObjectRows", spec := "objectRows", inPlace := ["internal/bytealg.CountString", "internal/bytealg.IndexByteString", "internal/bytealg.IndexString"], named := ["unicode/utf8.first", "unicode/utf8.acceptRanges", "internal/bytealg.MaxLen"], apart := false, laid := [("unicode/utf8.acceptRanges", laid_unicode_utf8_acceptRanges), ("unicode/utf8.first", laid_unicode_utf8_first)] }
def ObjectRowsSaid : Prop := objectRowsRow.holds Tryd.pinned (OpenSpec.ofChange objectRowsSpec)

/-- ITS FALSE NEIGHBOUR: 'it returns false'. Refute it at one input. -/
def objectRowsWrong : ChangeSpec := { name := "objectRows", fn := fun _ => fun
  | [d1, d2] => { results := [.lit (.bool false)], args := [d1, d2] }
  | _ => none }
def ObjectRowsWrongFalsely : Prop := objectRowsRow.holds Tryd.pinned (OpenSpec.ofChange objectRowsWrong)

/-- 'bureaulaw13.ObjectBrackets': WHATEVER THE INPUT: true; the input reads as it did. -/
def objectBracketsSpec : ChangeSpec := { name := "objectBrackets", fn := fun _ => fun
  | [d1, d2, d3] => { results := [.lit (.bool true)], args := [d1, d2, d3] }
  | _ => none }
def objectBracketsRow : OpenClaim := { program := "ytcinobfflfkmjaadoor", sum := "77e23a4f5e3d1ade63a11fc979649a7a68589db57c156a85c8f9c44d2266f667", func := "bureau/bureaulaw13.ObjectBrackets", spec := "objectBrackets", inPlace := ["internal/bytealg.CountString", "internal/bytealg.IndexByteString", "internal/bytealg.IndexString"], named := ["unicode/utf8.first", "unicode/utf8.acceptRanges", "internal/bytealg.MaxLen"], apart := false, laid := [("unicode/utf8.acceptRanges", laid_unicode_utf8_acceptRanges), ("unicode/utf8.first", laid_unicode_utf8_first)] }
def ObjectBracketsSaid : Prop := objectBracketsRow.holds Tryd.pinned (OpenSpec.ofChange objectBracketsSpec)

/-- ITS FALSE NEIGHBOUR: 'it returns false'. Refute it at one input. -/
def objectBracketsWrong : ChangeSpec := { name := "objectBrackets", fn := fun _ => fun
  | [d1, d2, d3] => { results := [.lit (.bool false)], args := [d1, d2, d3] }
  | _ => none }
def ObjectBracketsWrongFalsely : Prop := objectBracketsRow.holds Tryd.pinned (OpenSpec.ofChange objectBracketsWrong)

/-- 'bureaulaw13.ObjectQuotes': WHATEVER THE INPUT: true; the input reads as it did. -/
def objectQuotesSpec : ChangeSpec := { name := "objectQuotes", fn := fun _ => fun
  | [d1, d2, d3] => { results := [.lit (.bool true)], args := [d1, d2, d3] }
  | _ => none }
def objectQuotesRow : OpenClaim := { program := "ytcinobfflfkmjaadoor", sum := "77e23a4f5e3d1ade63a11fc979649a7a68589db57c156a85c8f9c44d2266f667", func := "bureau/bureaulaw13.ObjectQuotes", spec := "objectQuotes", inPlace := ["internal/bytealg.CountString", "internal/bytealg.IndexByteString", "internal/bytealg.IndexString"], named := ["unicode/utf8.first", "unicode/utf8.acceptRanges", "internal/bytealg.MaxLen"], apart := false, laid := [("unicode/utf8.acceptRanges", laid_unicode_utf8_acceptRanges), ("unicode/utf8.first", laid_unicode_utf8_first)] }
def ObjectQuotesSaid : Prop := objectQuotesRow.holds Tryd.pinned (OpenSpec.ofChange objectQuotesSpec)

/-- ITS FALSE NEIGHBOUR: 'it returns false'. Refute it at one input. -/
def objectQuotesWrong : ChangeSpec := { name := "objectQuotes", fn := fun _ => fun
  | [d1, d2, d3] => { results := [.lit (.bool false)], args := [d1, d2, d3] }
  | _ => none }
def ObjectQuotesWrongFalsely : Prop := objectQuotesRow.holds Tryd.pinned (OpenSpec.ofChange objectQuotesWrong)

/- THE SECOND FORM. 'bulk': how many values and letters a reading holds, each counted each time it is reached (what is shared counts as often as it is met; a slice's spare places count too). A statement '..UptoSaid' is the law's where the arguments, and the package variables that the reading takes, are together of bulk at most 1048576: NARROWER than '..Said'. Prove '..Said' where nothing that the law and all that it calls make is longer than what came in: it says more and counts as full. Else prove '..UptoSaid'. A law counts once. -/
mutual
def uptoBulk {H : Type} : DataW H → Nat
  | .lit (.string bytes) => bytes.length + 1
  | .lit _ => 1
  | .nil => 1
  | .ptr d => uptoBulk d + 1
  | .slice elems spare => uptoBulkAll elems + uptoBulkAll spare + 1
  | .agg parts => uptoBulkAll parts + 1
  | .iface _ d => uptoBulk d + 1
  | .map entries => uptoBulkEntries entries + 1
  | .held _ => 1
def uptoBulkAll {H : Type} : List (DataW H) → Nat
  | [] => 0
  | d :: r => uptoBulk d + uptoBulkAll r
def uptoBulkEntries {H : Type} : List (Lit × DataW H) → Nat
  | [] => 0
  | x :: r => uptoBulkEntry x + uptoBulkEntries r
def uptoBulkEntry {H : Type} : Lit × DataW H → Nat
  | (.string bytes, d) => bytes.length + uptoBulk d + 1
  | (_, d) => uptoBulk d + 1
 end
def uptoSmall : (H : Type) → List (DataW H) → Bool := fun _ ds => decide (uptoBulkAll ds ≤ 1048576)
def OpenSpec.upto (s : _root_.Go.ChangeSpec) : _root_.Go.OpenSpec := { _root_.Go.OpenSpec.ofChange s with cond := some uptoSmall }

/-- 'bureaulaw13.ObjectFinds', WHERE WHAT IT READS IS OF BULK AT MOST 1048576: true; the input reads as it did. -/
def objectFindsUptoRow : OpenClaim := { program := "ytcinobfflfkmjaadoor", sum := "77e23a4f5e3d1ade63a11fc979649a7a68589db57c156a85c8f9c44d2266f667", func := "bureau/bureaulaw13.ObjectFinds", spec := "objectFinds", inPlace := ["internal/bytealg.CountString", "internal/bytealg.IndexByteString", "internal/bytealg.IndexString"], named := ["unicode/utf8.first", "unicode/utf8.acceptRanges", "internal/bytealg.MaxLen"], apart := false, laid := [("unicode/utf8.acceptRanges", laid_unicode_utf8_acceptRanges), ("unicode/utf8.first", laid_unicode_utf8_first)], narrowed := true }
def ObjectFindsUptoSaid : Prop := objectFindsUptoRow.holds Tryd.pinned (OpenSpec.upto objectFindsSpec)

/-- 'bureaulaw13.ObjectRows', WHERE WHAT IT READS IS OF BULK AT MOST 1048576: true; the input reads as it did. -/
def objectRowsUptoRow : OpenClaim := { program := "ytcinobfflfkmjaadoor", sum := "77e23a4f5e3d1ade63a11fc979649a7a68589db57c156a85c8f9c44d2266f667", func := "bureau/bureaulaw13.ObjectRows", spec := "objectRows", inPlace := ["internal/bytealg.CountString", "internal/bytealg.IndexByteString", "internal/bytealg.IndexString"], named := ["unicode/utf8.first", "unicode/utf8.acceptRanges", "internal/bytealg.MaxLen"], apart := false, laid := [("unicode/utf8.acceptRanges", laid_unicode_utf8_acceptRanges), ("unicode/utf8.first", laid_unicode_utf8_first)], narrowed := true }
def ObjectRowsUptoSaid : Prop := objectRowsUptoRow.holds Tryd.pinned (OpenSpec.upto objectRowsSpec)

/-- 'bureaulaw13.ObjectBrackets', WHERE WHAT IT READS IS OF BULK AT MOST 1048576: true; the input reads as it did. -/
def objectBracketsUptoRow : OpenClaim := { program := "ytcinobfflfkmjaadoor", sum := "77e23a4f5e3d1ade63a11fc979649a7a68589db57c156a85c8f9c44d2266f667", func := "bureau/bureaulaw13.ObjectBrackets", spec := "objectBrackets", inPlace := ["internal/bytealg.CountString", "internal/bytealg.IndexByteString", "internal/bytealg.IndexString"], named := ["unicode/utf8.first", "unicode/utf8.acceptRanges", "internal/bytealg.MaxLen"], apart := false, laid := [("unicode/utf8.acceptRanges", laid_unicode_utf8_acceptRanges), ("unicode/utf8.first", laid_unicode_utf8_first)], narrowed := true }
def ObjectBracketsUptoSaid : Prop := objectBracketsUptoRow.holds Tryd.pinned (OpenSpec.upto objectBracketsSpec)

/-- 'bureaulaw13.ObjectQuotes', WHERE WHAT IT READS IS OF BULK AT MOST 1048576: true; the input reads as it did. -/
def objectQuotesUptoRow : OpenClaim := { program := "ytcinobfflfkmjaadoor", sum := "77e23a4f5e3d1ade63a11fc979649a7a68589db57c156a85c8f9c44d2266f667", func := "bureau/bureaulaw13.ObjectQuotes", spec := "objectQuotes", inPlace := ["internal/bytealg.CountString", "internal/bytealg.IndexByteString", "internal/bytealg.IndexString"], named := ["unicode/utf8.first", "unicode/utf8.acceptRanges", "internal/bytealg.MaxLen"], apart := false, laid := [("unicode/utf8.acceptRanges", laid_unicode_utf8_acceptRanges), ("unicode/utf8.first", laid_unicode_utf8_first)], narrowed := true }
def ObjectQuotesUptoSaid : Prop := objectQuotesUptoRow.holds Tryd.pinned (OpenSpec.upto objectQuotesSpec)

end Rows
end Go.Proofs.YtcinobfflfkmjaaDoor
