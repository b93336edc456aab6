/-
  NARROWER THAN 'FOR EVERY INPUT', by the rows' own cells (each row's printed sentence says how): GlyphEncodes: laid · GlyphMoves: laid · GlyphSigns: laid · GlyphJoins: laid · GlyphBack: laid · GlyphCovers: laid.
  DERIVED. THE GIVEN ROWS OF THIS SEAT. 6 by the template 'for every input the law returns true; each argument reads behind the call as it read before'; 0 by the template 'total and deterministic' (their statements: YtodlhgpmenhnoaaDoorTotals.lean).
  GIVEN WITH THE SEED: the statements are not yours to turn. If you find one false, say at which input.
  Laid BY PROGRAM, IN A SANDBOX (cutbox-rows.mjs): the forced cells as the released guide's own fill.sh prints them over the translation 23d6944af217149f… (all of the seat's roots in one cut). By AI agents, Wed Nov 11 2026. No macro, syntax, notation, axiom, sorry.
-/
import Derived.Test.YtodlhgpmenhnoaaDoorChecked
import GoSem.PinnedTables
import GoSem.Claim
import GoSem.ClaimJoined
import GoSem.ClaimMapViews
import Derived.JoinedTies
import Derived.KernelRfl
namespace Go.Proofs.YtodlhgpmenhnoaaDoor
/- THE CELL 'sum', in the pinned program and in every row, IS THE sha256 OF THE DUMP (.gsa) THAT YtodlhgpmenhnoaaDoorProg.lean LOADS. Nothing in Lean hashes anything: it is a label: what it is worth is what the hold of that sum in a sandbox is worth. -/
noncomputable def Tryd.pinned : Pinned := { name := "ytodlhgpmenhnoaadoor", sum := "23d6944af217149f3c01d347f0303fcacd4f604eda92c440864bccf0baec2ee5", checked := Tryd.checked }
namespace Rows
def none {H : Type} : Left H := { results := [], args := [] }

/- WHAT THE LISTED PACKAGE-LEVEL VARIABLES READ AS WHEN THE CALL BEGINS. Each datum BY PROGRAM (the guide's laid-datum.mjs) off the statement by which the dump's own 'gosem.cut.vars' lays the variable. In a bare row this is a premise. The card (YtodlhgpmenhnoaaDoorCards.lean) ties it to the program's text. -/
def laid_unicode_utf8_acceptRanges {H : Type} : DataW H := .agg [.agg [.lit (.int .u8 128), .lit (.int .u8 191)], .agg [.lit (.int .u8 160), .lit (.int .u8 191)], .agg [.lit (.int .u8 128), .lit (.int .u8 159)], .agg [.lit (.int .u8 144), .lit (.int .u8 191)], .agg [.lit (.int .u8 128), .lit (.int .u8 143)], .agg [.lit (.int .u8 0), .lit (.int .u8 0)], .agg [.lit (.int .u8 0), .lit (.int .u8 0)], .agg [.lit (.int .u8 0), .lit (.int .u8 0)], .agg [.lit (.int .u8 0), .lit (.int .u8 0)], .agg [.lit (.int .u8 0), .lit (.int .u8 0)], .agg [.lit (.int .u8 0), .lit (.int .u8 0)], .agg [.lit (.int .u8 0), .lit (.int .u8 0)], .agg [.lit (.int .u8 0), .lit (.int .u8 0)], .agg [.lit (.int .u8 0), .lit (.int .u8 0)], .agg [.lit (.int .u8 0), .lit (.int .u8 0)], .agg [.lit (.int .u8 0), .lit (.int .u8 0)]]
/-- One of Go's own tables, pinned by name: the form's constant. -/
def laid_unicode_utf8_first : DataW Unit := Go.Pinned.utf8First

/-- 'bureaulaw02.GlyphEncodes': WHATEVER THE INPUT: true; the input reads as it did. -/
def glyphEncodesSpec : ChangeSpec := { name := "glyphEncodes", fn := fun _ => fun
  | [d] => { results := [.lit (.bool true)], args := [d] }
  | _ => none }
def glyphEncodesRow : OpenClaim := { program := "ytodlhgpmenhnoaadoor", sum := "23d6944af217149f3c01d347f0303fcacd4f604eda92c440864bccf0baec2ee5", func := "bureau/bureaulaw02.GlyphEncodes", spec := "glyphEncodes", named := ["unicode/utf8.first", "unicode/utf8.acceptRanges"], apart := false, laid := [("unicode/utf8.acceptRanges", laid_unicode_utf8_acceptRanges), ("unicode/utf8.first", laid_unicode_utf8_first)] }
def GlyphEncodesSaid : Prop := glyphEncodesRow.holds Tryd.pinned (OpenSpec.ofChange glyphEncodesSpec)

/-- ITS FALSE NEIGHBOUR: 'it returns false'. Refute it at one input. -/
def glyphEncodesWrong : ChangeSpec := { name := "glyphEncodes", fn := fun _ => fun
  | [d] => { results := [.lit (.bool false)], args := [d] }
  | _ => none }
def GlyphEncodesWrongFalsely : Prop := glyphEncodesRow.holds Tryd.pinned (OpenSpec.ofChange glyphEncodesWrong)

/-- 'bureaulaw02.GlyphMoves': WHATEVER THE INPUT: true; the input reads as it did. -/
def glyphMovesSpec : ChangeSpec := { name := "glyphMoves", fn := fun _ => fun
  | [d1, d2] => { results := [.lit (.bool true)], args := [d1, d2] }
  | _ => none }
def glyphMovesRow : OpenClaim := { program := "ytodlhgpmenhnoaadoor", sum := "23d6944af217149f3c01d347f0303fcacd4f604eda92c440864bccf0baec2ee5", func := "bureau/bureaulaw02.GlyphMoves", spec := "glyphMoves", named := ["unicode/utf8.first", "unicode/utf8.acceptRanges"], apart := false, laid := [("unicode/utf8.acceptRanges", laid_unicode_utf8_acceptRanges), ("unicode/utf8.first", laid_unicode_utf8_first)] }
def GlyphMovesSaid : Prop := glyphMovesRow.holds Tryd.pinned (OpenSpec.ofChange glyphMovesSpec)

/-- ITS FALSE NEIGHBOUR: 'it returns false'. Refute it at one input. -/
def glyphMovesWrong : ChangeSpec := { name := "glyphMoves", fn := fun _ => fun
  | [d1, d2] => { results := [.lit (.bool false)], args := [d1, d2] }
  | _ => none }
def GlyphMovesWrongFalsely : Prop := glyphMovesRow.holds Tryd.pinned (OpenSpec.ofChange glyphMovesWrong)

/-- 'bureaulaw02.GlyphSigns': WHATEVER THE INPUT: true; the input reads as it did. -/
def glyphSignsSpec : ChangeSpec := { name := "glyphSigns", fn := fun _ => fun
  | [d] => { results := [.lit (.bool true)], args := [d] }
  | _ => none }
def glyphSignsRow : OpenClaim := { program := "ytodlhgpmenhnoaadoor", sum := "23d6944af217149f3c01d347f0303fcacd4f604eda92c440864bccf0baec2ee5", func := "bureau/bureaulaw02.GlyphSigns", spec := "glyphSigns", named := ["unicode/utf8.first", "unicode/utf8.acceptRanges"], apart := false, laid := [("unicode/utf8.acceptRanges", laid_unicode_utf8_acceptRanges), ("unicode/utf8.first", laid_unicode_utf8_first)] }
def GlyphSignsSaid : Prop := glyphSignsRow.holds Tryd.pinned (OpenSpec.ofChange glyphSignsSpec)

/-- ITS FALSE NEIGHBOUR: 'it returns false'. Refute it at one input. -/
def glyphSignsWrong : ChangeSpec := { name := "glyphSigns", fn := fun _ => fun
  | [d] => { results := [.lit (.bool false)], args := [d] }
  | _ => none }
def GlyphSignsWrongFalsely : Prop := glyphSignsRow.holds Tryd.pinned (OpenSpec.ofChange glyphSignsWrong)

/-- 'bureaulaw02.GlyphJoins': WHATEVER THE INPUT: true; the input reads as it did. -/
def glyphJoinsSpec : ChangeSpec := { name := "glyphJoins", fn := fun _ => fun
  | [d1, d2] => { results := [.lit (.bool true)], args := [d1, d2] }
  | _ => none }
def glyphJoinsRow : OpenClaim := { program := "ytodlhgpmenhnoaadoor", sum := "23d6944af217149f3c01d347f0303fcacd4f604eda92c440864bccf0baec2ee5", func := "bureau/bureaulaw02.GlyphJoins", spec := "glyphJoins", named := ["unicode/utf8.first", "unicode/utf8.acceptRanges"], apart := false, laid := [("unicode/utf8.acceptRanges", laid_unicode_utf8_acceptRanges), ("unicode/utf8.first", laid_unicode_utf8_first)] }
def GlyphJoinsSaid : Prop := glyphJoinsRow.holds Tryd.pinned (OpenSpec.ofChange glyphJoinsSpec)

/-- ITS FALSE NEIGHBOUR: 'it returns false'. Refute it at one input. -/
def glyphJoinsWrong : ChangeSpec := { name := "glyphJoins", fn := fun _ => fun
  | [d1, d2] => { results := [.lit (.bool false)], args := [d1, d2] }
  | _ => none }
def GlyphJoinsWrongFalsely : Prop := glyphJoinsRow.holds Tryd.pinned (OpenSpec.ofChange glyphJoinsWrong)

/-- 'bureaulaw02.GlyphBack': WHATEVER THE INPUT: true; the input reads as it did. -/
def glyphBackSpec : ChangeSpec := { name := "glyphBack", fn := fun _ => fun
  | [d] => { results := [.lit (.bool true)], args := [d] }
  | _ => none }
def glyphBackRow : OpenClaim := { program := "ytodlhgpmenhnoaadoor", sum := "23d6944af217149f3c01d347f0303fcacd4f604eda92c440864bccf0baec2ee5", func := "bureau/bureaulaw02.GlyphBack", spec := "glyphBack", named := ["unicode/utf8.first", "unicode/utf8.acceptRanges"], apart := false, laid := [("unicode/utf8.acceptRanges", laid_unicode_utf8_acceptRanges), ("unicode/utf8.first", laid_unicode_utf8_first)] }
def GlyphBackSaid : Prop := glyphBackRow.holds Tryd.pinned (OpenSpec.ofChange glyphBackSpec)

/-- ITS FALSE NEIGHBOUR: 'it returns false'. Refute it at one input. -/
def glyphBackWrong : ChangeSpec := { name := "glyphBack", fn := fun _ => fun
  | [d] => { results := [.lit (.bool false)], args := [d] }
  | _ => none }
def GlyphBackWrongFalsely : Prop := glyphBackRow.holds Tryd.pinned (OpenSpec.ofChange glyphBackWrong)

/-- 'bureaulaw02.GlyphCovers': WHATEVER THE INPUT: true; the input reads as it did. -/
def glyphCoversSpec : ChangeSpec := { name := "glyphCovers", fn := fun _ => fun
  | [d] => { results := [.lit (.bool true)], args := [d] }
  | _ => none }
def glyphCoversRow : OpenClaim := { program := "ytodlhgpmenhnoaadoor", sum := "23d6944af217149f3c01d347f0303fcacd4f604eda92c440864bccf0baec2ee5", func := "bureau/bureaulaw02.GlyphCovers", spec := "glyphCovers", named := ["unicode/utf8.first", "unicode/utf8.acceptRanges"], apart := false, laid := [("unicode/utf8.acceptRanges", laid_unicode_utf8_acceptRanges), ("unicode/utf8.first", laid_unicode_utf8_first)] }
def GlyphCoversSaid : Prop := glyphCoversRow.holds Tryd.pinned (OpenSpec.ofChange glyphCoversSpec)

/-- ITS FALSE NEIGHBOUR: 'it returns false'. Refute it at one input. -/
def glyphCoversWrong : ChangeSpec := { name := "glyphCovers", fn := fun _ => fun
  | [d] => { results := [.lit (.bool false)], args := [d] }
  | _ => none }
def GlyphCoversWrongFalsely : Prop := glyphCoversRow.holds Tryd.pinned (OpenSpec.ofChange glyphCoversWrong)

/- THE SECOND FORM. 'bulk': how many values and letters a reading holds, each counted each time it is reached (what is shared counts as often as it is met; a slice's spare places count too). A statement '..UptoSaid' is the law's where the arguments, and the package variables that the reading takes, are together of bulk at most 1048576: NARROWER than '..Said'. Prove '..Said' where nothing that the law and all that it calls make is longer than what came in: it says more and counts as full. Else prove '..UptoSaid'. A law counts once. -/
mutual
def uptoBulk {H : Type} : DataW H → Nat
  | .lit (.string bytes) => bytes.length + 1
  | .lit _ => 1
  | .nil => 1
  | .ptr d => uptoBulk d + 1
  | .slice elems spare => uptoBulkAll elems + uptoBulkAll spare + 1
  | .agg parts => uptoBulkAll parts + 1
  | .iface _ d => uptoBulk d + 1
  | .map entries => uptoBulkEntries entries + 1
  | .held _ => 1
def uptoBulkAll {H : Type} : List (DataW H) → Nat
  | [] => 0
  | d :: r => uptoBulk d + uptoBulkAll r
def uptoBulkEntries {H : Type} : List (Lit × DataW H) → Nat
  | [] => 0
  | x :: r => uptoBulkEntry x + uptoBulkEntries r
def uptoBulkEntry {H : Type} : Lit × DataW H → Nat
  | (.string bytes, d) => bytes.length + uptoBulk d + 1
  | (_, d) => uptoBulk d + 1
 end
def uptoSmall : (H : Type) → List (DataW H) → Bool := fun _ ds => decide (uptoBulkAll ds ≤ 1048576)
def OpenSpec.upto (s : _root_.Go.ChangeSpec) : _root_.Go.OpenSpec := { _root_.Go.OpenSpec.ofChange s with cond := some uptoSmall }

/-- 'bureaulaw02.GlyphEncodes', WHERE WHAT IT READS IS OF BULK AT MOST 1048576: true; the input reads as it did. -/
def glyphEncodesUptoRow : OpenClaim := { program := "ytodlhgpmenhnoaadoor", sum := "23d6944af217149f3c01d347f0303fcacd4f604eda92c440864bccf0baec2ee5", func := "bureau/bureaulaw02.GlyphEncodes", spec := "glyphEncodes", named := ["unicode/utf8.first", "unicode/utf8.acceptRanges"], apart := false, laid := [("unicode/utf8.acceptRanges", laid_unicode_utf8_acceptRanges), ("unicode/utf8.first", laid_unicode_utf8_first)], narrowed := true }
def GlyphEncodesUptoSaid : Prop := glyphEncodesUptoRow.holds Tryd.pinned (OpenSpec.upto glyphEncodesSpec)

/-- 'bureaulaw02.GlyphMoves', WHERE WHAT IT READS IS OF BULK AT MOST 1048576: true; the input reads as it did. -/
def glyphMovesUptoRow : OpenClaim := { program := "ytodlhgpmenhnoaadoor", sum := "23d6944af217149f3c01d347f0303fcacd4f604eda92c440864bccf0baec2ee5", func := "bureau/bureaulaw02.GlyphMoves", spec := "glyphMoves", named := ["unicode/utf8.first", "unicode/utf8.acceptRanges"], apart := false, laid := [("unicode/utf8.acceptRanges", laid_unicode_utf8_acceptRanges), ("unicode/utf8.first", laid_unicode_utf8_first)], narrowed := true }
def GlyphMovesUptoSaid : Prop := glyphMovesUptoRow.holds Tryd.pinned (OpenSpec.upto glyphMovesSpec)

/-- 'bureaulaw02.GlyphSigns', WHERE WHAT IT READS IS OF BULK AT MOST 1048576: true; the input reads as it did. -/
def glyphSignsUptoRow : OpenClaim := { program := "ytodlhgpmenhnoaadoor", sum := "23d6944af217149f3c01d347f0303fcacd4f604eda92c440864bccf0baec2ee5", func := "bureau/bureaulaw02.GlyphSigns", spec := "glyphSigns", named := ["unicode/utf8.first", "unicode/utf8.acceptRanges"], apart := false, laid := [("unicode/utf8.acceptRanges", laid_unicode_utf8_acceptRanges), ("unicode/utf8.first", laid_unicode_utf8_first)], narrowed := true }
def GlyphSignsUptoSaid : Prop := glyphSignsUptoRow.holds Tryd.pinned (OpenSpec.upto glyphSignsSpec)

/-- 'bureaulaw02.GlyphJoins', WHERE WHAT IT READS IS OF BULK AT MOST 1048576: true; the input reads as it did. -/
def glyphJoinsUptoRow : OpenClaim := { program := "ytodlhgpmenhnoaadoor", sum := "23d6944af217149f3c01d347f0303fcacd4f604eda92c440864bccf0baec2ee5", func := "bureau/bureaulaw02.GlyphJoins", spec := "glyphJoins", named := ["unicode/utf8.first", "unicode/utf8.acceptRanges"], apart := false, laid := [("unicode/utf8.acceptRanges", laid_unicode_utf8_acceptRanges), ("unicode/utf8.first", laid_unicode_utf8_first)], narrowed := true }
def GlyphJoinsUptoSaid : Prop := glyphJoinsUptoRow.holds Tryd.pinned (OpenSpec.upto glyphJoinsSpec)

/-- 'bureaulaw02.GlyphBack', WHERE WHAT IT READS IS OF BULK AT MOST 1048576: true; the input reads as it did. -/
def glyphBackUptoRow : OpenClaim := { program := "ytodlhgpmenhnoaadoor", sum := "23d6944af217149f3c01d347f0303fcacd4f604eda92c440864bccf0baec2ee5", func := "bureau/bureaulaw02.GlyphBack", spec := "glyphBack", named := ["unicode/utf8.first", "unicode/utf8.acceptRanges"], apart := false, laid := [("unicode/utf8.acceptRanges", laid_unicode_utf8_acceptRanges), ("unicode/utf8.first", laid_unicode_utf8_first)], narrowed := true }
def GlyphBackUptoSaid : Prop := glyphBackUptoRow.holds Tryd.pinned (OpenSpec.upto glyphBackSpec)

/-- 'bureaulaw02.GlyphCovers', WHERE WHAT IT READS IS OF BULK AT MOST 1048576: true; the input reads as it did. -/
def glyphCoversUptoRow : OpenClaim := { program := "ytodlhgpmenhnoaadoor", sum := "23d6944af217149f3c01d347f0303fcacd4f604eda92c440864bccf0baec2ee5", func := "bureau/bureaulaw02.GlyphCovers", spec := "glyphCovers", named := ["unicode/utf8.first", "unicode/utf8.acceptRanges"], apart := false, laid := [("unicode/utf8.acceptRanges", laid_unicode_utf8_acceptRanges), ("unicode/utf8.first", laid_unicode_utf8_first)], narrowed := true }
def GlyphCoversUptoSaid : Prop := glyphCoversUptoRow.holds Tryd.pinned (OpenSpec.upto glyphCoversSpec)

end Rows
end Go.Proofs.YtodlhgpmenhnoaaDoor
