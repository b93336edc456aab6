/-
  NARROWER THAN 'FOR EVERY INPUT', by the rows' own cells (each row's printed sentence says how): MoveAll: laid · MoveWithin: laid · MoveTwice: laid · MoveFinds: laid · MoveLines: laid · WholeWords: laid · LineWhole: laid · LinePlaces: laid.
  DERIVED. THE GIVEN ROWS OF THIS SEAT. 8 by the template 'for every input the law returns true; each argument reads behind the call as it read before'; 0 by the template 'total and deterministic' (their statements: YtpajakfmahfpkaaDoorTotals.lean).
  GIVEN WITH THE SEED: the statements are not yours to turn. If you find one false, say at which input.
  Laid BY PROGRAM, IN A SANDBOX (cutbox-rows.mjs): the forced cells as the released guide's own fill.sh prints them over the translation d2c54e6f091e5fa8… (all of the seat's roots in one cut). By AI agents, Wed Nov 11 2026. No macro, syntax, notation, axiom, sorry.
-/
import Derived.Test.YtpajakfmahfpkaaDoorChecked
import GoSem.PinnedTables
import GoSem.Claim
import GoSem.ClaimJoined
import GoSem.ClaimMapViews
import Derived.JoinedTies
import Derived.KernelRfl
namespace Go.Proofs.YtpajakfmahfpkaaDoor
/- THE CELL 'sum', in the pinned program and in every row, IS THE sha256 OF THE DUMP (.gsa) THAT YtpajakfmahfpkaaDoorProg.lean LOADS. Nothing in Lean hashes anything: it is a label: what it is worth is what the hold of that sum in a sandbox is worth. -/
noncomputable def Tryd.pinned : Pinned := { name := "ytpajakfmahfpkaadoor", sum := "d2c54e6f091e5fa8507c9fb6eba30994a2107173dfc024c97df4ba1e970a8aba", checked := Tryd.checked }
namespace Rows
def none {H : Type} : Left H := { results := [], args := [] }

/- WHAT THE LISTED PACKAGE-LEVEL VARIABLES READ AS WHEN THE CALL BEGINS. Each datum BY PROGRAM (the guide's laid-datum.mjs) off the statement by which the dump's own 'gosem.cut.vars' lays the variable. In a bare row this is a premise. The card (YtpajakfmahfpkaaDoorCards.lean) ties it to the program's text. -/
def laid_unicode_utf8_acceptRanges {H : Type} : DataW H := .agg [.agg [.lit (.int .u8 128), .lit (.int .u8 191)], .agg [.lit (.int .u8 160), .lit (.int .u8 191)], .agg [.lit (.int .u8 128), .lit (.int .u8 159)], .agg [.lit (.int .u8 144), .lit (.int .u8 191)], .agg [.lit (.int .u8 128), .lit (.int .u8 143)], .agg [.lit (.int .u8 0), .lit (.int .u8 0)], .agg [.lit (.int .u8 0), .lit (.int .u8 0)], .agg [.lit (.int .u8 0), .lit (.int .u8 0)], .agg [.lit (.int .u8 0), .lit (.int .u8 0)], .agg [.lit (.int .u8 0), .lit (.int .u8 0)], .agg [.lit (.int .u8 0), .lit (.int .u8 0)], .agg [.lit (.int .u8 0), .lit (.int .u8 0)], .agg [.lit (.int .u8 0), .lit (.int .u8 0)], .agg [.lit (.int .u8 0), .lit (.int .u8 0)], .agg [.lit (.int .u8 0), .lit (.int .u8 0)], .agg [.lit (.int .u8 0), .lit (.int .u8 0)]]
/-- One of Go's own tables, pinned by name: the form's constant. -/
def laid_unicode_utf8_first : DataW Unit := Go.Pinned.utf8First

/-- 'bureaulaw12.MoveAll': WHATEVER THE INPUT: true; the input reads as it did. -/
def moveAllSpec : ChangeSpec := { name := "moveAll", fn := fun _ => fun
  | [d1, d2, d3] => { results := [.lit (.bool true)], args := [d1, d2, d3] }
  | _ => none }
def moveAllRow : OpenClaim := { program := "ytpajakfmahfpkaadoor", sum := "d2c54e6f091e5fa8507c9fb6eba30994a2107173dfc024c97df4ba1e970a8aba", func := "bureau/bureaulaw12.MoveAll", spec := "moveAll", inPlace := ["internal/bytealg.CountString", "internal/bytealg.IndexByteString", "internal/bytealg.IndexString"], unfollowed := true, recurses := true, named := ["unicode/utf8.first", "unicode/utf8.acceptRanges", "internal/bytealg.MaxLen"], apart := false, laid := [("unicode/utf8.acceptRanges", laid_unicode_utf8_acceptRanges), ("unicode/utf8.first", laid_unicode_utf8_first)] }
def MoveAllSaid : Prop := moveAllRow.holds Tryd.pinned (OpenSpec.ofChange moveAllSpec)

/-- ITS FALSE NEIGHBOUR: 'it returns false'. Refute it at one input. -/
def moveAllWrong : ChangeSpec := { name := "moveAll", fn := fun _ => fun
  | [d1, d2, d3] => { results := [.lit (.bool false)], args := [d1, d2, d3] }
  | _ => none }
def MoveAllWrongFalsely : Prop := moveAllRow.holds Tryd.pinned (OpenSpec.ofChange moveAllWrong)

/-- 'bureaulaw12.MoveWithin': WHATEVER THE INPUT: true; the input reads as it did. -/
def moveWithinSpec : ChangeSpec := { name := "moveWithin", fn := fun _ => fun
  | [d1, d2, d3] => { results := [.lit (.bool true)], args := [d1, d2, d3] }
  | _ => none }
def moveWithinRow : OpenClaim := { program := "ytpajakfmahfpkaadoor", sum := "d2c54e6f091e5fa8507c9fb6eba30994a2107173dfc024c97df4ba1e970a8aba", func := "bureau/bureaulaw12.MoveWithin", spec := "moveWithin", inPlace := ["internal/bytealg.CountString", "internal/bytealg.IndexByteString", "internal/bytealg.IndexString"], unfollowed := true, recurses := true, named := ["unicode/utf8.first", "unicode/utf8.acceptRanges", "internal/bytealg.MaxLen"], apart := false, laid := [("unicode/utf8.acceptRanges", laid_unicode_utf8_acceptRanges), ("unicode/utf8.first", laid_unicode_utf8_first)] }
def MoveWithinSaid : Prop := moveWithinRow.holds Tryd.pinned (OpenSpec.ofChange moveWithinSpec)

/-- ITS FALSE NEIGHBOUR: 'it returns false'. Refute it at one input. -/
def moveWithinWrong : ChangeSpec := { name := "moveWithin", fn := fun _ => fun
  | [d1, d2, d3] => { results := [.lit (.bool false)], args := [d1, d2, d3] }
  | _ => none }
def MoveWithinWrongFalsely : Prop := moveWithinRow.holds Tryd.pinned (OpenSpec.ofChange moveWithinWrong)

/-- 'bureaulaw12.MoveTwice': WHATEVER THE INPUT: true; the input reads as it did. -/
def moveTwiceSpec : ChangeSpec := { name := "moveTwice", fn := fun _ => fun
  | [d1, d2, d3] => { results := [.lit (.bool true)], args := [d1, d2, d3] }
  | _ => none }
def moveTwiceRow : OpenClaim := { program := "ytpajakfmahfpkaadoor", sum := "d2c54e6f091e5fa8507c9fb6eba30994a2107173dfc024c97df4ba1e970a8aba", func := "bureau/bureaulaw12.MoveTwice", spec := "moveTwice", inPlace := ["internal/bytealg.CountString", "internal/bytealg.IndexByteString", "internal/bytealg.IndexString"], unfollowed := true, recurses := true, named := ["unicode/utf8.first", "unicode/utf8.acceptRanges", "internal/bytealg.MaxLen"], apart := false, laid := [("unicode/utf8.acceptRanges", laid_unicode_utf8_acceptRanges), ("unicode/utf8.first", laid_unicode_utf8_first)] }
def MoveTwiceSaid : Prop := moveTwiceRow.holds Tryd.pinned (OpenSpec.ofChange moveTwiceSpec)

/-- ITS FALSE NEIGHBOUR: 'it returns false'. Refute it at one input. -/
def moveTwiceWrong : ChangeSpec := { name := "moveTwice", fn := fun _ => fun
  | [d1, d2, d3] => { results := [.lit (.bool false)], args := [d1, d2, d3] }
  | _ => none }
def MoveTwiceWrongFalsely : Prop := moveTwiceRow.holds Tryd.pinned (OpenSpec.ofChange moveTwiceWrong)

/-- 'bureaulaw12.MoveFinds': WHATEVER THE INPUT: true; the input reads as it did. -/
def moveFindsSpec : ChangeSpec := { name := "moveFinds", fn := fun _ => fun
  | [d1, d2, d3] => { results := [.lit (.bool true)], args := [d1, d2, d3] }
  | _ => none }
def moveFindsRow : OpenClaim := { program := "ytpajakfmahfpkaadoor", sum := "d2c54e6f091e5fa8507c9fb6eba30994a2107173dfc024c97df4ba1e970a8aba", func := "bureau/bureaulaw12.MoveFinds", spec := "moveFinds", inPlace := ["internal/bytealg.CountString", "internal/bytealg.IndexByteString", "internal/bytealg.IndexString"], unfollowed := true, recurses := true, named := ["unicode/utf8.first", "unicode/utf8.acceptRanges", "internal/bytealg.MaxLen"], apart := false, laid := [("unicode/utf8.acceptRanges", laid_unicode_utf8_acceptRanges), ("unicode/utf8.first", laid_unicode_utf8_first)] }
def MoveFindsSaid : Prop := moveFindsRow.holds Tryd.pinned (OpenSpec.ofChange moveFindsSpec)

/-- ITS FALSE NEIGHBOUR: 'it returns false'. Refute it at one input. -/
def moveFindsWrong : ChangeSpec := { name := "moveFinds", fn := fun _ => fun
  | [d1, d2, d3] => { results := [.lit (.bool false)], args := [d1, d2, d3] }
  | _ => none }
def MoveFindsWrongFalsely : Prop := moveFindsRow.holds Tryd.pinned (OpenSpec.ofChange moveFindsWrong)

/-- 'bureaulaw12.MoveLines': WHATEVER THE INPUT: true; the input reads as it did. -/
def moveLinesSpec : ChangeSpec := { name := "moveLines", fn := fun _ => fun
  | [d1, d2, d3] => { results := [.lit (.bool true)], args := [d1, d2, d3] }
  | _ => none }
def moveLinesRow : OpenClaim := { program := "ytpajakfmahfpkaadoor", sum := "d2c54e6f091e5fa8507c9fb6eba30994a2107173dfc024c97df4ba1e970a8aba", func := "bureau/bureaulaw12.MoveLines", spec := "moveLines", inPlace := ["internal/bytealg.CountString", "internal/bytealg.IndexByteString", "internal/bytealg.IndexString"], unfollowed := true, recurses := true, named := ["unicode/utf8.first", "unicode/utf8.acceptRanges", "internal/bytealg.MaxLen"], apart := false, laid := [("unicode/utf8.acceptRanges", laid_unicode_utf8_acceptRanges), ("unicode/utf8.first", laid_unicode_utf8_first)] }
def MoveLinesSaid : Prop := moveLinesRow.holds Tryd.pinned (OpenSpec.ofChange moveLinesSpec)

/-- ITS FALSE NEIGHBOUR: 'it returns false'. Refute it at one input. -/
def moveLinesWrong : ChangeSpec := { name := "moveLines", fn := fun _ => fun
  | [d1, d2, d3] => { results := [.lit (.bool false)], args := [d1, d2, d3] }
  | _ => none }
def MoveLinesWrongFalsely : Prop := moveLinesRow.holds Tryd.pinned (OpenSpec.ofChange moveLinesWrong)

/-- 'bureautop.WholeWords': WHATEVER THE INPUT: true; the input reads as it did. -/
def wholeWordsSpec : ChangeSpec := { name := "wholeWords", fn := fun _ => fun
  | [d] => { results := [.lit (.bool true)], args := [d] }
  | _ => none }
def wholeWordsRow : OpenClaim := { program := "ytpajakfmahfpkaadoor", sum := "d2c54e6f091e5fa8507c9fb6eba30994a2107173dfc024c97df4ba1e970a8aba", func := "bureau/bureautop.WholeWords", spec := "wholeWords", inPlace := ["internal/bytealg.CountString", "internal/bytealg.IndexByteString", "internal/bytealg.IndexString"], unfollowed := true, recurses := true, named := ["unicode/utf8.first", "unicode/utf8.acceptRanges", "internal/bytealg.MaxLen"], apart := false, laid := [("unicode/utf8.acceptRanges", laid_unicode_utf8_acceptRanges), ("unicode/utf8.first", laid_unicode_utf8_first)] }
def WholeWordsSaid : Prop := wholeWordsRow.holds Tryd.pinned (OpenSpec.ofChange wholeWordsSpec)

/-- ITS FALSE NEIGHBOUR: 'it returns false'. Refute it at one input. -/
def wholeWordsWrong : ChangeSpec := { name := "wholeWords", fn := fun _ => fun
  | [d] => { results := [.lit (.bool false)], args := [d] }
  | _ => none }
def WholeWordsWrongFalsely : Prop := wholeWordsRow.holds Tryd.pinned (OpenSpec.ofChange wholeWordsWrong)

/-- 'bureaulaw06.LineWhole': WHATEVER THE INPUT: true; the input reads as it did. -/
def lineWholeSpec : ChangeSpec := { name := "lineWhole", fn := fun _ => fun
  | [d1, d2, d3] => { results := [.lit (.bool true)], args := [d1, d2, d3] }
  | _ => none }
def lineWholeRow : OpenClaim := { program := "ytpajakfmahfpkaadoor", sum := "d2c54e6f091e5fa8507c9fb6eba30994a2107173dfc024c97df4ba1e970a8aba", func := "bureau/bureaulaw06.LineWhole", spec := "lineWhole", inPlace := ["internal/bytealg.CountString", "internal/bytealg.IndexByteString", "internal/bytealg.IndexString"], named := ["internal/bytealg.MaxLen", "unicode/utf8.first", "unicode/utf8.acceptRanges"], apart := false, laid := [("unicode/utf8.acceptRanges", laid_unicode_utf8_acceptRanges), ("unicode/utf8.first", laid_unicode_utf8_first)] }
def LineWholeSaid : Prop := lineWholeRow.holds Tryd.pinned (OpenSpec.ofChange lineWholeSpec)

/-- ITS FALSE NEIGHBOUR: 'it returns false'. Refute it at one input. -/
def lineWholeWrong : ChangeSpec := { name := "lineWhole", fn := fun _ => fun
  | [d1, d2, d3] => { results := [.lit (.bool false)], args := [d1, d2, d3] }
  | _ => none }
def LineWholeWrongFalsely : Prop := lineWholeRow.holds Tryd.pinned (OpenSpec.ofChange lineWholeWrong)

/-- 'bureaulaw06.LinePlaces': WHATEVER THE INPUT: true; the input reads as it did. -/
def linePlacesSpec : ChangeSpec := { name := "linePlaces", fn := fun _ => fun
  | [d1, d2, d3] => { results := [.lit (.bool true)], args := [d1, d2, d3] }
  | _ => none }
def linePlacesRow : OpenClaim := { program := "ytpajakfmahfpkaadoor", sum := "d2c54e6f091e5fa8507c9fb6eba30994a2107173dfc024c97df4ba1e970a8aba", func := "bureau/bureaulaw06.LinePlaces", spec := "linePlaces", inPlace := ["internal/bytealg.CountString", "internal/bytealg.IndexByteString", "internal/bytealg.IndexString"], named := ["internal/bytealg.MaxLen", "unicode/utf8.first", "unicode/utf8.acceptRanges"], apart := false, laid := [("unicode/utf8.acceptRanges", laid_unicode_utf8_acceptRanges), ("unicode/utf8.first", laid_unicode_utf8_first)] }
def LinePlacesSaid : Prop := linePlacesRow.holds Tryd.pinned (OpenSpec.ofChange linePlacesSpec)

/-- ITS FALSE NEIGHBOUR: 'it returns false'. Refute it at one input. -/
def linePlacesWrong : ChangeSpec := { name := "linePlaces", fn := fun _ => fun
  | [d1, d2, d3] => { results := [.lit (.bool false)], args := [d1, d2, d3] }
  | _ => none }
def LinePlacesWrongFalsely : Prop := linePlacesRow.holds Tryd.pinned (OpenSpec.ofChange linePlacesWrong)

/- THE SECOND FORM. 'bulk': how many values and letters a reading holds, each counted each time it is reached (what is shared counts as often as it is met; a slice's spare places count too). A statement '..UptoSaid' is the law's where the arguments, and the package variables that the reading takes, are together of bulk at most 1048576: NARROWER than '..Said'. Prove '..Said' where nothing that the law and all that it calls make is longer than what came in: it says more and counts as full. Else prove '..UptoSaid'. A law counts once. -/
mutual
def uptoBulk {H : Type} : DataW H → Nat
  | .lit (.string bytes) => bytes.length + 1
  | .lit _ => 1
  | .nil => 1
  | .ptr d => uptoBulk d + 1
  | .slice elems spare => uptoBulkAll elems + uptoBulkAll spare + 1
  | .agg parts => uptoBulkAll parts + 1
  | .iface _ d => uptoBulk d + 1
  | .map entries => uptoBulkEntries entries + 1
  | .held _ => 1
def uptoBulkAll {H : Type} : List (DataW H) → Nat
  | [] => 0
  | d :: r => uptoBulk d + uptoBulkAll r
def uptoBulkEntries {H : Type} : List (Lit × DataW H) → Nat
  | [] => 0
  | x :: r => uptoBulkEntry x + uptoBulkEntries r
def uptoBulkEntry {H : Type} : Lit × DataW H → Nat
  | (.string bytes, d) => bytes.length + uptoBulk d + 1
  | (_, d) => uptoBulk d + 1
 end
def uptoSmall : (H : Type) → List (DataW H) → Bool := fun _ ds => decide (uptoBulkAll ds ≤ 1048576)
def OpenSpec.upto (s : _root_.Go.ChangeSpec) : _root_.Go.OpenSpec := { _root_.Go.OpenSpec.ofChange s with cond := some uptoSmall }

/-- 'bureaulaw12.MoveAll', WHERE WHAT IT READS IS OF BULK AT MOST 1048576: true; the input reads as it did. -/
def moveAllUptoRow : OpenClaim := { program := "ytpajakfmahfpkaadoor", sum := "d2c54e6f091e5fa8507c9fb6eba30994a2107173dfc024c97df4ba1e970a8aba", func := "bureau/bureaulaw12.MoveAll", spec := "moveAll", inPlace := ["internal/bytealg.CountString", "internal/bytealg.IndexByteString", "internal/bytealg.IndexString"], unfollowed := true, recurses := true, named := ["unicode/utf8.first", "unicode/utf8.acceptRanges", "internal/bytealg.MaxLen"], apart := false, laid := [("unicode/utf8.acceptRanges", laid_unicode_utf8_acceptRanges), ("unicode/utf8.first", laid_unicode_utf8_first)], narrowed := true }
def MoveAllUptoSaid : Prop := moveAllUptoRow.holds Tryd.pinned (OpenSpec.upto moveAllSpec)

/-- 'bureaulaw12.MoveWithin', WHERE WHAT IT READS IS OF BULK AT MOST 1048576: true; the input reads as it did. -/
def moveWithinUptoRow : OpenClaim := { program := "ytpajakfmahfpkaadoor", sum := "d2c54e6f091e5fa8507c9fb6eba30994a2107173dfc024c97df4ba1e970a8aba", func := "bureau/bureaulaw12.MoveWithin", spec := "moveWithin", inPlace := ["internal/bytealg.CountString", "internal/bytealg.IndexByteString", "internal/bytealg.IndexString"], unfollowed := true, recurses := true, named := ["unicode/utf8.first", "unicode/utf8.acceptRanges", "internal/bytealg.MaxLen"], apart := false, laid := [("unicode/utf8.acceptRanges", laid_unicode_utf8_acceptRanges), ("unicode/utf8.first", laid_unicode_utf8_first)], narrowed := true }
def MoveWithinUptoSaid : Prop := moveWithinUptoRow.holds Tryd.pinned (OpenSpec.upto moveWithinSpec)

/-- 'bureaulaw12.MoveTwice', WHERE WHAT IT READS IS OF BULK AT MOST 1048576: true; the input reads as it did. -/
def moveTwiceUptoRow : OpenClaim := { program := "ytpajakfmahfpkaadoor", sum := "d2c54e6f091e5fa8507c9fb6eba30994a2107173dfc024c97df4ba1e970a8aba", func := "bureau/bureaulaw12.MoveTwice", spec := "moveTwice", inPlace := ["internal/bytealg.CountString", "internal/bytealg.IndexByteString", "internal/bytealg.IndexString"], unfollowed := true, recurses := true, named := ["unicode/utf8.first", "unicode/utf8.acceptRanges", "internal/bytealg.MaxLen"], apart := false, laid := [("unicode/utf8.acceptRanges", laid_unicode_utf8_acceptRanges), ("unicode/utf8.first", laid_unicode_utf8_first)], narrowed := true }
def MoveTwiceUptoSaid : Prop := moveTwiceUptoRow.holds Tryd.pinned (OpenSpec.upto moveTwiceSpec)

/-- 'bureaulaw12.MoveFinds', WHERE WHAT IT READS IS OF BULK AT MOST 1048576: true; the input reads as it did. -/
def moveFindsUptoRow : OpenClaim := { program := "ytpajakfmahfpkaadoor", sum := "d2c54e6f091e5fa8507c9fb6eba30994a2107173dfc024c97df4ba1e970a8aba", func := "bureau/bureaulaw12.MoveFinds", spec := "moveFinds", inPlace := ["internal/bytealg.CountString", "internal/bytealg.IndexByteString", "internal/bytealg.IndexString"], unfollowed := true, recurses := true, named := ["unicode/utf8.first", "unicode/utf8.acceptRanges", "internal/bytealg.MaxLen"], apart := false, laid := [("unicode/utf8.acceptRanges", laid_unicode_utf8_acceptRanges), ("unicode/utf8.first", laid_unicode_utf8_first)], narrowed := true }
def MoveFindsUptoSaid : Prop := moveFindsUptoRow.holds Tryd.pinned (OpenSpec.upto moveFindsSpec)

/-- 'bureaulaw12.MoveLines', WHERE WHAT IT READS IS OF BULK AT MOST 1048576: true; the input reads as it did. -/
def moveLinesUptoRow : OpenClaim := { program := "ytpajakfmahfpkaadoor", sum := "d2c54e6f091e5fa8507c9fb6eba30994a2107173dfc024c97df4ba1e970a8aba", func := "bureau/bureaulaw12.MoveLines", spec := "moveLines", inPlace := ["internal/bytealg.CountString", "internal/bytealg.IndexByteString", "internal/bytealg.IndexString"], unfollowed := true, recurses := true, named := ["unicode/utf8.first", "unicode/utf8.acceptRanges", "internal/bytealg.MaxLen"], apart := false, laid := [("unicode/utf8.acceptRanges", laid_unicode_utf8_acceptRanges), ("unicode/utf8.first", laid_unicode_utf8_first)], narrowed := true }
def MoveLinesUptoSaid : Prop := moveLinesUptoRow.holds Tryd.pinned (OpenSpec.upto moveLinesSpec)

/-- 'bureautop.WholeWords', WHERE WHAT IT READS IS OF BULK AT MOST 1048576: true; the input reads as it did. -/
def wholeWordsUptoRow : OpenClaim := { program := "ytpajakfmahfpkaadoor", sum := "d2c54e6f091e5fa8507c9fb6eba30994a2107173dfc024c97df4ba1e970a8aba", func := "bureau/bureautop.WholeWords", spec := "wholeWords", inPlace := ["internal/bytealg.CountString", "internal/bytealg.IndexByteString", "internal/bytealg.IndexString"], unfollowed := true, recurses := true, named := ["unicode/utf8.first", "unicode/utf8.acceptRanges", "internal/bytealg.MaxLen"], apart := false, laid := [("unicode/utf8.acceptRanges", laid_unicode_utf8_acceptRanges), ("unicode/utf8.first", laid_unicode_utf8_first)], narrowed := true }
def WholeWordsUptoSaid : Prop := wholeWordsUptoRow.holds Tryd.pinned (OpenSpec.upto wholeWordsSpec)

/-- 'bureaulaw06.LineWhole', WHERE WHAT IT READS IS OF BULK AT MOST 1048576: true; the input reads as it did. -/
def lineWholeUptoRow : OpenClaim := { program := "ytpajakfmahfpkaadoor", sum := "d2c54e6f091e5fa8507c9fb6eba30994a2107173dfc024c97df4ba1e970a8aba", func := "bureau/bureaulaw06.LineWhole", spec := "lineWhole", inPlace := ["internal/bytealg.CountString", "internal/bytealg.IndexByteString", "internal/bytealg.IndexString"], named := ["internal/bytealg.MaxLen", "unicode/utf8.first", "unicode/utf8.acceptRanges"], apart := false, laid := [("unicode/utf8.acceptRanges", laid_unicode_utf8_acceptRanges), ("unicode/utf8.first", laid_unicode_utf8_first)], narrowed := true }
def LineWholeUptoSaid : Prop := lineWholeUptoRow.holds Tryd.pinned (OpenSpec.upto lineWholeSpec)

/-- 'bureaulaw06.LinePlaces', WHERE WHAT IT READS IS OF BULK AT MOST 1048576: true; the input reads as it did. -/
def linePlacesUptoRow : OpenClaim := { program := "ytpajakfmahfpkaadoor", sum := "d2c54e6f091e5fa8507c9fb6eba30994a2107173dfc024c97df4ba1e970a8aba", func := "bureau/bureaulaw06.LinePlaces", spec := "linePlaces", inPlace := ["internal/bytealg.CountString", "internal/bytealg.IndexByteString", "internal/bytealg.IndexString"], named := ["internal/bytealg.MaxLen", "unicode/utf8.first", "unicode/utf8.acceptRanges"], apart := false, laid := [("unicode/utf8.acceptRanges", laid_unicode_utf8_acceptRanges), ("unicode/utf8.first", laid_unicode_utf8_first)], narrowed := true }
def LinePlacesUptoSaid : Prop := linePlacesUptoRow.holds Tryd.pinned (OpenSpec.upto linePlacesSpec)

end Rows
end Go.Proofs.YtpajakfmahfpkaaDoor
