/-
  No cell of these rows narrows 'for every input' (looked for: loops, veiled, ifaces, maps, wideKeys, modest, calm, conditions, laid).
  DERIVED. THE GIVEN ROWS OF THIS SEAT. 6 by the template 'for every input the law returns true; each argument reads behind the call as it read before'; 0 by the template 'total and deterministic' (their statements: YtgaggoglbkcomaaTotals.lean).
  GIVEN WITH THE SEED: the statements are not yours to turn. If you find one false, say at which input.
  Laid BY PROGRAM, IN A SANDBOX (cutbox-rows.mjs): the forced cells as the released guide's own fill.sh prints them over the translation 71097e451f17288f… (all of the seat's roots in one cut). By AI agents, Wed Nov 11 2026. No macro, syntax, notation, axiom, sorry.
-/
import Derived.Test.YtgaggoglbkcomaaChecked
import GoSem.Claim
import GoSem.ClaimJoined
import GoSem.ClaimMapViews
import Derived.JoinedTies
import Derived.KernelRfl
namespace Go.Proofs.Ytgaggoglbkcomaa
/- THE CELL 'sum', in the pinned program and in every row, IS THE sha256 OF THE DUMP (.gsa) THAT YtgaggoglbkcomaaProg.lean LOADS. Nothing in Lean hashes anything: it is a label: what it is worth is what the hold of that sum in a sandbox is worth. -/
noncomputable def Try.pinned : Pinned := { name := "ytgaggoglbkcomaa", sum := "71097e451f17288f5a2b04b903ad198571e11ca0d30670eda8aca10e3cfd09fa", checked := Try.checked }
namespace Rows
def none {H : Type} : Left H := { results := [], args := [] }

/-- 'bureautop.WholeReplays': WHATEVER THE INPUT: true; the input reads as it did. -/
def wholeReplaysSpec : ChangeSpec := { name := "wholeReplays", fn := fun _ => fun
  | [d1, d2] => { results := [.lit (.bool true)], args := [d1, d2] }
  | _ => none }
def wholeReplaysRow : OpenClaim := { program := "ytgaggoglbkcomaa", sum := "71097e451f17288f5a2b04b903ad198571e11ca0d30670eda8aca10e3cfd09fa", func := "bureau/bureautop.WholeReplays", spec := "wholeReplays", unfollowed := true, recurses := true, apart := false }
def WholeReplaysSaid : Prop := wholeReplaysRow.holds Try.pinned (OpenSpec.ofChange wholeReplaysSpec)

/-- ITS FALSE NEIGHBOUR: 'it returns false'. Refute it at one input. -/
def wholeReplaysWrong : ChangeSpec := { name := "wholeReplays", fn := fun _ => fun
  | [d1, d2] => { results := [.lit (.bool false)], args := [d1, d2] }
  | _ => none }
def WholeReplaysWrongFalsely : Prop := wholeReplaysRow.holds Try.pinned (OpenSpec.ofChange wholeReplaysWrong)

/-- 'bureaulaw05.PieceBack': WHATEVER THE INPUT: true; the input reads as it did. -/
def pieceBackSpec : ChangeSpec := { name := "pieceBack", fn := fun _ => fun
  | [d1, d2] => { results := [.lit (.bool true)], args := [d1, d2] }
  | _ => none }
def pieceBackRow : OpenClaim := { program := "ytgaggoglbkcomaa", sum := "71097e451f17288f5a2b04b903ad198571e11ca0d30670eda8aca10e3cfd09fa", func := "bureau/bureaulaw05.PieceBack", spec := "pieceBack", inPlace := ["internal/abi.NoEscape"], unfollowed := true, recurses := true, apart := false }
def PieceBackSaid : Prop := pieceBackRow.holds Try.pinned (OpenSpec.ofChange pieceBackSpec)

/-- ITS FALSE NEIGHBOUR: 'it returns false'. Refute it at one input. -/
def pieceBackWrong : ChangeSpec := { name := "pieceBack", fn := fun _ => fun
  | [d1, d2] => { results := [.lit (.bool false)], args := [d1, d2] }
  | _ => none }
def PieceBackWrongFalsely : Prop := pieceBackRow.holds Try.pinned (OpenSpec.ofChange pieceBackWrong)

/-- 'bureaulaw05.PieceActs': WHATEVER THE INPUT: true; the input reads as it did. -/
def pieceActsSpec : ChangeSpec := { name := "pieceActs", fn := fun _ => fun
  | [d1, d2] => { results := [.lit (.bool true)], args := [d1, d2] }
  | _ => none }
def pieceActsRow : OpenClaim := { program := "ytgaggoglbkcomaa", sum := "71097e451f17288f5a2b04b903ad198571e11ca0d30670eda8aca10e3cfd09fa", func := "bureau/bureaulaw05.PieceActs", spec := "pieceActs", inPlace := ["internal/abi.NoEscape"], unfollowed := true, recurses := true, apart := false }
def PieceActsSaid : Prop := pieceActsRow.holds Try.pinned (OpenSpec.ofChange pieceActsSpec)

/-- ITS FALSE NEIGHBOUR: 'it returns false'. Refute it at one input. -/
def pieceActsWrong : ChangeSpec := { name := "pieceActs", fn := fun _ => fun
  | [d1, d2] => { results := [.lit (.bool false)], args := [d1, d2] }
  | _ => none }
def PieceActsWrongFalsely : Prop := pieceActsRow.holds Try.pinned (OpenSpec.ofChange pieceActsWrong)

/-- 'bureaulaw05.PieceBounds': WHATEVER THE INPUT: true; the input reads as it did. -/
def pieceBoundsSpec : ChangeSpec := { name := "pieceBounds", fn := fun _ => fun
  | [d1, d2] => { results := [.lit (.bool true)], args := [d1, d2] }
  | _ => none }
def pieceBoundsRow : OpenClaim := { program := "ytgaggoglbkcomaa", sum := "71097e451f17288f5a2b04b903ad198571e11ca0d30670eda8aca10e3cfd09fa", func := "bureau/bureaulaw05.PieceBounds", spec := "pieceBounds", inPlace := ["internal/abi.NoEscape"], unfollowed := true, recurses := true, apart := false }
def PieceBoundsSaid : Prop := pieceBoundsRow.holds Try.pinned (OpenSpec.ofChange pieceBoundsSpec)

/-- ITS FALSE NEIGHBOUR: 'it returns false'. Refute it at one input. -/
def pieceBoundsWrong : ChangeSpec := { name := "pieceBounds", fn := fun _ => fun
  | [d1, d2] => { results := [.lit (.bool false)], args := [d1, d2] }
  | _ => none }
def PieceBoundsWrongFalsely : Prop := pieceBoundsRow.holds Try.pinned (OpenSpec.ofChange pieceBoundsWrong)

/-- 'bureaulaw05.PieceCopies': WHATEVER THE INPUT: true; the input reads as it did. -/
def pieceCopiesSpec : ChangeSpec := { name := "pieceCopies", fn := fun _ => fun
  | [d] => { results := [.lit (.bool true)], args := [d] }
  | _ => none }
def pieceCopiesRow : OpenClaim := { program := "ytgaggoglbkcomaa", sum := "71097e451f17288f5a2b04b903ad198571e11ca0d30670eda8aca10e3cfd09fa", func := "bureau/bureaulaw05.PieceCopies", spec := "pieceCopies", inPlace := ["internal/abi.NoEscape"], unfollowed := true, recurses := true, apart := false }
def PieceCopiesSaid : Prop := pieceCopiesRow.holds Try.pinned (OpenSpec.ofChange pieceCopiesSpec)

/-- ITS FALSE NEIGHBOUR: 'it returns false'. Refute it at one input. -/
def pieceCopiesWrong : ChangeSpec := { name := "pieceCopies", fn := fun _ => fun
  | [d] => { results := [.lit (.bool false)], args := [d] }
  | _ => none }
def PieceCopiesWrongFalsely : Prop := pieceCopiesRow.holds Try.pinned (OpenSpec.ofChange pieceCopiesWrong)

/-- 'bureaulaw05.PieceNobody': WHATEVER THE INPUT: true; the input reads as it did. -/
def pieceNobodySpec : ChangeSpec := { name := "pieceNobody", fn := fun _ => fun
  | [d] => { results := [.lit (.bool true)], args := [d] }
  | _ => none }
def pieceNobodyRow : OpenClaim := { program := "ytgaggoglbkcomaa", sum := "71097e451f17288f5a2b04b903ad198571e11ca0d30670eda8aca10e3cfd09fa", func := "bureau/bureaulaw05.PieceNobody", spec := "pieceNobody", inPlace := ["internal/abi.NoEscape"], unfollowed := true, recurses := true, apart := false }
def PieceNobodySaid : Prop := pieceNobodyRow.holds Try.pinned (OpenSpec.ofChange pieceNobodySpec)

/-- ITS FALSE NEIGHBOUR: 'it returns false'. Refute it at one input. -/
def pieceNobodyWrong : ChangeSpec := { name := "pieceNobody", fn := fun _ => fun
  | [d] => { results := [.lit (.bool false)], args := [d] }
  | _ => none }
def PieceNobodyWrongFalsely : Prop := pieceNobodyRow.holds Try.pinned (OpenSpec.ofChange pieceNobodyWrong)

/- THE SECOND FORM. 'bulk': how many values and letters a reading holds, each counted each time it is reached (what is shared counts as often as it is met; a slice's spare places count too). A statement '..UptoSaid' is the law's where the arguments, and the package variables that the reading takes, are together of bulk at most 1048576: NARROWER than '..Said'. Prove '..Said' where nothing that the law and all that it calls make is longer than what came in: it says more and counts as full. Else prove '..UptoSaid'. A law counts once. -/
mutual
def uptoBulk {H : Type} : DataW H → Nat
  | .lit (.string bytes) => bytes.length + 1
  | .lit _ => 1
  | .nil => 1
  | .ptr d => uptoBulk d + 1
  | .slice elems spare => uptoBulkAll elems + uptoBulkAll spare + 1
  | .agg parts => uptoBulkAll parts + 1
  | .iface _ d => uptoBulk d + 1
  | .map entries => uptoBulkEntries entries + 1
  | .held _ => 1
def uptoBulkAll {H : Type} : List (DataW H) → Nat
  | [] => 0
  | d :: r => uptoBulk d + uptoBulkAll r
def uptoBulkEntries {H : Type} : List (Lit × DataW H) → Nat
  | [] => 0
  | x :: r => uptoBulkEntry x + uptoBulkEntries r
def uptoBulkEntry {H : Type} : Lit × DataW H → Nat
  | (.string bytes, d) => bytes.length + uptoBulk d + 1
  | (_, d) => uptoBulk d + 1
 end
def uptoSmall : (H : Type) → List (DataW H) → Bool := fun _ ds => decide (uptoBulkAll ds ≤ 1048576)
def OpenSpec.upto (s : _root_.Go.ChangeSpec) : _root_.Go.OpenSpec := { _root_.Go.OpenSpec.ofChange s with cond := some uptoSmall }

/-- 'bureautop.WholeReplays', WHERE WHAT IT READS IS OF BULK AT MOST 1048576: true; the input reads as it did. -/
def wholeReplaysUptoRow : OpenClaim := { program := "ytgaggoglbkcomaa", sum := "71097e451f17288f5a2b04b903ad198571e11ca0d30670eda8aca10e3cfd09fa", func := "bureau/bureautop.WholeReplays", spec := "wholeReplays", unfollowed := true, recurses := true, apart := false, narrowed := true }
def WholeReplaysUptoSaid : Prop := wholeReplaysUptoRow.holds Try.pinned (OpenSpec.upto wholeReplaysSpec)

/-- 'bureaulaw05.PieceBack', WHERE WHAT IT READS IS OF BULK AT MOST 1048576: true; the input reads as it did. -/
def pieceBackUptoRow : OpenClaim := { program := "ytgaggoglbkcomaa", sum := "71097e451f17288f5a2b04b903ad198571e11ca0d30670eda8aca10e3cfd09fa", func := "bureau/bureaulaw05.PieceBack", spec := "pieceBack", inPlace := ["internal/abi.NoEscape"], unfollowed := true, recurses := true, apart := false, narrowed := true }
def PieceBackUptoSaid : Prop := pieceBackUptoRow.holds Try.pinned (OpenSpec.upto pieceBackSpec)

/-- 'bureaulaw05.PieceActs', WHERE WHAT IT READS IS OF BULK AT MOST 1048576: true; the input reads as it did. -/
def pieceActsUptoRow : OpenClaim := { program := "ytgaggoglbkcomaa", sum := "71097e451f17288f5a2b04b903ad198571e11ca0d30670eda8aca10e3cfd09fa", func := "bureau/bureaulaw05.PieceActs", spec := "pieceActs", inPlace := ["internal/abi.NoEscape"], unfollowed := true, recurses := true, apart := false, narrowed := true }
def PieceActsUptoSaid : Prop := pieceActsUptoRow.holds Try.pinned (OpenSpec.upto pieceActsSpec)

/-- 'bureaulaw05.PieceBounds', WHERE WHAT IT READS IS OF BULK AT MOST 1048576: true; the input reads as it did. -/
def pieceBoundsUptoRow : OpenClaim := { program := "ytgaggoglbkcomaa", sum := "71097e451f17288f5a2b04b903ad198571e11ca0d30670eda8aca10e3cfd09fa", func := "bureau/bureaulaw05.PieceBounds", spec := "pieceBounds", inPlace := ["internal/abi.NoEscape"], unfollowed := true, recurses := true, apart := false, narrowed := true }
def PieceBoundsUptoSaid : Prop := pieceBoundsUptoRow.holds Try.pinned (OpenSpec.upto pieceBoundsSpec)

/-- 'bureaulaw05.PieceCopies', WHERE WHAT IT READS IS OF BULK AT MOST 1048576: true; the input reads as it did. -/
def pieceCopiesUptoRow : OpenClaim := { program := "ytgaggoglbkcomaa", sum := "71097e451f17288f5a2b04b903ad198571e11ca0d30670eda8aca10e3cfd09fa", func := "bureau/bureaulaw05.PieceCopies", spec := "pieceCopies", inPlace := ["internal/abi.NoEscape"], unfollowed := true, recurses := true, apart := false, narrowed := true }
def PieceCopiesUptoSaid : Prop := pieceCopiesUptoRow.holds Try.pinned (OpenSpec.upto pieceCopiesSpec)

/-- 'bureaulaw05.PieceNobody', WHERE WHAT IT READS IS OF BULK AT MOST 1048576: true; the input reads as it did. -/
def pieceNobodyUptoRow : OpenClaim := { program := "ytgaggoglbkcomaa", sum := "71097e451f17288f5a2b04b903ad198571e11ca0d30670eda8aca10e3cfd09fa", func := "bureau/bureaulaw05.PieceNobody", spec := "pieceNobody", inPlace := ["internal/abi.NoEscape"], unfollowed := true, recurses := true, apart := false, narrowed := true }
def PieceNobodyUptoSaid : Prop := pieceNobodyUptoRow.holds Try.pinned (OpenSpec.upto pieceNobodySpec)

end Rows
end Go.Proofs.Ytgaggoglbkcomaa
