/-
  No cell of these rows narrows 'for every input' (looked for: loops, veiled, ifaces, maps, wideKeys, modest, calm, conditions, laid).
  DERIVED. THE GIVEN ROWS OF THIS SEAT. 4 by the template 'for every input the law returns true; each argument reads behind the call as it read before'; 0 by the template 'total and deterministic' (their statements: YtbcbfmhcoemnpaaTotals.lean).
  GIVEN WITH THE SEED: the statements are not yours to turn. If you find one false, say at which input.
  Laid BY PROGRAM, IN A SANDBOX (cutbox-rows.mjs): the forced cells as the released guide's own fill.sh prints them over the translation 5043fa834ae2fb40… (all of the seat's roots in one cut). By AI agents, Wed Nov 11 2026. No macro, syntax, notation, axiom, sorry.
-/
import Derived.Test.YtbcbfmhcoemnpaaChecked
import GoSem.Claim
import GoSem.ClaimJoined
import GoSem.ClaimMapViews
import Derived.JoinedTies
import Derived.KernelRfl
namespace Go.Proofs.Ytbcbfmhcoemnpaa
/- THE CELL 'sum', in the pinned program and in every row, IS THE sha256 OF THE DUMP (.gsa) THAT YtbcbfmhcoemnpaaProg.lean LOADS. Nothing in Lean hashes anything: it is a label: what it is worth is what the hold of that sum in a sandbox is worth. -/
noncomputable def Try.pinned : Pinned := { name := "ytbcbfmhcoemnpaa", sum := "5043fa834ae2fb40e85fc348a749fbd616ebe2676aee98469bcc83e58d3c6b49", checked := Try.checked }
namespace Rows
def none {H : Type} : Left H := { results := [], args := [] }

/-- 'bureaulaw09.RegsRow': WHATEVER THE INPUT: true; the input reads as it did. -/
def regsRowSpec : ChangeSpec := { name := "regsRow", fn := fun _ => fun
  | [d] => { results := [.lit (.bool true)], args := [d] }
  | _ => none }
def regsRowRow : OpenClaim := { program := "ytbcbfmhcoemnpaa", sum := "5043fa834ae2fb40e85fc348a749fbd616ebe2676aee98469bcc83e58d3c6b49", func := "bureau/bureaulaw09.RegsRow", spec := "regsRow", unfollowed := true, recurses := true, apart := false }
def RegsRowSaid : Prop := regsRowRow.holds Try.pinned (OpenSpec.ofChange regsRowSpec)

/-- ITS FALSE NEIGHBOUR: 'it returns false'. Refute it at one input. -/
def regsRowWrong : ChangeSpec := { name := "regsRow", fn := fun _ => fun
  | [d] => { results := [.lit (.bool false)], args := [d] }
  | _ => none }
def RegsRowWrongFalsely : Prop := regsRowRow.holds Try.pinned (OpenSpec.ofChange regsRowWrong)

/-- 'bureaulaw09.RegsHides': WHATEVER THE INPUT: true; the input reads as it did. -/
def regsHidesSpec : ChangeSpec := { name := "regsHides", fn := fun _ => fun
  | [d1, d2, d3] => { results := [.lit (.bool true)], args := [d1, d2, d3] }
  | _ => none }
def regsHidesRow : OpenClaim := { program := "ytbcbfmhcoemnpaa", sum := "5043fa834ae2fb40e85fc348a749fbd616ebe2676aee98469bcc83e58d3c6b49", func := "bureau/bureaulaw09.RegsHides", spec := "regsHides", unfollowed := true, recurses := true, apart := false }
def RegsHidesSaid : Prop := regsHidesRow.holds Try.pinned (OpenSpec.ofChange regsHidesSpec)

/-- ITS FALSE NEIGHBOUR: 'it returns false'. Refute it at one input. -/
def regsHidesWrong : ChangeSpec := { name := "regsHides", fn := fun _ => fun
  | [d1, d2, d3] => { results := [.lit (.bool false)], args := [d1, d2, d3] }
  | _ => none }
def RegsHidesWrongFalsely : Prop := regsHidesRow.holds Try.pinned (OpenSpec.ofChange regsHidesWrong)

/-- 'bureaulaw09.RegsBeside': WHATEVER THE INPUT: true; the input reads as it did. -/
def regsBesideSpec : ChangeSpec := { name := "regsBeside", fn := fun _ => fun
  | [d1, d2] => { results := [.lit (.bool true)], args := [d1, d2] }
  | _ => none }
def regsBesideRow : OpenClaim := { program := "ytbcbfmhcoemnpaa", sum := "5043fa834ae2fb40e85fc348a749fbd616ebe2676aee98469bcc83e58d3c6b49", func := "bureau/bureaulaw09.RegsBeside", spec := "regsBeside", unfollowed := true, recurses := true, apart := false }
def RegsBesideSaid : Prop := regsBesideRow.holds Try.pinned (OpenSpec.ofChange regsBesideSpec)

/-- ITS FALSE NEIGHBOUR: 'it returns false'. Refute it at one input. -/
def regsBesideWrong : ChangeSpec := { name := "regsBeside", fn := fun _ => fun
  | [d1, d2] => { results := [.lit (.bool false)], args := [d1, d2] }
  | _ => none }
def RegsBesideWrongFalsely : Prop := regsBesideRow.holds Try.pinned (OpenSpec.ofChange regsBesideWrong)

/-- 'bureaulaw09.RegsNobody': WHATEVER THE INPUT: true; the input reads as it did. -/
def regsNobodySpec : ChangeSpec := { name := "regsNobody", fn := fun _ => fun
  | [d] => { results := [.lit (.bool true)], args := [d] }
  | _ => none }
def regsNobodyRow : OpenClaim := { program := "ytbcbfmhcoemnpaa", sum := "5043fa834ae2fb40e85fc348a749fbd616ebe2676aee98469bcc83e58d3c6b49", func := "bureau/bureaulaw09.RegsNobody", spec := "regsNobody", unfollowed := true, recurses := true, apart := false }
def RegsNobodySaid : Prop := regsNobodyRow.holds Try.pinned (OpenSpec.ofChange regsNobodySpec)

/-- ITS FALSE NEIGHBOUR: 'it returns false'. Refute it at one input. -/
def regsNobodyWrong : ChangeSpec := { name := "regsNobody", fn := fun _ => fun
  | [d] => { results := [.lit (.bool false)], args := [d] }
  | _ => none }
def RegsNobodyWrongFalsely : Prop := regsNobodyRow.holds Try.pinned (OpenSpec.ofChange regsNobodyWrong)

/- THE SECOND FORM. 'bulk': how many values and letters a reading holds, each counted each time it is reached (what is shared counts as often as it is met; a slice's spare places count too). A statement '..UptoSaid' is the law's where the arguments, and the package variables that the reading takes, are together of bulk at most 1048576: NARROWER than '..Said'. Prove '..Said' where nothing that the law and all that it calls make is longer than what came in: it says more and counts as full. Else prove '..UptoSaid'. A law counts once. -/
mutual
def uptoBulk {H : Type} : DataW H → Nat
  | .lit (.string bytes) => bytes.length + 1
  | .lit _ => 1
  | .nil => 1
  | .ptr d => uptoBulk d + 1
  | .slice elems spare => uptoBulkAll elems + uptoBulkAll spare + 1
  | .agg parts => uptoBulkAll parts + 1
  | .iface _ d => uptoBulk d + 1
  | .map entries => uptoBulkEntries entries + 1
  | .held _ => 1
def uptoBulkAll {H : Type} : List (DataW H) → Nat
  | [] => 0
  | d :: r => uptoBulk d + uptoBulkAll r
def uptoBulkEntries {H : Type} : List (Lit × DataW H) → Nat
  | [] => 0
  | x :: r => uptoBulkEntry x + uptoBulkEntries r
def uptoBulkEntry {H : Type} : Lit × DataW H → Nat
  | (.string bytes, d) => bytes.length + uptoBulk d + 1
  | (_, d) => uptoBulk d + 1
 end
def uptoSmall : (H : Type) → List (DataW H) → Bool := fun _ ds => decide (uptoBulkAll ds ≤ 1048576)
def OpenSpec.upto (s : _root_.Go.ChangeSpec) : _root_.Go.OpenSpec := { _root_.Go.OpenSpec.ofChange s with cond := some uptoSmall }

/-- 'bureaulaw09.RegsRow', WHERE WHAT IT READS IS OF BULK AT MOST 1048576: true; the input reads as it did. -/
def regsRowUptoRow : OpenClaim := { program := "ytbcbfmhcoemnpaa", sum := "5043fa834ae2fb40e85fc348a749fbd616ebe2676aee98469bcc83e58d3c6b49", func := "bureau/bureaulaw09.RegsRow", spec := "regsRow", unfollowed := true, recurses := true, apart := false, narrowed := true }
def RegsRowUptoSaid : Prop := regsRowUptoRow.holds Try.pinned (OpenSpec.upto regsRowSpec)

/-- 'bureaulaw09.RegsHides', WHERE WHAT IT READS IS OF BULK AT MOST 1048576: true; the input reads as it did. -/
def regsHidesUptoRow : OpenClaim := { program := "ytbcbfmhcoemnpaa", sum := "5043fa834ae2fb40e85fc348a749fbd616ebe2676aee98469bcc83e58d3c6b49", func := "bureau/bureaulaw09.RegsHides", spec := "regsHides", unfollowed := true, recurses := true, apart := false, narrowed := true }
def RegsHidesUptoSaid : Prop := regsHidesUptoRow.holds Try.pinned (OpenSpec.upto regsHidesSpec)

/-- 'bureaulaw09.RegsBeside', WHERE WHAT IT READS IS OF BULK AT MOST 1048576: true; the input reads as it did. -/
def regsBesideUptoRow : OpenClaim := { program := "ytbcbfmhcoemnpaa", sum := "5043fa834ae2fb40e85fc348a749fbd616ebe2676aee98469bcc83e58d3c6b49", func := "bureau/bureaulaw09.RegsBeside", spec := "regsBeside", unfollowed := true, recurses := true, apart := false, narrowed := true }
def RegsBesideUptoSaid : Prop := regsBesideUptoRow.holds Try.pinned (OpenSpec.upto regsBesideSpec)

/-- 'bureaulaw09.RegsNobody', WHERE WHAT IT READS IS OF BULK AT MOST 1048576: true; the input reads as it did. -/
def regsNobodyUptoRow : OpenClaim := { program := "ytbcbfmhcoemnpaa", sum := "5043fa834ae2fb40e85fc348a749fbd616ebe2676aee98469bcc83e58d3c6b49", func := "bureau/bureaulaw09.RegsNobody", spec := "regsNobody", unfollowed := true, recurses := true, apart := false, narrowed := true }
def RegsNobodyUptoSaid : Prop := regsNobodyUptoRow.holds Try.pinned (OpenSpec.upto regsNobodySpec)

end Rows
end Go.Proofs.Ytbcbfmhcoemnpaa
