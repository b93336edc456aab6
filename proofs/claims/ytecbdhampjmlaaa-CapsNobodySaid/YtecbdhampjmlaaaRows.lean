/-
  No cell of these rows narrows 'for every input' (looked for: loops, veiled, ifaces, maps, wideKeys, modest, calm, conditions, laid).
  DERIVED. THE GIVEN ROWS OF THIS SEAT. 5 by the template 'for every input the law returns true; each argument reads behind the call as it read before'; 0 by the template 'total and deterministic' (their statements: YtecbdhampjmlaaaTotals.lean).
  GIVEN WITH THE SEED: the statements are not yours to turn. If you find one false, say at which input.
  Laid BY PROGRAM, IN A SANDBOX (cutbox-rows.mjs): the forced cells as the released guide's own fill.sh prints them over the translation 129ef99246879843… (all of the seat's roots in one cut). By AI agents, Wed Nov 11 2026. No macro, syntax, notation, axiom, sorry.
-/
import Derived.Test.YtecbdhampjmlaaaChecked
import GoSem.Claim
import GoSem.ClaimJoined
import GoSem.ClaimMapViews
import Derived.JoinedTies
import Derived.KernelRfl
namespace Go.Proofs.Ytecbdhampjmlaaa
/- THE CELL 'sum', in the pinned program and in every row, IS THE sha256 OF THE DUMP (.gsa) THAT YtecbdhampjmlaaaProg.lean LOADS. Nothing in Lean hashes anything: it is a label: what it is worth is what the hold of that sum in a sandbox is worth. -/
noncomputable def Try.pinned : Pinned := { name := "ytecbdhampjmlaaa", sum := "129ef9924687984384ac78f22f08f42d3e99daf2787d0c9f2b52917866c72fdf", checked := Try.checked }
namespace Rows
def none {H : Type} : Left H := { results := [], args := [] }

/-- 'bureaulaw17.CapsDead': WHATEVER THE INPUT: true; the input reads as it did. -/
def capsDeadSpec : ChangeSpec := { name := "capsDead", fn := fun _ => fun
  | [d1, d2, d3] => { results := [.lit (.bool true)], args := [d1, d2, d3] }
  | _ => none }
def capsDeadRow : OpenClaim := { program := "ytecbdhampjmlaaa", sum := "129ef9924687984384ac78f22f08f42d3e99daf2787d0c9f2b52917866c72fdf", func := "bureau/bureaulaw17.CapsDead", spec := "capsDead", recurses := true, apart := false }
def CapsDeadSaid : Prop := capsDeadRow.holds Try.pinned (OpenSpec.ofChange capsDeadSpec)

/-- ITS FALSE NEIGHBOUR: 'it returns false'. Refute it at one input. -/
def capsDeadWrong : ChangeSpec := { name := "capsDead", fn := fun _ => fun
  | [d1, d2, d3] => { results := [.lit (.bool false)], args := [d1, d2, d3] }
  | _ => none }
def CapsDeadWrongFalsely : Prop := capsDeadRow.holds Try.pinned (OpenSpec.ofChange capsDeadWrong)

/-- 'bureaulaw17.CapsLess': WHATEVER THE INPUT: true; the input reads as it did. -/
def capsLessSpec : ChangeSpec := { name := "capsLess", fn := fun _ => fun
  | [d1, d2] => { results := [.lit (.bool true)], args := [d1, d2] }
  | _ => none }
def capsLessRow : OpenClaim := { program := "ytecbdhampjmlaaa", sum := "129ef9924687984384ac78f22f08f42d3e99daf2787d0c9f2b52917866c72fdf", func := "bureau/bureaulaw17.CapsLess", spec := "capsLess", recurses := true, apart := false }
def CapsLessSaid : Prop := capsLessRow.holds Try.pinned (OpenSpec.ofChange capsLessSpec)

/-- ITS FALSE NEIGHBOUR: 'it returns false'. Refute it at one input. -/
def capsLessWrong : ChangeSpec := { name := "capsLess", fn := fun _ => fun
  | [d1, d2] => { results := [.lit (.bool false)], args := [d1, d2] }
  | _ => none }
def CapsLessWrongFalsely : Prop := capsLessRow.holds Try.pinned (OpenSpec.ofChange capsLessWrong)

/-- 'bureaulaw17.CapsActs': WHATEVER THE INPUT: true; the input reads as it did. -/
def capsActsSpec : ChangeSpec := { name := "capsActs", fn := fun _ => fun
  | [d1, d2, d3] => { results := [.lit (.bool true)], args := [d1, d2, d3] }
  | _ => none }
def capsActsRow : OpenClaim := { program := "ytecbdhampjmlaaa", sum := "129ef9924687984384ac78f22f08f42d3e99daf2787d0c9f2b52917866c72fdf", func := "bureau/bureaulaw17.CapsActs", spec := "capsActs", recurses := true, apart := false }
def CapsActsSaid : Prop := capsActsRow.holds Try.pinned (OpenSpec.ofChange capsActsSpec)

/-- ITS FALSE NEIGHBOUR: 'it returns false'. Refute it at one input. -/
def capsActsWrong : ChangeSpec := { name := "capsActs", fn := fun _ => fun
  | [d1, d2, d3] => { results := [.lit (.bool false)], args := [d1, d2, d3] }
  | _ => none }
def CapsActsWrongFalsely : Prop := capsActsRow.holds Try.pinned (OpenSpec.ofChange capsActsWrong)

/-- 'bureaulaw17.CapsRetired': WHATEVER THE INPUT: true; the input reads as it did. -/
def capsRetiredSpec : ChangeSpec := { name := "capsRetired", fn := fun _ => fun
  | [d1, d2, d3] => { results := [.lit (.bool true)], args := [d1, d2, d3] }
  | _ => none }
def capsRetiredRow : OpenClaim := { program := "ytecbdhampjmlaaa", sum := "129ef9924687984384ac78f22f08f42d3e99daf2787d0c9f2b52917866c72fdf", func := "bureau/bureaulaw17.CapsRetired", spec := "capsRetired", recurses := true, apart := false }
def CapsRetiredSaid : Prop := capsRetiredRow.holds Try.pinned (OpenSpec.ofChange capsRetiredSpec)

/-- ITS FALSE NEIGHBOUR: 'it returns false'. Refute it at one input. -/
def capsRetiredWrong : ChangeSpec := { name := "capsRetired", fn := fun _ => fun
  | [d1, d2, d3] => { results := [.lit (.bool false)], args := [d1, d2, d3] }
  | _ => none }
def CapsRetiredWrongFalsely : Prop := capsRetiredRow.holds Try.pinned (OpenSpec.ofChange capsRetiredWrong)

/-- 'bureaulaw17.CapsNobody': WHATEVER THE INPUT: true; the input reads as it did. -/
def capsNobodySpec : ChangeSpec := { name := "capsNobody", fn := fun _ => fun
  | [d] => { results := [.lit (.bool true)], args := [d] }
  | _ => none }
def capsNobodyRow : OpenClaim := { program := "ytecbdhampjmlaaa", sum := "129ef9924687984384ac78f22f08f42d3e99daf2787d0c9f2b52917866c72fdf", func := "bureau/bureaulaw17.CapsNobody", spec := "capsNobody", recurses := true, apart := false }
def CapsNobodySaid : Prop := capsNobodyRow.holds Try.pinned (OpenSpec.ofChange capsNobodySpec)

/-- ITS FALSE NEIGHBOUR: 'it returns false'. Refute it at one input. -/
def capsNobodyWrong : ChangeSpec := { name := "capsNobody", fn := fun _ => fun
  | [d] => { results := [.lit (.bool false)], args := [d] }
  | _ => none }
def CapsNobodyWrongFalsely : Prop := capsNobodyRow.holds Try.pinned (OpenSpec.ofChange capsNobodyWrong)

/- THE SECOND FORM. 'bulk': how many values and letters a reading holds, each counted each time it is reached (what is shared counts as often as it is met; a slice's spare places count too). A statement '..UptoSaid' is the law's where the arguments, and the package variables that the reading takes, are together of bulk at most 1048576: NARROWER than '..Said'. Prove '..Said' where nothing that the law and all that it calls make is longer than what came in: it says more and counts as full. Else prove '..UptoSaid'. A law counts once. -/
mutual
def uptoBulk {H : Type} : DataW H → Nat
  | .lit (.string bytes) => bytes.length + 1
  | .lit _ => 1
  | .nil => 1
  | .ptr d => uptoBulk d + 1
  | .slice elems spare => uptoBulkAll elems + uptoBulkAll spare + 1
  | .agg parts => uptoBulkAll parts + 1
  | .iface _ d => uptoBulk d + 1
  | .map entries => uptoBulkEntries entries + 1
  | .held _ => 1
def uptoBulkAll {H : Type} : List (DataW H) → Nat
  | [] => 0
  | d :: r => uptoBulk d + uptoBulkAll r
def uptoBulkEntries {H : Type} : List (Lit × DataW H) → Nat
  | [] => 0
  | x :: r => uptoBulkEntry x + uptoBulkEntries r
def uptoBulkEntry {H : Type} : Lit × DataW H → Nat
  | (.string bytes, d) => bytes.length + uptoBulk d + 1
  | (_, d) => uptoBulk d + 1
 end
def uptoSmall : (H : Type) → List (DataW H) → Bool := fun _ ds => decide (uptoBulkAll ds ≤ 1048576)
def OpenSpec.upto (s : _root_.Go.ChangeSpec) : _root_.Go.OpenSpec := { _root_.Go.OpenSpec.ofChange s with cond := some uptoSmall }

/-- 'bureaulaw17.CapsDead', WHERE WHAT IT READS IS OF BULK AT MOST 1048576: true; the input reads as it did. -/
def capsDeadUptoRow : OpenClaim := { program := "ytecbdhampjmlaaa", sum := "129ef9924687984384ac78f22f08f42d3e99daf2787d0c9f2b52917866c72fdf", func := "bureau/bureaulaw17.CapsDead", spec := "capsDead", recurses := true, apart := false, narrowed := true }
def CapsDeadUptoSaid : Prop := capsDeadUptoRow.holds Try.pinned (OpenSpec.upto capsDeadSpec)

/-- 'bureaulaw17.CapsLess', WHERE WHAT IT READS IS OF BULK AT MOST 1048576: true; the input reads as it did. -/
def capsLessUptoRow : OpenClaim := { program := "ytecbdhampjmlaaa", sum := "129ef9924687984384ac78f22f08f42d3e99daf2787d0c9f2b52917866c72fdf", func := "bureau/bureaulaw17.CapsLess", spec := "capsLess", recurses := true, apart := false, narrowed := true }
def CapsLessUptoSaid : Prop := capsLessUptoRow.holds Try.pinned (OpenSpec.upto capsLessSpec)

/-- 'bureaulaw17.CapsActs', WHERE WHAT IT READS IS OF BULK AT MOST 1048576: true; the input reads as it did. -/
def capsActsUptoRow : OpenClaim := { program := "ytecbdhampjmlaaa", sum := "129ef9924687984384ac78f22f08f42d3e99daf2787d0c9f2b52917866c72fdf", func := "bureau/bureaulaw17.CapsActs", spec := "capsActs", recurses := true, apart := false, narrowed := true }
def CapsActsUptoSaid : Prop := capsActsUptoRow.holds Try.pinned (OpenSpec.upto capsActsSpec)

/-- 'bureaulaw17.CapsRetired', WHERE WHAT IT READS IS OF BULK AT MOST 1048576: true; the input reads as it did. -/
def capsRetiredUptoRow : OpenClaim := { program := "ytecbdhampjmlaaa", sum := "129ef9924687984384ac78f22f08f42d3e99daf2787d0c9f2b52917866c72fdf", func := "bureau/bureaulaw17.CapsRetired", spec := "capsRetired", recurses := true, apart := false, narrowed := true }
def CapsRetiredUptoSaid : Prop := capsRetiredUptoRow.holds Try.pinned (OpenSpec.upto capsRetiredSpec)

/-- 'bureaulaw17.CapsNobody', WHERE WHAT IT READS IS OF BULK AT MOST 1048576: true; the input reads as it did. -/
def capsNobodyUptoRow : OpenClaim := { program := "ytecbdhampjmlaaa", sum := "129ef9924687984384ac78f22f08f42d3e99daf2787d0c9f2b52917866c72fdf", func := "bureau/bureaulaw17.CapsNobody", spec := "capsNobody", recurses := true, apart := false, narrowed := true }
def CapsNobodyUptoSaid : Prop := capsNobodyUptoRow.holds Try.pinned (OpenSpec.upto capsNobodySpec)

end Rows
end Go.Proofs.Ytecbdhampjmlaaa
