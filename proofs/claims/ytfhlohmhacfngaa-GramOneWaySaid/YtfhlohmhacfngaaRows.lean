/-
  No cell of these rows narrows 'for every input' (looked for: loops, veiled, ifaces, maps, wideKeys, modest, calm, conditions, laid).
  DERIVED. THE GIVEN ROWS OF THIS SEAT. 4 by the template 'for every input the law returns true; each argument reads behind the call as it read before'; 0 by the template 'total and deterministic' (their statements: YtfhlohmhacfngaaTotals.lean).
  GIVEN WITH THE SEED: the statements are not yours to turn. If you find one false, say at which input.
  Laid BY PROGRAM, IN A SANDBOX (cutbox-rows.mjs): the forced cells as the released guide's own fill.sh prints them over the translation 03df3003be5737f2… (all of the seat's roots in one cut). By AI agents, Wed Nov 11 2026. No macro, syntax, notation, axiom, sorry.
-/
import Derived.Test.YtfhlohmhacfngaaChecked
import GoSem.Claim
import GoSem.ClaimJoined
import GoSem.ClaimMapViews
import Derived.JoinedTies
import Derived.KernelRfl
namespace Go.Proofs.Ytfhlohmhacfngaa
/- THE CELL 'sum', in the pinned program and in every row, IS THE sha256 OF THE DUMP (.gsa) THAT YtfhlohmhacfngaaProg.lean LOADS. Nothing in Lean hashes anything: it is a label: what it is worth is what the hold of that sum in a sandbox is worth. -/
noncomputable def Try.pinned : Pinned := { name := "ytfhlohmhacfngaa", sum := "03df3003be5737f2c09a436554c6a2402292d679fa15ab90b54a2276e972348c", checked := Try.checked }
namespace Rows
def none {H : Type} : Left H := { results := [], args := [] }

/-- 'bureaulaw11.GramKeys': WHATEVER THE INPUT: true; the input reads as it did. -/
def gramKeysSpec : ChangeSpec := { name := "gramKeys", fn := fun _ => fun
  | [d] => { results := [.lit (.bool true)], args := [d] }
  | _ => none }
def gramKeysRow : OpenClaim := { program := "ytfhlohmhacfngaa", sum := "03df3003be5737f2c09a436554c6a2402292d679fa15ab90b54a2276e972348c", func := "bureau/bureaulaw11.GramKeys", spec := "gramKeys", inPlace := ["internal/bytealg.IndexByteString"], unfollowed := true, recurses := true, apart := false }
def GramKeysSaid : Prop := gramKeysRow.holds Try.pinned (OpenSpec.ofChange gramKeysSpec)

/-- ITS FALSE NEIGHBOUR: 'it returns false'. Refute it at one input. -/
def gramKeysWrong : ChangeSpec := { name := "gramKeys", fn := fun _ => fun
  | [d] => { results := [.lit (.bool false)], args := [d] }
  | _ => none }
def GramKeysWrongFalsely : Prop := gramKeysRow.holds Try.pinned (OpenSpec.ofChange gramKeysWrong)

/-- 'bureaulaw11.GramOneWay': WHATEVER THE INPUT: true; the input reads as it did. -/
def gramOneWaySpec : ChangeSpec := { name := "gramOneWay", fn := fun _ => fun
  | [d1, d2, d3] => { results := [.lit (.bool true)], args := [d1, d2, d3] }
  | _ => none }
def gramOneWayRow : OpenClaim := { program := "ytfhlohmhacfngaa", sum := "03df3003be5737f2c09a436554c6a2402292d679fa15ab90b54a2276e972348c", func := "bureau/bureaulaw11.GramOneWay", spec := "gramOneWay", inPlace := ["internal/bytealg.IndexByteString"], unfollowed := true, recurses := true, apart := false }
def GramOneWaySaid : Prop := gramOneWayRow.holds Try.pinned (OpenSpec.ofChange gramOneWaySpec)

/-- ITS FALSE NEIGHBOUR: 'it returns false'. Refute it at one input. -/
def gramOneWayWrong : ChangeSpec := { name := "gramOneWay", fn := fun _ => fun
  | [d1, d2, d3] => { results := [.lit (.bool false)], args := [d1, d2, d3] }
  | _ => none }
def GramOneWayWrongFalsely : Prop := gramOneWayRow.holds Try.pinned (OpenSpec.ofChange gramOneWayWrong)

/-- 'bureaulaw11.GramTold': WHATEVER THE INPUT: true; the input reads as it did. -/
def gramToldSpec : ChangeSpec := { name := "gramTold", fn := fun _ => fun
  | [d1, d2] => { results := [.lit (.bool true)], args := [d1, d2] }
  | _ => none }
def gramToldRow : OpenClaim := { program := "ytfhlohmhacfngaa", sum := "03df3003be5737f2c09a436554c6a2402292d679fa15ab90b54a2276e972348c", func := "bureau/bureaulaw11.GramTold", spec := "gramTold", inPlace := ["internal/bytealg.IndexByteString"], unfollowed := true, recurses := true, apart := false }
def GramToldSaid : Prop := gramToldRow.holds Try.pinned (OpenSpec.ofChange gramToldSpec)

/-- ITS FALSE NEIGHBOUR: 'it returns false'. Refute it at one input. -/
def gramToldWrong : ChangeSpec := { name := "gramTold", fn := fun _ => fun
  | [d1, d2] => { results := [.lit (.bool false)], args := [d1, d2] }
  | _ => none }
def GramToldWrongFalsely : Prop := gramToldRow.holds Try.pinned (OpenSpec.ofChange gramToldWrong)

/-- 'bureaulaw11.GramCounts': WHATEVER THE INPUT: true; the input reads as it did. -/
def gramCountsSpec : ChangeSpec := { name := "gramCounts", fn := fun _ => fun
  | [d1, d2, d3] => { results := [.lit (.bool true)], args := [d1, d2, d3] }
  | _ => none }
def gramCountsRow : OpenClaim := { program := "ytfhlohmhacfngaa", sum := "03df3003be5737f2c09a436554c6a2402292d679fa15ab90b54a2276e972348c", func := "bureau/bureaulaw11.GramCounts", spec := "gramCounts", inPlace := ["internal/bytealg.IndexByteString"], unfollowed := true, recurses := true, apart := false }
def GramCountsSaid : Prop := gramCountsRow.holds Try.pinned (OpenSpec.ofChange gramCountsSpec)

/-- ITS FALSE NEIGHBOUR: 'it returns false'. Refute it at one input. -/
def gramCountsWrong : ChangeSpec := { name := "gramCounts", fn := fun _ => fun
  | [d1, d2, d3] => { results := [.lit (.bool false)], args := [d1, d2, d3] }
  | _ => none }
def GramCountsWrongFalsely : Prop := gramCountsRow.holds Try.pinned (OpenSpec.ofChange gramCountsWrong)

/- THE SECOND FORM. 'bulk': how many values and letters a reading holds, each counted each time it is reached (what is shared counts as often as it is met; a slice's spare places count too). A statement '..UptoSaid' is the law's where the arguments, and the package variables that the reading takes, are together of bulk at most 1048576: NARROWER than '..Said'. Prove '..Said' where nothing that the law and all that it calls make is longer than what came in: it says more and counts as full. Else prove '..UptoSaid'. A law counts once. -/
mutual
def uptoBulk {H : Type} : DataW H → Nat
  | .lit (.string bytes) => bytes.length + 1
  | .lit _ => 1
  | .nil => 1
  | .ptr d => uptoBulk d + 1
  | .slice elems spare => uptoBulkAll elems + uptoBulkAll spare + 1
  | .agg parts => uptoBulkAll parts + 1
  | .iface _ d => uptoBulk d + 1
  | .map entries => uptoBulkEntries entries + 1
  | .held _ => 1
def uptoBulkAll {H : Type} : List (DataW H) → Nat
  | [] => 0
  | d :: r => uptoBulk d + uptoBulkAll r
def uptoBulkEntries {H : Type} : List (Lit × DataW H) → Nat
  | [] => 0
  | x :: r => uptoBulkEntry x + uptoBulkEntries r
def uptoBulkEntry {H : Type} : Lit × DataW H → Nat
  | (.string bytes, d) => bytes.length + uptoBulk d + 1
  | (_, d) => uptoBulk d + 1
 end
def uptoSmall : (H : Type) → List (DataW H) → Bool := fun _ ds => decide (uptoBulkAll ds ≤ 1048576)
def OpenSpec.upto (s : _root_.Go.ChangeSpec) : _root_.Go.OpenSpec := { _root_.Go.OpenSpec.ofChange s with cond := some uptoSmall }

/-- 'bureaulaw11.GramKeys', WHERE WHAT IT READS IS OF BULK AT MOST 1048576: true; the input reads as it did. -/
def gramKeysUptoRow : OpenClaim := { program := "ytfhlohmhacfngaa", sum := "03df3003be5737f2c09a436554c6a2402292d679fa15ab90b54a2276e972348c", func := "bureau/bureaulaw11.GramKeys", spec := "gramKeys", inPlace := ["internal/bytealg.IndexByteString"], unfollowed := true, recurses := true, apart := false, narrowed := true }
def GramKeysUptoSaid : Prop := gramKeysUptoRow.holds Try.pinned (OpenSpec.upto gramKeysSpec)

/-- 'bureaulaw11.GramOneWay', WHERE WHAT IT READS IS OF BULK AT MOST 1048576: true; the input reads as it did. -/
def gramOneWayUptoRow : OpenClaim := { program := "ytfhlohmhacfngaa", sum := "03df3003be5737f2c09a436554c6a2402292d679fa15ab90b54a2276e972348c", func := "bureau/bureaulaw11.GramOneWay", spec := "gramOneWay", inPlace := ["internal/bytealg.IndexByteString"], unfollowed := true, recurses := true, apart := false, narrowed := true }
def GramOneWayUptoSaid : Prop := gramOneWayUptoRow.holds Try.pinned (OpenSpec.upto gramOneWaySpec)

/-- 'bureaulaw11.GramTold', WHERE WHAT IT READS IS OF BULK AT MOST 1048576: true; the input reads as it did. -/
def gramToldUptoRow : OpenClaim := { program := "ytfhlohmhacfngaa", sum := "03df3003be5737f2c09a436554c6a2402292d679fa15ab90b54a2276e972348c", func := "bureau/bureaulaw11.GramTold", spec := "gramTold", inPlace := ["internal/bytealg.IndexByteString"], unfollowed := true, recurses := true, apart := false, narrowed := true }
def GramToldUptoSaid : Prop := gramToldUptoRow.holds Try.pinned (OpenSpec.upto gramToldSpec)

/-- 'bureaulaw11.GramCounts', WHERE WHAT IT READS IS OF BULK AT MOST 1048576: true; the input reads as it did. -/
def gramCountsUptoRow : OpenClaim := { program := "ytfhlohmhacfngaa", sum := "03df3003be5737f2c09a436554c6a2402292d679fa15ab90b54a2276e972348c", func := "bureau/bureaulaw11.GramCounts", spec := "gramCounts", inPlace := ["internal/bytealg.IndexByteString"], unfollowed := true, recurses := true, apart := false, narrowed := true }
def GramCountsUptoSaid : Prop := gramCountsUptoRow.holds Try.pinned (OpenSpec.upto gramCountsSpec)

end Rows
end Go.Proofs.Ytfhlohmhacfngaa
