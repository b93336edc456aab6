/-
  NARROWER THAN 'FOR EVERY INPUT', by the rows' own cells (each row's printed sentence says how): KeysMay: laid · KeysPrints: laid · KeysParses: laid · KeysBack: laid · KeysJoins: laid.
  DERIVED. THE GIVEN ROWS OF THIS SEAT. 5 by the template 'for every input the law returns true; each argument reads behind the call as it read before'; 0 by the template 'total and deterministic' (their statements: YtbbogjecpdebbaaDoorTotals.lean).
  GIVEN WITH THE SEED: the statements are not yours to turn. If you find one false, say at which input.
  Laid BY PROGRAM, IN A SANDBOX (cutbox-rows.mjs): the forced cells as the released guide's own fill.sh prints them over the translation eea41760af2a9a64… (all of the seat's roots in one cut). By AI agents, Wed Nov 11 2026. No macro, syntax, notation, axiom, sorry.
-/
import Derived.Test.YtbbogjecpdebbaaDoorChecked
import GoSem.PinnedTables
import GoSem.Claim
import GoSem.ClaimJoined
import GoSem.ClaimMapViews
import Derived.JoinedTies
import Derived.KernelRfl
namespace Go.Proofs.YtbbogjecpdebbaaDoor
/- THE CELL 'sum', in the pinned program and in every row, IS THE sha256 OF THE DUMP (.gsa) THAT YtbbogjecpdebbaaDoorProg.lean LOADS. Nothing in Lean hashes anything: it is a label: what it is worth is what the hold of that sum in a sandbox is worth. -/
noncomputable def Tryd.pinned : Pinned := { name := "ytbbogjecpdebbaadoor", sum := "eea41760af2a9a6439b5cb297cf84afc1923f55e4257395bd03f644e35e6b1ba", checked := Tryd.checked }
namespace Rows
def none {H : Type} : Left H := { results := [], args := [] }

/- WHAT THE LISTED PACKAGE-LEVEL VARIABLES READ AS WHEN THE CALL BEGINS. Each datum BY PROGRAM (the guide's laid-datum.mjs) off the statement by which the dump's own 'gosem.cut.vars' lays the variable. In a bare row this is a premise. The card (YtbbogjecpdebbaaDoorCards.lean) ties it to the program's text. -/
def laid_unicode_utf8_acceptRanges {H : Type} : DataW H := .agg [.agg [.lit (.int .u8 128), .lit (.int .u8 191)], .agg [.lit (.int .u8 160), .lit (.int .u8 191)], .agg [.lit (.int .u8 128), .lit (.int .u8 159)], .agg [.lit (.int .u8 144), .lit (.int .u8 191)], .agg [.lit (.int .u8 128), .lit (.int .u8 143)], .agg [.lit (.int .u8 0), .lit (.int .u8 0)], .agg [.lit (.int .u8 0), .lit (.int .u8 0)], .agg [.lit (.int .u8 0), .lit (.int .u8 0)], .agg [.lit (.int .u8 0), .lit (.int .u8 0)], .agg [.lit (.int .u8 0), .lit (.int .u8 0)], .agg [.lit (.int .u8 0), .lit (.int .u8 0)], .agg [.lit (.int .u8 0), .lit (.int .u8 0)], .agg [.lit (.int .u8 0), .lit (.int .u8 0)], .agg [.lit (.int .u8 0), .lit (.int .u8 0)], .agg [.lit (.int .u8 0), .lit (.int .u8 0)], .agg [.lit (.int .u8 0), .lit (.int .u8 0)]]
/-- One of Go's own tables, pinned by name: the form's constant. -/
def laid_unicode_utf8_first : DataW Unit := Go.Pinned.utf8First

/-- 'bureaulaw10.KeysMay': WHATEVER THE INPUT: true; the input reads as it did. -/
def keysMaySpec : ChangeSpec := { name := "keysMay", fn := fun _ => fun
  | [d] => { results := [.lit (.bool true)], args := [d] }
  | _ => none }
def keysMayRow : OpenClaim := { program := "ytbbogjecpdebbaadoor", sum := "eea41760af2a9a6439b5cb297cf84afc1923f55e4257395bd03f644e35e6b1ba", func := "bureau/bureaulaw10.KeysMay", spec := "keysMay", inPlace := ["internal/abi.NoEscape"], named := ["unicode/utf8.first", "unicode/utf8.acceptRanges"], apart := false, laid := [("unicode/utf8.acceptRanges", laid_unicode_utf8_acceptRanges), ("unicode/utf8.first", laid_unicode_utf8_first)] }
def KeysMaySaid : Prop := keysMayRow.holds Tryd.pinned (OpenSpec.ofChange keysMaySpec)

/-- ITS FALSE NEIGHBOUR: 'it returns false'. Refute it at one input. -/
def keysMayWrong : ChangeSpec := { name := "keysMay", fn := fun _ => fun
  | [d] => { results := [.lit (.bool false)], args := [d] }
  | _ => none }
def KeysMayWrongFalsely : Prop := keysMayRow.holds Tryd.pinned (OpenSpec.ofChange keysMayWrong)

/-- 'bureaulaw10.KeysPrints': WHATEVER THE INPUT: true; the input reads as it did. -/
def keysPrintsSpec : ChangeSpec := { name := "keysPrints", fn := fun _ => fun
  | [d] => { results := [.lit (.bool true)], args := [d] }
  | _ => none }
def keysPrintsRow : OpenClaim := { program := "ytbbogjecpdebbaadoor", sum := "eea41760af2a9a6439b5cb297cf84afc1923f55e4257395bd03f644e35e6b1ba", func := "bureau/bureaulaw10.KeysPrints", spec := "keysPrints", inPlace := ["internal/abi.NoEscape"], named := ["unicode/utf8.first", "unicode/utf8.acceptRanges"], apart := false, laid := [("unicode/utf8.acceptRanges", laid_unicode_utf8_acceptRanges), ("unicode/utf8.first", laid_unicode_utf8_first)] }
def KeysPrintsSaid : Prop := keysPrintsRow.holds Tryd.pinned (OpenSpec.ofChange keysPrintsSpec)

/-- ITS FALSE NEIGHBOUR: 'it returns false'. Refute it at one input. -/
def keysPrintsWrong : ChangeSpec := { name := "keysPrints", fn := fun _ => fun
  | [d] => { results := [.lit (.bool false)], args := [d] }
  | _ => none }
def KeysPrintsWrongFalsely : Prop := keysPrintsRow.holds Tryd.pinned (OpenSpec.ofChange keysPrintsWrong)

/-- 'bureaulaw10.KeysParses': WHATEVER THE INPUT: true; the input reads as it did. -/
def keysParsesSpec : ChangeSpec := { name := "keysParses", fn := fun _ => fun
  | [d] => { results := [.lit (.bool true)], args := [d] }
  | _ => none }
def keysParsesRow : OpenClaim := { program := "ytbbogjecpdebbaadoor", sum := "eea41760af2a9a6439b5cb297cf84afc1923f55e4257395bd03f644e35e6b1ba", func := "bureau/bureaulaw10.KeysParses", spec := "keysParses", inPlace := ["internal/abi.NoEscape"], named := ["unicode/utf8.first", "unicode/utf8.acceptRanges"], apart := false, laid := [("unicode/utf8.acceptRanges", laid_unicode_utf8_acceptRanges), ("unicode/utf8.first", laid_unicode_utf8_first)] }
def KeysParsesSaid : Prop := keysParsesRow.holds Tryd.pinned (OpenSpec.ofChange keysParsesSpec)

/-- ITS FALSE NEIGHBOUR: 'it returns false'. Refute it at one input. -/
def keysParsesWrong : ChangeSpec := { name := "keysParses", fn := fun _ => fun
  | [d] => { results := [.lit (.bool false)], args := [d] }
  | _ => none }
def KeysParsesWrongFalsely : Prop := keysParsesRow.holds Tryd.pinned (OpenSpec.ofChange keysParsesWrong)

/-- 'bureaulaw10.KeysBack': WHATEVER THE INPUT: true; the input reads as it did. -/
def keysBackSpec : ChangeSpec := { name := "keysBack", fn := fun _ => fun
  | [d1, d2] => { results := [.lit (.bool true)], args := [d1, d2] }
  | _ => none }
def keysBackRow : OpenClaim := { program := "ytbbogjecpdebbaadoor", sum := "eea41760af2a9a6439b5cb297cf84afc1923f55e4257395bd03f644e35e6b1ba", func := "bureau/bureaulaw10.KeysBack", spec := "keysBack", inPlace := ["internal/abi.NoEscape"], named := ["unicode/utf8.first", "unicode/utf8.acceptRanges"], apart := false, laid := [("unicode/utf8.acceptRanges", laid_unicode_utf8_acceptRanges), ("unicode/utf8.first", laid_unicode_utf8_first)] }
def KeysBackSaid : Prop := keysBackRow.holds Tryd.pinned (OpenSpec.ofChange keysBackSpec)

/-- ITS FALSE NEIGHBOUR: 'it returns false'. Refute it at one input. -/
def keysBackWrong : ChangeSpec := { name := "keysBack", fn := fun _ => fun
  | [d1, d2] => { results := [.lit (.bool false)], args := [d1, d2] }
  | _ => none }
def KeysBackWrongFalsely : Prop := keysBackRow.holds Tryd.pinned (OpenSpec.ofChange keysBackWrong)

/-- 'bureaulaw10.KeysJoins': WHATEVER THE INPUT: true; the input reads as it did. -/
def keysJoinsSpec : ChangeSpec := { name := "keysJoins", fn := fun _ => fun
  | [d1, d2] => { results := [.lit (.bool true)], args := [d1, d2] }
  | _ => none }
def keysJoinsRow : OpenClaim := { program := "ytbbogjecpdebbaadoor", sum := "eea41760af2a9a6439b5cb297cf84afc1923f55e4257395bd03f644e35e6b1ba", func := "bureau/bureaulaw10.KeysJoins", spec := "keysJoins", inPlace := ["internal/abi.NoEscape"], named := ["unicode/utf8.first", "unicode/utf8.acceptRanges"], apart := false, laid := [("unicode/utf8.acceptRanges", laid_unicode_utf8_acceptRanges), ("unicode/utf8.first", laid_unicode_utf8_first)] }
def KeysJoinsSaid : Prop := keysJoinsRow.holds Tryd.pinned (OpenSpec.ofChange keysJoinsSpec)

/-- ITS FALSE NEIGHBOUR: 'it returns false'. Refute it at one input. -/
def keysJoinsWrong : ChangeSpec := { name := "keysJoins", fn := fun _ => fun
  | [d1, d2] => { results := [.lit (.bool false)], args := [d1, d2] }
  | _ => none }
def KeysJoinsWrongFalsely : Prop := keysJoinsRow.holds Tryd.pinned (OpenSpec.ofChange keysJoinsWrong)

/- THE SECOND FORM. 'bulk': how many values and letters a reading holds, each counted each time it is reached (what is shared counts as often as it is met; a slice's spare places count too). A statement '..UptoSaid' is the law's where the arguments, and the package variables that the reading takes, are together of bulk at most 1048576: NARROWER than '..Said'. Prove '..Said' where nothing that the law and all that it calls make is longer than what came in: it says more and counts as full. Else prove '..UptoSaid'. A law counts once. -/
mutual
def uptoBulk {H : Type} : DataW H → Nat
  | .lit (.string bytes) => bytes.length + 1
  | .lit _ => 1
  | .nil => 1
  | .ptr d => uptoBulk d + 1
  | .slice elems spare => uptoBulkAll elems + uptoBulkAll spare + 1
  | .agg parts => uptoBulkAll parts + 1
  | .iface _ d => uptoBulk d + 1
  | .map entries => uptoBulkEntries entries + 1
  | .held _ => 1
def uptoBulkAll {H : Type} : List (DataW H) → Nat
  | [] => 0
  | d :: r => uptoBulk d + uptoBulkAll r
def uptoBulkEntries {H : Type} : List (Lit × DataW H) → Nat
  | [] => 0
  | x :: r => uptoBulkEntry x + uptoBulkEntries r
def uptoBulkEntry {H : Type} : Lit × DataW H → Nat
  | (.string bytes, d) => bytes.length + uptoBulk d + 1
  | (_, d) => uptoBulk d + 1
 end
def uptoSmall : (H : Type) → List (DataW H) → Bool := fun _ ds => decide (uptoBulkAll ds ≤ 1048576)
def OpenSpec.upto (s : _root_.Go.ChangeSpec) : _root_.Go.OpenSpec := { _root_.Go.OpenSpec.ofChange s with cond := some uptoSmall }

/-- 'bureaulaw10.KeysMay', WHERE WHAT IT READS IS OF BULK AT MOST 1048576: true; the input reads as it did. -/
def keysMayUptoRow : OpenClaim := { program := "ytbbogjecpdebbaadoor", sum := "eea41760af2a9a6439b5cb297cf84afc1923f55e4257395bd03f644e35e6b1ba", func := "bureau/bureaulaw10.KeysMay", spec := "keysMay", inPlace := ["internal/abi.NoEscape"], named := ["unicode/utf8.first", "unicode/utf8.acceptRanges"], apart := false, laid := [("unicode/utf8.acceptRanges", laid_unicode_utf8_acceptRanges), ("unicode/utf8.first", laid_unicode_utf8_first)], narrowed := true }
def KeysMayUptoSaid : Prop := keysMayUptoRow.holds Tryd.pinned (OpenSpec.upto keysMaySpec)

/-- 'bureaulaw10.KeysPrints', WHERE WHAT IT READS IS OF BULK AT MOST 1048576: true; the input reads as it did. -/
def keysPrintsUptoRow : OpenClaim := { program := "ytbbogjecpdebbaadoor", sum := "eea41760af2a9a6439b5cb297cf84afc1923f55e4257395bd03f644e35e6b1ba", func := "bureau/bureaulaw10.KeysPrints", spec := "keysPrints", inPlace := ["internal/abi.NoEscape"], named := ["unicode/utf8.first", "unicode/utf8.acceptRanges"], apart := false, laid := [("unicode/utf8.acceptRanges", laid_unicode_utf8_acceptRanges), ("unicode/utf8.first", laid_unicode_utf8_first)], narrowed := true }
def KeysPrintsUptoSaid : Prop := keysPrintsUptoRow.holds Tryd.pinned (OpenSpec.upto keysPrintsSpec)

/-- 'bureaulaw10.KeysParses', WHERE WHAT IT READS IS OF BULK AT MOST 1048576: true; the input reads as it did. -/
def keysParsesUptoRow : OpenClaim := { program := "ytbbogjecpdebbaadoor", sum := "eea41760af2a9a6439b5cb297cf84afc1923f55e4257395bd03f644e35e6b1ba", func := "bureau/bureaulaw10.KeysParses", spec := "keysParses", inPlace := ["internal/abi.NoEscape"], named := ["unicode/utf8.first", "unicode/utf8.acceptRanges"], apart := false, laid := [("unicode/utf8.acceptRanges", laid_unicode_utf8_acceptRanges), ("unicode/utf8.first", laid_unicode_utf8_first)], narrowed := true }
def KeysParsesUptoSaid : Prop := keysParsesUptoRow.holds Tryd.pinned (OpenSpec.upto keysParsesSpec)

/-- 'bureaulaw10.KeysBack', WHERE WHAT IT READS IS OF BULK AT MOST 1048576: true; the input reads as it did. -/
def keysBackUptoRow : OpenClaim := { program := "ytbbogjecpdebbaadoor", sum := "eea41760af2a9a6439b5cb297cf84afc1923f55e4257395bd03f644e35e6b1ba", func := "bureau/bureaulaw10.KeysBack", spec := "keysBack", inPlace := ["internal/abi.NoEscape"], named := ["unicode/utf8.first", "unicode/utf8.acceptRanges"], apart := false, laid := [("unicode/utf8.acceptRanges", laid_unicode_utf8_acceptRanges), ("unicode/utf8.first", laid_unicode_utf8_first)], narrowed := true }
def KeysBackUptoSaid : Prop := keysBackUptoRow.holds Tryd.pinned (OpenSpec.upto keysBackSpec)

/-- 'bureaulaw10.KeysJoins', WHERE WHAT IT READS IS OF BULK AT MOST 1048576: true; the input reads as it did. -/
def keysJoinsUptoRow : OpenClaim := { program := "ytbbogjecpdebbaadoor", sum := "eea41760af2a9a6439b5cb297cf84afc1923f55e4257395bd03f644e35e6b1ba", func := "bureau/bureaulaw10.KeysJoins", spec := "keysJoins", inPlace := ["internal/abi.NoEscape"], named := ["unicode/utf8.first", "unicode/utf8.acceptRanges"], apart := false, laid := [("unicode/utf8.acceptRanges", laid_unicode_utf8_acceptRanges), ("unicode/utf8.first", laid_unicode_utf8_first)], narrowed := true }
def KeysJoinsUptoSaid : Prop := keysJoinsUptoRow.holds Tryd.pinned (OpenSpec.upto keysJoinsSpec)

end Rows
end Go.Proofs.YtbbogjecpdebbaaDoor
