/-
  No cell of these rows narrows 'for every input' (looked for: loops, veiled, ifaces, maps, wideKeys, modest, calm, conditions, laid).
  DERIVED. THE GIVEN ROWS OF THIS SEAT. 5 by the template 'for every input the law returns true; each argument reads behind the call as it read before'; 0 by the template 'total and deterministic' (their statements: YtlpiknclbgogbaaTotals.lean).
  GIVEN WITH THE SEED: the statements are not yours to turn. If you find one false, say at which input.
  Laid BY PROGRAM, IN A SANDBOX (cutbox-rows.mjs): the forced cells as the released guide's own fill.sh prints them over the translation 1d9fa16bcb5e0ad6… (all of the seat's roots in one cut). By AI agents, Wed Nov 11 2026. No macro, syntax, notation, axiom, sorry.
-/
import Derived.Test.YtlpiknclbgogbaaChecked
import GoSem.Claim
import GoSem.ClaimJoined
import GoSem.ClaimMapViews
import Derived.JoinedTies
import Derived.KernelRfl
namespace Go.Proofs.Ytlpiknclbgogbaa
/- THE CELL 'sum', in the pinned program and in every row, IS THE sha256 OF THE DUMP (.gsa) THAT YtlpiknclbgogbaaProg.lean LOADS. Nothing in Lean hashes anything: it is a label: what it is worth is what the hold of that sum in a sandbox is worth. -/
noncomputable def Try.pinned : Pinned := { name := "ytlpiknclbgogbaa", sum := "1d9fa16bcb5e0ad6b8c8433e34e92af5dca9c3e43db5efeb15a09d4c2b7ea6ae", checked := Try.checked }
namespace Rows
def none {H : Type} : Left H := { results := [], args := [] }

/-- 'bureaulaw21.CodeDepths': WHATEVER THE INPUT: true; the input reads as it did. -/
def codeDepthsSpec : ChangeSpec := { name := "codeDepths", fn := fun _ => fun
  | [d] => { results := [.lit (.bool true)], args := [d] }
  | _ => none }
def codeDepthsRow : OpenClaim := { program := "ytlpiknclbgogbaa", sum := "1d9fa16bcb5e0ad6b8c8433e34e92af5dca9c3e43db5efeb15a09d4c2b7ea6ae", func := "bureau/bureaulaw21.CodeDepths", spec := "codeDepths", apart := false }
def CodeDepthsSaid : Prop := codeDepthsRow.holds Try.pinned (OpenSpec.ofChange codeDepthsSpec)

/-- ITS FALSE NEIGHBOUR: 'it returns false'. Refute it at one input. -/
def codeDepthsWrong : ChangeSpec := { name := "codeDepths", fn := fun _ => fun
  | [d] => { results := [.lit (.bool false)], args := [d] }
  | _ => none }
def CodeDepthsWrongFalsely : Prop := codeDepthsRow.holds Try.pinned (OpenSpec.ofChange codeDepthsWrong)

/-- 'bureaulaw21.CodeSafe': WHATEVER THE INPUT: true; the input reads as it did. -/
def codeSafeSpec : ChangeSpec := { name := "codeSafe", fn := fun _ => fun
  | [d1, d2] => { results := [.lit (.bool true)], args := [d1, d2] }
  | _ => none }
def codeSafeRow : OpenClaim := { program := "ytlpiknclbgogbaa", sum := "1d9fa16bcb5e0ad6b8c8433e34e92af5dca9c3e43db5efeb15a09d4c2b7ea6ae", func := "bureau/bureaulaw21.CodeSafe", spec := "codeSafe", apart := false }
def CodeSafeSaid : Prop := codeSafeRow.holds Try.pinned (OpenSpec.ofChange codeSafeSpec)

/-- ITS FALSE NEIGHBOUR: 'it returns false'. Refute it at one input. -/
def codeSafeWrong : ChangeSpec := { name := "codeSafe", fn := fun _ => fun
  | [d1, d2] => { results := [.lit (.bool false)], args := [d1, d2] }
  | _ => none }
def CodeSafeWrongFalsely : Prop := codeSafeRow.holds Try.pinned (OpenSpec.ofChange codeSafeWrong)

/-- 'bureaulaw21.CodeAsks': WHATEVER THE INPUT: true; the input reads as it did. -/
def codeAsksSpec : ChangeSpec := { name := "codeAsks", fn := fun _ => fun
  | [d] => { results := [.lit (.bool true)], args := [d] }
  | _ => none }
def codeAsksRow : OpenClaim := { program := "ytlpiknclbgogbaa", sum := "1d9fa16bcb5e0ad6b8c8433e34e92af5dca9c3e43db5efeb15a09d4c2b7ea6ae", func := "bureau/bureaulaw21.CodeAsks", spec := "codeAsks", apart := false }
def CodeAsksSaid : Prop := codeAsksRow.holds Try.pinned (OpenSpec.ofChange codeAsksSpec)

/-- ITS FALSE NEIGHBOUR: 'it returns false'. Refute it at one input. -/
def codeAsksWrong : ChangeSpec := { name := "codeAsks", fn := fun _ => fun
  | [d] => { results := [.lit (.bool false)], args := [d] }
  | _ => none }
def CodeAsksWrongFalsely : Prop := codeAsksRow.holds Try.pinned (OpenSpec.ofChange codeAsksWrong)

/-- 'bureaulaw21.CodeBytes': WHATEVER THE INPUT: true; the input reads as it did. -/
def codeBytesSpec : ChangeSpec := { name := "codeBytes", fn := fun _ => fun
  | [d1, d2] => { results := [.lit (.bool true)], args := [d1, d2] }
  | _ => none }
def codeBytesRow : OpenClaim := { program := "ytlpiknclbgogbaa", sum := "1d9fa16bcb5e0ad6b8c8433e34e92af5dca9c3e43db5efeb15a09d4c2b7ea6ae", func := "bureau/bureaulaw21.CodeBytes", spec := "codeBytes", apart := false }
def CodeBytesSaid : Prop := codeBytesRow.holds Try.pinned (OpenSpec.ofChange codeBytesSpec)

/-- ITS FALSE NEIGHBOUR: 'it returns false'. Refute it at one input. -/
def codeBytesWrong : ChangeSpec := { name := "codeBytes", fn := fun _ => fun
  | [d1, d2] => { results := [.lit (.bool false)], args := [d1, d2] }
  | _ => none }
def CodeBytesWrongFalsely : Prop := codeBytesRow.holds Try.pinned (OpenSpec.ofChange codeBytesWrong)

/-- 'bureaulaw21.CodeBack': WHATEVER THE INPUT: true; the input reads as it did. -/
def codeBackSpec : ChangeSpec := { name := "codeBack", fn := fun _ => fun
  | [d1, d2] => { results := [.lit (.bool true)], args := [d1, d2] }
  | _ => none }
def codeBackRow : OpenClaim := { program := "ytlpiknclbgogbaa", sum := "1d9fa16bcb5e0ad6b8c8433e34e92af5dca9c3e43db5efeb15a09d4c2b7ea6ae", func := "bureau/bureaulaw21.CodeBack", spec := "codeBack", apart := false }
def CodeBackSaid : Prop := codeBackRow.holds Try.pinned (OpenSpec.ofChange codeBackSpec)

/-- ITS FALSE NEIGHBOUR: 'it returns false'. Refute it at one input. -/
def codeBackWrong : ChangeSpec := { name := "codeBack", fn := fun _ => fun
  | [d1, d2] => { results := [.lit (.bool false)], args := [d1, d2] }
  | _ => none }
def CodeBackWrongFalsely : Prop := codeBackRow.holds Try.pinned (OpenSpec.ofChange codeBackWrong)

/- THE SECOND FORM. 'bulk': how many values and letters a reading holds, each counted each time it is reached (what is shared counts as often as it is met; a slice's spare places count too). A statement '..UptoSaid' is the law's where the arguments, and the package variables that the reading takes, are together of bulk at most 1048576: NARROWER than '..Said'. Prove '..Said' where nothing that the law and all that it calls make is longer than what came in: it says more and counts as full. Else prove '..UptoSaid'. A law counts once. -/
mutual
def uptoBulk {H : Type} : DataW H → Nat
  | .lit (.string bytes) => bytes.length + 1
  | .lit _ => 1
  | .nil => 1
  | .ptr d => uptoBulk d + 1
  | .slice elems spare => uptoBulkAll elems + uptoBulkAll spare + 1
  | .agg parts => uptoBulkAll parts + 1
  | .iface _ d => uptoBulk d + 1
  | .map entries => uptoBulkEntries entries + 1
  | .held _ => 1
def uptoBulkAll {H : Type} : List (DataW H) → Nat
  | [] => 0
  | d :: r => uptoBulk d + uptoBulkAll r
def uptoBulkEntries {H : Type} : List (Lit × DataW H) → Nat
  | [] => 0
  | x :: r => uptoBulkEntry x + uptoBulkEntries r
def uptoBulkEntry {H : Type} : Lit × DataW H → Nat
  | (.string bytes, d) => bytes.length + uptoBulk d + 1
  | (_, d) => uptoBulk d + 1
 end
def uptoSmall : (H : Type) → List (DataW H) → Bool := fun _ ds => decide (uptoBulkAll ds ≤ 1048576)
def OpenSpec.upto (s : _root_.Go.ChangeSpec) : _root_.Go.OpenSpec := { _root_.Go.OpenSpec.ofChange s with cond := some uptoSmall }

/-- 'bureaulaw21.CodeDepths', WHERE WHAT IT READS IS OF BULK AT MOST 1048576: true; the input reads as it did. -/
def codeDepthsUptoRow : OpenClaim := { program := "ytlpiknclbgogbaa", sum := "1d9fa16bcb5e0ad6b8c8433e34e92af5dca9c3e43db5efeb15a09d4c2b7ea6ae", func := "bureau/bureaulaw21.CodeDepths", spec := "codeDepths", apart := false, narrowed := true }
def CodeDepthsUptoSaid : Prop := codeDepthsUptoRow.holds Try.pinned (OpenSpec.upto codeDepthsSpec)

/-- 'bureaulaw21.CodeSafe', WHERE WHAT IT READS IS OF BULK AT MOST 1048576: true; the input reads as it did. -/
def codeSafeUptoRow : OpenClaim := { program := "ytlpiknclbgogbaa", sum := "1d9fa16bcb5e0ad6b8c8433e34e92af5dca9c3e43db5efeb15a09d4c2b7ea6ae", func := "bureau/bureaulaw21.CodeSafe", spec := "codeSafe", apart := false, narrowed := true }
def CodeSafeUptoSaid : Prop := codeSafeUptoRow.holds Try.pinned (OpenSpec.upto codeSafeSpec)

/-- 'bureaulaw21.CodeAsks', WHERE WHAT IT READS IS OF BULK AT MOST 1048576: true; the input reads as it did. -/
def codeAsksUptoRow : OpenClaim := { program := "ytlpiknclbgogbaa", sum := "1d9fa16bcb5e0ad6b8c8433e34e92af5dca9c3e43db5efeb15a09d4c2b7ea6ae", func := "bureau/bureaulaw21.CodeAsks", spec := "codeAsks", apart := false, narrowed := true }
def CodeAsksUptoSaid : Prop := codeAsksUptoRow.holds Try.pinned (OpenSpec.upto codeAsksSpec)

/-- 'bureaulaw21.CodeBytes', WHERE WHAT IT READS IS OF BULK AT MOST 1048576: true; the input reads as it did. -/
def codeBytesUptoRow : OpenClaim := { program := "ytlpiknclbgogbaa", sum := "1d9fa16bcb5e0ad6b8c8433e34e92af5dca9c3e43db5efeb15a09d4c2b7ea6ae", func := "bureau/bureaulaw21.CodeBytes", spec := "codeBytes", apart := false, narrowed := true }
def CodeBytesUptoSaid : Prop := codeBytesUptoRow.holds Try.pinned (OpenSpec.upto codeBytesSpec)

/-- 'bureaulaw21.CodeBack', WHERE WHAT IT READS IS OF BULK AT MOST 1048576: true; the input reads as it did. -/
def codeBackUptoRow : OpenClaim := { program := "ytlpiknclbgogbaa", sum := "1d9fa16bcb5e0ad6b8c8433e34e92af5dca9c3e43db5efeb15a09d4c2b7ea6ae", func := "bureau/bureaulaw21.CodeBack", spec := "codeBack", apart := false, narrowed := true }
def CodeBackUptoSaid : Prop := codeBackUptoRow.holds Try.pinned (OpenSpec.upto codeBackSpec)

end Rows
end Go.Proofs.Ytlpiknclbgogbaa
