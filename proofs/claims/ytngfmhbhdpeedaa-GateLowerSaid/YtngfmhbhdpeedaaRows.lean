/-
  No cell of these rows narrows 'for every input' (looked for: loops, veiled, ifaces, maps, wideKeys, modest, calm, conditions, laid).
  DERIVED. THE GIVEN ROWS OF THIS SEAT. 4 by the template 'for every input the law returns true; each argument reads behind the call as it read before'; 0 by the template 'total and deterministic' (their statements: YtngfmhbhdpeedaaTotals.lean).
  GIVEN WITH THE SEED: the statements are not yours to turn. If you find one false, say at which input.
  Laid BY PROGRAM, IN A SANDBOX (cutbox-rows.mjs): the forced cells as the released guide's own fill.sh prints them over the translation 1cacbac0d43a0333… (all of the seat's roots in one cut). By AI agents, Wed Nov 11 2026. No macro, syntax, notation, axiom, sorry.
-/
import Derived.Test.YtngfmhbhdpeedaaChecked
import GoSem.Claim
import GoSem.ClaimJoined
import GoSem.ClaimMapViews
import Derived.JoinedTies
import Derived.KernelRfl
namespace Go.Proofs.Ytngfmhbhdpeedaa
/- THE CELL 'sum', in the pinned program and in every row, IS THE sha256 OF THE DUMP (.gsa) THAT YtngfmhbhdpeedaaProg.lean LOADS. Nothing in Lean hashes anything: it is a label: what it is worth is what the hold of that sum in a sandbox is worth. -/
noncomputable def Try.pinned : Pinned := { name := "ytngfmhbhdpeedaa", sum := "1cacbac0d43a033344514f0187903afe9af4b14bbe6ec99dcb3fa5a0183e0032", checked := Try.checked }
namespace Rows
def none {H : Type} : Left H := { results := [], args := [] }

/-- 'bureaulaw20.GateDecides': WHATEVER THE INPUT: true; the input reads as it did. -/
def gateDecidesSpec : ChangeSpec := { name := "gateDecides", fn := fun _ => fun
  | [d] => { results := [.lit (.bool true)], args := [d] }
  | _ => none }
def gateDecidesRow : OpenClaim := { program := "ytngfmhbhdpeedaa", sum := "1cacbac0d43a033344514f0187903afe9af4b14bbe6ec99dcb3fa5a0183e0032", func := "bureau/bureaulaw20.GateDecides", spec := "gateDecides", apart := false }
def GateDecidesSaid : Prop := gateDecidesRow.holds Try.pinned (OpenSpec.ofChange gateDecidesSpec)

/-- ITS FALSE NEIGHBOUR: 'it returns false'. Refute it at one input. -/
def gateDecidesWrong : ChangeSpec := { name := "gateDecides", fn := fun _ => fun
  | [d] => { results := [.lit (.bool false)], args := [d] }
  | _ => none }
def GateDecidesWrongFalsely : Prop := gateDecidesRow.holds Try.pinned (OpenSpec.ofChange gateDecidesWrong)

/-- 'bureaulaw20.GateLower': WHATEVER THE INPUT: true; the input reads as it did. -/
def gateLowerSpec : ChangeSpec := { name := "gateLower", fn := fun _ => fun
  | [d1, d2, d3] => { results := [.lit (.bool true)], args := [d1, d2, d3] }
  | _ => none }
def gateLowerRow : OpenClaim := { program := "ytngfmhbhdpeedaa", sum := "1cacbac0d43a033344514f0187903afe9af4b14bbe6ec99dcb3fa5a0183e0032", func := "bureau/bureaulaw20.GateLower", spec := "gateLower", apart := false }
def GateLowerSaid : Prop := gateLowerRow.holds Try.pinned (OpenSpec.ofChange gateLowerSpec)

/-- ITS FALSE NEIGHBOUR: 'it returns false'. Refute it at one input. -/
def gateLowerWrong : ChangeSpec := { name := "gateLower", fn := fun _ => fun
  | [d1, d2, d3] => { results := [.lit (.bool false)], args := [d1, d2, d3] }
  | _ => none }
def GateLowerWrongFalsely : Prop := gateLowerRow.holds Try.pinned (OpenSpec.ofChange gateLowerWrong)

/-- 'bureaulaw20.GateDown': WHATEVER THE INPUT: true; the input reads as it did. -/
def gateDownSpec : ChangeSpec := { name := "gateDown", fn := fun _ => fun
  | [d1, d2, d3] => { results := [.lit (.bool true)], args := [d1, d2, d3] }
  | _ => none }
def gateDownRow : OpenClaim := { program := "ytngfmhbhdpeedaa", sum := "1cacbac0d43a033344514f0187903afe9af4b14bbe6ec99dcb3fa5a0183e0032", func := "bureau/bureaulaw20.GateDown", spec := "gateDown", apart := false }
def GateDownSaid : Prop := gateDownRow.holds Try.pinned (OpenSpec.ofChange gateDownSpec)

/-- ITS FALSE NEIGHBOUR: 'it returns false'. Refute it at one input. -/
def gateDownWrong : ChangeSpec := { name := "gateDown", fn := fun _ => fun
  | [d1, d2, d3] => { results := [.lit (.bool false)], args := [d1, d2, d3] }
  | _ => none }
def GateDownWrongFalsely : Prop := gateDownRow.holds Try.pinned (OpenSpec.ofChange gateDownWrong)

/-- 'bureaulaw20.GateUser': WHATEVER THE INPUT: true; the input reads as it did. -/
def gateUserSpec : ChangeSpec := { name := "gateUser", fn := fun _ => fun
  | [d] => { results := [.lit (.bool true)], args := [d] }
  | _ => none }
def gateUserRow : OpenClaim := { program := "ytngfmhbhdpeedaa", sum := "1cacbac0d43a033344514f0187903afe9af4b14bbe6ec99dcb3fa5a0183e0032", func := "bureau/bureaulaw20.GateUser", spec := "gateUser", apart := false }
def GateUserSaid : Prop := gateUserRow.holds Try.pinned (OpenSpec.ofChange gateUserSpec)

/-- ITS FALSE NEIGHBOUR: 'it returns false'. Refute it at one input. -/
def gateUserWrong : ChangeSpec := { name := "gateUser", fn := fun _ => fun
  | [d] => { results := [.lit (.bool false)], args := [d] }
  | _ => none }
def GateUserWrongFalsely : Prop := gateUserRow.holds Try.pinned (OpenSpec.ofChange gateUserWrong)

/- THE SECOND FORM. 'bulk': how many values and letters a reading holds, each counted each time it is reached (what is shared counts as often as it is met; a slice's spare places count too). A statement '..UptoSaid' is the law's where the arguments, and the package variables that the reading takes, are together of bulk at most 1048576: NARROWER than '..Said'. Prove '..Said' where nothing that the law and all that it calls make is longer than what came in: it says more and counts as full. Else prove '..UptoSaid'. A law counts once. -/
mutual
def uptoBulk {H : Type} : DataW H → Nat
  | .lit (.string bytes) => bytes.length + 1
  | .lit _ => 1
  | .nil => 1
  | .ptr d => uptoBulk d + 1
  | .slice elems spare => uptoBulkAll elems + uptoBulkAll spare + 1
  | .agg parts => uptoBulkAll parts + 1
  | .iface _ d => uptoBulk d + 1
  | .map entries => uptoBulkEntries entries + 1
  | .held _ => 1
def uptoBulkAll {H : Type} : List (DataW H) → Nat
  | [] => 0
  | d :: r => uptoBulk d + uptoBulkAll r
def uptoBulkEntries {H : Type} : List (Lit × DataW H) → Nat
  | [] => 0
  | x :: r => uptoBulkEntry x + uptoBulkEntries r
def uptoBulkEntry {H : Type} : Lit × DataW H → Nat
  | (.string bytes, d) => bytes.length + uptoBulk d + 1
  | (_, d) => uptoBulk d + 1
 end
def uptoSmall : (H : Type) → List (DataW H) → Bool := fun _ ds => decide (uptoBulkAll ds ≤ 1048576)
def OpenSpec.upto (s : _root_.Go.ChangeSpec) : _root_.Go.OpenSpec := { _root_.Go.OpenSpec.ofChange s with cond := some uptoSmall }

/-- 'bureaulaw20.GateDecides', WHERE WHAT IT READS IS OF BULK AT MOST 1048576: true; the input reads as it did. -/
def gateDecidesUptoRow : OpenClaim := { program := "ytngfmhbhdpeedaa", sum := "1cacbac0d43a033344514f0187903afe9af4b14bbe6ec99dcb3fa5a0183e0032", func := "bureau/bureaulaw20.GateDecides", spec := "gateDecides", apart := false, narrowed := true }
def GateDecidesUptoSaid : Prop := gateDecidesUptoRow.holds Try.pinned (OpenSpec.upto gateDecidesSpec)

/-- 'bureaulaw20.GateLower', WHERE WHAT IT READS IS OF BULK AT MOST 1048576: true; the input reads as it did. -/
def gateLowerUptoRow : OpenClaim := { program := "ytngfmhbhdpeedaa", sum := "1cacbac0d43a033344514f0187903afe9af4b14bbe6ec99dcb3fa5a0183e0032", func := "bureau/bureaulaw20.GateLower", spec := "gateLower", apart := false, narrowed := true }
def GateLowerUptoSaid : Prop := gateLowerUptoRow.holds Try.pinned (OpenSpec.upto gateLowerSpec)

/-- 'bureaulaw20.GateDown', WHERE WHAT IT READS IS OF BULK AT MOST 1048576: true; the input reads as it did. -/
def gateDownUptoRow : OpenClaim := { program := "ytngfmhbhdpeedaa", sum := "1cacbac0d43a033344514f0187903afe9af4b14bbe6ec99dcb3fa5a0183e0032", func := "bureau/bureaulaw20.GateDown", spec := "gateDown", apart := false, narrowed := true }
def GateDownUptoSaid : Prop := gateDownUptoRow.holds Try.pinned (OpenSpec.upto gateDownSpec)

/-- 'bureaulaw20.GateUser', WHERE WHAT IT READS IS OF BULK AT MOST 1048576: true; the input reads as it did. -/
def gateUserUptoRow : OpenClaim := { program := "ytngfmhbhdpeedaa", sum := "1cacbac0d43a033344514f0187903afe9af4b14bbe6ec99dcb3fa5a0183e0032", func := "bureau/bureaulaw20.GateUser", spec := "gateUser", apart := false, narrowed := true }
def GateUserUptoSaid : Prop := gateUserUptoRow.holds Try.pinned (OpenSpec.upto gateUserSpec)

end Rows
end Go.Proofs.Ytngfmhbhdpeedaa
