/- The contract of CapsRetired, in the print's form. -/
import Derived.Test.YtecbdhampjmlaaaExt17J
import Derived.Test.YtecbdhampjmlaaaWMore
import Derived.WalkKit
import Derived.WalkMore
import Derived.Below
import Derived.KernelRfl
import Derived.LoopTactic
import Derived.Deep.RegionWith
import Derived.Deep.RegionHeld3
import Derived.IntWalk
import Derived.Deep.DeepCutAuto
import Derived.Deep.CutBlock
import Derived.BigQuiet
import Derived.Laws.RangeString
import Derived.Laws.RangeAny
import Derived.Laws.Rows
import Derived.Laws.Runes
import Derived.Lib.OthersKept
import Derived.OpenShut
set_option linter.unusedVariables false
set_option linter.unusedSimpArgs false
namespace Go.Proofs.Ytecbdhampjmlaaa.Ext
open Go.RowKit Go.Lib Go.Proofs.YtecbdhampjmlaaaW.PrintWords Go.Proofs.YtecbdhampjmlaaaW.PrintMore

def bureaulaw17_CapsRetired.f (a0 a1 a2 : Int) : Option Bool := if (0 ≤ a0 ∧ a0 ≤ 255) ∧ (0 ≤ a1 ∧ a1 ≤ 255) ∧ (0 ≤ a2 ∧ a2 ≤ 255) then some true else none
theorem bureaulaw17_CapsRetired.calls (a0 a1 a2 : Int) (r : Bool) (w : World) (h : bureaulaw17_CapsRetired.f a0 a1 a2 = some r) :
    Calls Try.prog 6 #[.int .u8 a0, .int .u8 a1, .int .u8 a2] w fun e w' => e = .returned (.bool r) ∧ Below w.heap.size w w' := by
  unfold bureaulaw17_CapsRetired.f at h
  split at h
  · rename_i hc
    cases h
    exact Retired_w a0 a1 a2 w hc.1 hc.2.1 hc.2.2
  · cases h

end Go.Proofs.Ytecbdhampjmlaaa.Ext
