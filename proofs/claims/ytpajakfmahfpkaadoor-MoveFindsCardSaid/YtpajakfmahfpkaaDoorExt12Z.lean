/- The contract of move.To, in the print's form. -/
import Derived.Test.YtpajakfmahfpkaaDoorExt12LK
import Derived.Test.YtpajakfmahfpkaaDoorWMore
import Derived.WalkKit
import Derived.WalkMore
import Derived.Below
import Derived.KernelRfl
import Derived.LoopTactic
import Derived.Deep.RegionWith
import Derived.Deep.RegionHeld3
import Derived.IntWalk
import Derived.Deep.DeepCutAuto
import Derived.Deep.CutBlock
import Derived.BigQuiet
import Derived.Laws.RangeString
import Derived.Laws.RangeAny
import Derived.Laws.Rows
import Derived.Laws.Runes
import Derived.Lib.OthersKept
import Derived.OpenShut
set_option linter.unusedVariables false
set_option linter.unusedSimpArgs false
namespace Go.Proofs.YtpajakfmahfpkaaDoor.Ext
open Go.RowKit Go.Lib Go.Proofs.YtpajakfmahfpkaaDoorW.PrintWords Go.Proofs.YtpajakfmahfpkaaDoorW.PrintMore

def move_To.f (a0 : ByteArray) (a1 m0 m1 m2 : Int) : Option (Int × Int × Bool) := if a0.size < 1000000 ∧ -9223372036854775808 ≤ m2 ∧ m2 ≤ 9223372036854775807 then some (toZ a0 a1 m0 m1 m2) else none
theorem move_To.calls (a0 : ByteArray) (a1 m0 m1 m2 : Int) (r1 r2 : Int) (r3 : Bool) (w : World) (h : move_To.f a0 a1 m0 m1 m2 = some (r1, r2, r3)) (hT : Tabs w) :
    Calls Tryd.prog 12 #[.string a0, .int .i64 a1, .agg #[.int .i32 m0, .int .i32 m1, .int .i64 m2]] w fun e w' => e = .returned (.tuple #[.int .i64 r1, .int .i64 r2, .bool r3]) ∧ Below w.heap.size w w' := by
  unfold move_To.f at h
  split at h
  · rename_i hs
    have P := To_w a0 a1 m0 m1 m2 w hs.1 hT hs.2
    have h2 := Option.some.inj h
    rw [h2] at P
    exact P
  · cases h

end Go.Proofs.YtpajakfmahfpkaaDoor.Ext
