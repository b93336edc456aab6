/- The contracts of 'line' in the print's form, each in plain words. -/
import Derived.Test.YtpajakfmahfpkaaDoorExt06W
import Derived.Test.YtpajakfmahfpkaaDoorWMore
import Derived.WalkKit
import Derived.WalkMore
import Derived.Below
import Derived.KernelRfl
import Derived.LoopTactic
import Derived.Deep.RegionWith
import Derived.Deep.RegionHeld3
import Derived.IntWalk
import Derived.Deep.DeepCutAuto
import Derived.Deep.CutBlock
import Derived.BigQuiet
import Derived.Laws.RangeString
import Derived.Laws.RangeAny
import Derived.Laws.Rows
import Derived.Laws.Runes
import Derived.Lib.OthersKept
import Derived.OpenShut
set_option linter.unusedVariables false
set_option linter.unusedSimpArgs false
namespace Go.Proofs.YtpajakfmahfpkaaDoor.Ext
open Go.RowKit Go.Lib Go.Proofs.YtpajakfmahfpkaaDoorW.PrintWords Go.Proofs.YtpajakfmahfpkaaDoorW.PrintMore

def line_Count.f (a0 : ByteArray) : Option Int := if a0.size < 1000000 then some (nE a0 : Int) else none
theorem line_Count.calls (a0 : ByteArray) (r : Int) (w : World) (h : line_Count.f a0 = some r) (hT : Tabs w) :
    Calls Tryd.prog 55 #[.string a0] w fun e w' => e = .returned (.int .i64 r) ∧ Below w.heap.size w w' := by
  unfold line_Count.f at h
  split at h
  · rename_i hs
    exact HelpA.line_Count.calls a0 r w (by rw [← h]; exact count_eq a0 (by omega)) hT
  · cases h
def line_Of.f (a0 : ByteArray) (a1 : Int) : Option Int := some (ofZ a0 a1 : Int)
theorem line_Of.calls (a0 : ByteArray) (a1 : Int) (r : Int) (w : World) (h : line_Of.f a0 a1 = some r) (hT : Tabs w) :
    Calls Tryd.prog 31 #[.string a0, .int .i64 a1] w fun e w' => e = .returned (.int .i64 r) ∧ Below w.heap.size w w' :=
  HelpA.line_Of.calls a0 a1 r w (by rw [← h]; exact of_eq a0 a1) hT
def line_Bounds.f (a0 : ByteArray) (a1 : Int) : Option (Int × Int × Int) := if a0.size < 1000000 then some (boundsZ a0 a1) else none
theorem line_Bounds.calls (a0 : ByteArray) (a1 : Int) (r1 : Int) (r2 : Int) (r3 : Int) (w : World) (h : line_Bounds.f a0 a1 = some (r1, r2, r3)) (hT : Tabs w) :
    Calls Tryd.prog 32 #[.string a0, .int .i64 a1] w fun e w' => e = .returned (.tuple #[.int .i64 r1, .int .i64 r2, .int .i64 r3]) ∧ Below w.heap.size w w' := by
  unfold line_Bounds.f at h
  split at h
  · rename_i hs
    exact HelpA.line_Bounds.calls (a0.size + 0 + 4) a0 a1 r1 r2 r3 w (by rw [← h]; exact bounds_eq a0 (by omega) a1 0) hT
  · cases h
def line_Whole.f (a0 : ByteArray) (a1 : Int) (a2 : Int) : Option (Int × Int × Int) := if a0.size < 1000000 then some (wholeZ a0 a1 a2) else none
theorem line_Whole.calls (a0 : ByteArray) (a1 : Int) (a2 : Int) (r1 : Int) (r2 : Int) (r3 : Int) (w : World) (h : line_Whole.f a0 a1 a2 = some (r1, r2, r3)) (hT : Tabs w) :
    Calls Tryd.prog 22 #[.string a0, .int .i64 a1, .int .i64 a2] w fun e w' => e = .returned (.tuple #[.int .i64 r1, .int .i64 r2, .int .i64 r3]) ∧ Below w.heap.size w w' := by
  unfold line_Whole.f at h
  split at h
  · rename_i hs
    exact HelpA.line_Whole.calls (a0.size + 0 + 5) a0 a1 a2 r1 r2 r3 w (by rw [← h]; exact whole_eq a0 (by omega) a1 a2 0) hT
  · cases h
def line_Col.f (a0 : ByteArray) (a1 : Int) : Option Int := if a0.size < 1000000 then some (colZ a0 a1 : Int) else none
theorem line_Col.calls (a0 : ByteArray) (a1 : Int) (r : Int) (w : World) (h : line_Col.f a0 a1 = some r) (hT : Tabs w) :
    Calls Tryd.prog 24 #[.string a0, .int .i64 a1] w fun e w' => e = .returned (.int .i64 r) ∧ Below w.heap.size w w' := by
  unfold line_Col.f at h
  split at h
  · rename_i hs
    exact HelpA.line_Col.calls (a0.size + 0 + 10) a0 a1 r w (by rw [← h]; exact col_eq a0 hs a1 0) hT
  · cases h
def line_First.f (a0 : ByteArray) (a1 : Int) : Option Int := if a0.size < 1000000 then some (firstZ a0 a1 : Int) else none
theorem line_First.calls (a0 : ByteArray) (a1 : Int) (r : Int) (w : World) (h : line_First.f a0 a1 = some r) (hT : Tabs w) :
    Calls Tryd.prog 28 #[.string a0, .int .i64 a1] w fun e w' => e = .returned (.int .i64 r) ∧ Below w.heap.size w w' := by
  unfold line_First.f at h
  split at h
  · rename_i hs
    obtain rfl := Option.some.inj h
    exact First_walk a0 a1 w hs hT
  · cases h
def line_Place.f (a0 : ByteArray) (a1 : Int) (a2 : Int) : Option Int := if a0.size < 1000000 ∧ -9223372036854775808 ≤ a2 ∧ a2 ≤ 9223372036854775807 then some (placeZ a0 a1 a2 : Int) else none
theorem line_Place.calls (a0 : ByteArray) (a1 : Int) (a2 : Int) (r : Int) (w : World) (h : line_Place.f a0 a1 a2 = some r) (hT : Tabs w) :
    Calls Tryd.prog 26 #[.string a0, .int .i64 a1, .int .i64 a2] w fun e w' => e = .returned (.int .i64 r) ∧ Below w.heap.size w w' := by
  unfold line_Place.f at h
  split at h
  · rename_i hs
    obtain rfl := Option.some.inj h
    exact Place_walk a0 a1 a2 w hs.1 hs.2.1 hs.2.2 hT
  · cases h

end Go.Proofs.YtpajakfmahfpkaaDoor.Ext
