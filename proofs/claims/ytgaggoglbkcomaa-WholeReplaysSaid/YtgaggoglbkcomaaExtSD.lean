/- strip.Cut and strip.Splice, in the print's form. -/
import Derived.Test.YtgaggoglbkcomaaExtSC
import Derived.Test.YtgaggoglbkcomaaXRRx0
import Derived.Test.YtgaggoglbkcomaaWMore
import Derived.WalkKit
import Derived.WalkMore
import Derived.Below
import Derived.KernelRfl
import Derived.LoopTactic
import Derived.Deep.RegionWith
import Derived.Deep.RegionHeld3
import Derived.IntWalk
import Derived.Deep.DeepCutAuto
import Derived.Deep.CutBlock
import Derived.BigQuiet
import Derived.Laws.RangeString
import Derived.Laws.RangeAny
import Derived.Laws.Rows
import Derived.Laws.Runes
import Derived.Lib.OthersKept
import Derived.OpenShut
set_option linter.unusedVariables false
set_option linter.unusedSimpArgs false
namespace Go.Proofs.Ytgaggoglbkcomaa.Ext
open Go.RowKit Go.Lib Go.Proofs.YtgaggoglbkcomaaW.PrintWords Go.Proofs.YtgaggoglbkcomaaW.PrintMore Go.Proofs.Ytgaggoglbkcomaa.XRR

def strip_Cut.f (s : ByteArray) (l : List Rn) (f t : Int) : Option (ByteArray × List Rn × Int) := if l.length ≤ 8000000000000000000 then some (cutT s l f t) else none
theorem strip_Cut.calls (a0_0 : ByteArray) (A0_1 : Option Addr) (c0_1 : Nat) (l0_1 : List Rn) (a1 : Int) (a2 : Int) (r1 : ByteArray) (r2 : List Rn) (r3 : Int) (w : World) (hr0_1 : Kd.C k29 w A0_1 l0_1.length l0_1) (hc0_1 : l0_1.length ≤ c0_1) (h : strip_Cut.f a0_0 l0_1 a1 a2 = some (r1, r2, r3)) :
    Calls Try.prog 28 #[.agg #[.string a0_0, .slice A0_1 l0_1.length c0_1], .int .i64 a1, .int .i64 a2] w fun e w' => ∃ v1_ : Value, e = .returned (.tuple #[.agg #[.string r1, v1_], .int .i64 r3]) ∧ Kd.R k29 29 w' w.heap.size (fun _ => True) v1_ r2 ∧ Below w.heap.size w w' := by
  unfold strip_Cut.f at h
  by_cases hl : l0_1.length ≤ 8000000000000000000
  · rw [if_pos hl] at h
    have he := Option.some.inj h
    have h1 : (cutT a0_0 l0_1 a1 a2).1 = r1 := by rw [he]
    have h2 : (cutT a0_0 l0_1 a1 a2).2.1 = r2 := by rw [he]
    have h3 : (cutT a0_0 l0_1 a1 a2).2.2 = r3 := by rw [he]
    rw [← h1, ← h2, ← h3]
    exact Cut_w w a0_0 A0_1 c0_1 l0_1 a1 a2 hr0_1 hc0_1 hl
  · rw [if_neg hl] at h
    cases h
def strip_Splice.f (s : ByteArray) (l : List Rn) (f t : Int) (x : ByteArray) (m : List Rn) : Option (ByteArray × List Rn × Int) := if l.length ≤ 8000000000000000000 ∧ m.length ≤ 8000000000000000000 then some (splT s l f t x m) else none
theorem strip_Splice.calls (a0_0 : ByteArray) (A0_1 : Option Addr) (c0_1 : Nat) (l0_1 : List Rn) (a1 : Int) (a2 : Int) (a3_0 : ByteArray) (A3_1 : Option Addr) (c3_1 : Nat) (l3_1 : List Rn) (r1 : ByteArray) (r2 : List Rn) (r3 : Int) (w : World) (hr0_1 : Kd.C k29 w A0_1 l0_1.length l0_1) (hc0_1 : l0_1.length ≤ c0_1) (hr3_1 : Kd.C k29 w A3_1 l3_1.length l3_1) (hc3_1 : l3_1.length ≤ c3_1) (h : strip_Splice.f a0_0 l0_1 a1 a2 a3_0 l3_1 = some (r1, r2, r3)) :
    Calls Try.prog 27 #[.agg #[.string a0_0, .slice A0_1 l0_1.length c0_1], .int .i64 a1, .int .i64 a2, .agg #[.string a3_0, .slice A3_1 l3_1.length c3_1]] w fun e w' => ∃ v1_ : Value, e = .returned (.tuple #[.agg #[.string r1, v1_], .int .i64 r3]) ∧ Kd.R k29 29 w' w.heap.size (fun _ => True) v1_ r2 ∧ Below w.heap.size w w' := by
  unfold strip_Splice.f at h
  by_cases hl : l0_1.length ≤ 8000000000000000000 ∧ l3_1.length ≤ 8000000000000000000
  · rw [if_pos hl] at h
    have he := Option.some.inj h
    have h1 : (splT a0_0 l0_1 a1 a2 a3_0 l3_1).1 = r1 := by rw [he]
    have h2 : (splT a0_0 l0_1 a1 a2 a3_0 l3_1).2.1 = r2 := by rw [he]
    have h3 : (splT a0_0 l0_1 a1 a2 a3_0 l3_1).2.2 = r3 := by rw [he]
    rw [← h1, ← h2, ← h3]
    exact spliceT_w w a0_0 a3_0 A0_1 A3_1 c0_1 c3_1 l0_1 l3_1 a1 a2 hr0_1 hc0_1 hr3_1 hc3_1 hl.1 hl.2
  · rw [if_neg hl] at h
    cases h

end Go.Proofs.Ytgaggoglbkcomaa.Ext
