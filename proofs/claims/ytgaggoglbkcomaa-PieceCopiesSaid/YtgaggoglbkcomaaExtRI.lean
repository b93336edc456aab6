/- strip: Cat and Raise, by their walks. -/
import Derived.Test.YtgaggoglbkcomaaExtRH
import Derived.Test.YtgaggoglbkcomaaXRRx2
import Derived.Test.YtgaggoglbkcomaaXRRx3
import Derived.Test.YtgaggoglbkcomaaXRRx4
import Derived.Test.YtgaggoglbkcomaaXRRx0
import Derived.Test.YtgaggoglbkcomaaWMore
import Derived.WalkKit
import Derived.WalkMore
import Derived.Below
import Derived.KernelRfl
import Derived.LoopTactic
import Derived.Deep.RegionWith
import Derived.Deep.RegionHeld3
import Derived.IntWalk
import Derived.Deep.DeepCutAuto
import Derived.Deep.CutBlock
import Derived.BigQuiet
import Derived.Laws.RangeString
import Derived.Laws.RangeAny
import Derived.Laws.Rows
import Derived.Laws.Runes
import Derived.Lib.OthersKept
import Derived.OpenShut
set_option linter.unusedVariables false
set_option linter.unusedSimpArgs false
namespace Go.Proofs.Ytgaggoglbkcomaa.Ext
open Go.RowKit Go.Lib Go.Proofs.YtgaggoglbkcomaaW.PrintWords Go.Proofs.YtgaggoglbkcomaaW.PrintMore Go.Proofs.Ytgaggoglbkcomaa.XRR

theorem wrap_ok (x : Int) (h : -9223372036854775808 ≤ x ∧ x ≤ 9223372036854775807) : IntKind.i64.wrap x = x := by
  rw [show IntKind.i64.wrap x = wrap64 x from by unfold wrap64; exact IntKind.wrap_i64 _, IntWalk.wrap64_in _ ⟨by omega, by omega⟩]
def catT (s : ByteArray) (l : List Rn) (x : ByteArray) (m : List Rn) : ByteArray × List Rn × Int := splT s l s.size s.size x m
abbrev W2 (w : World) (s y : ByteArray) (v z : Value) : World := (w.alloc (.cells #[.string s, v] 24)).alloc (.cells #[.string y, z] 24)
theorem W2_facts (w : World) (s y : ByteArray) (v z : Value) : Below w.heap.size w (W2 w s y v z) ∧ BX (W2 w s y v z) w.heap.size s v ∧ BX (W2 w s y v z) (w.heap.size + 1) y z := by
  have e1 : (w.alloc (.cells #[.string s, v] 24)).heap.size = w.heap.size + 1 := by simp
  refine ⟨below_alloc (below_alloc (Below.refl _ _) _) _, ⟨?_⟩, ⟨?_⟩⟩
  · rw [Below.heap_alloc _ _ _ (by omega)]
    exact heap_alloc_new _ _
  · have := heap_alloc_new (w.alloc (.cells #[.string s, v] 24)) (.cells #[.string y, z] 24)
    rwa [e1] at this
def raiT (s : ByteArray) (l : List Rn) (by_ : Int) : ByteArray × List Rn × Int := if goodT s l = true then (s, rai l 0 s.size by_, 0) else (⟨#[]⟩, [], 2)

end Go.Proofs.Ytgaggoglbkcomaa.Ext
