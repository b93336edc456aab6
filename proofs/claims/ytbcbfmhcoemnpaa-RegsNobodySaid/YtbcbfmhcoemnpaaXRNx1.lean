-- Written by this session's program (wip/xprint.py) with the kit's print, for this claim.
import Derived.Test.YtbcbfmhcoemnpaaExt09M
import Derived.Test.YtbcbfmhcoemnpaaXRNx0
namespace Go.Proofs.Ytbcbfmhcoemnpaa.XRN
open Go.RowKit Go.Proofs.YtbcbfmhcoemnpaaW.PrintWords Go.Proofs.YtbcbfmhcoemnpaaW.PrintLast Go.Proofs.YtbcbfmhcoemnpaaW.PrintMore Go.Proofs.Ytbcbfmhcoemnpaa.Ext
attribute [local go_sem] max2_int min2_int max_two min_two max_three min_three max_four min_four   -- for this text's walks alone
set_option linter.unusedVariables false
set_option linter.unusedSimpArgs false


/-- What is to be proved of bureaulaw09_RegsNobody: no program in it. -/
def bureaulaw09_RegsNobody.Pure : Prop := ∀ (a0_0 : Int) (a0_1 : ByteArray) (l0_2 : List (S58)) (a0_3 : Bool) (a0_4 : Bool) (a0_5 : Bool), (Lit.int .i32 a0_0).wf = true → a0_1.size ≤ maxLen → l0_2.length ≤ maxLen → (∀ x ∈ l0_2, (Lit.int .u64 x.f0).wf = true ∧ (Lit.int .i64 x.f1).wf = true) → bureaulaw09_RegsNobody.f a0_0 a0_1 l0_2 a0_3 a0_4 a0_5 = some true

end Go.Proofs.Ytbcbfmhcoemnpaa.XRN
