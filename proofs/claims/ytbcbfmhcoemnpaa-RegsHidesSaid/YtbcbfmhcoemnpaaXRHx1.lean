-- Written by this session's program (wip/xprint.py) with the kit's print, for this claim.
import Derived.Test.YtbcbfmhcoemnpaaExt09RT
import Derived.Test.YtbcbfmhcoemnpaaXRHx0
namespace Go.Proofs.Ytbcbfmhcoemnpaa.XRH
open Go.RowKit Go.Proofs.YtbcbfmhcoemnpaaW.PrintWords Go.Proofs.YtbcbfmhcoemnpaaW.PrintLast Go.Proofs.YtbcbfmhcoemnpaaW.PrintMore Go.Proofs.Ytbcbfmhcoemnpaa.Ext
attribute [local go_sem] max2_int min2_int max_two min_two max_three min_three max_four min_four   -- for this text's walks alone
set_option linter.unusedVariables false
set_option linter.unusedSimpArgs false


/-- What is to be proved of bureaulaw09_RegsHides: no program in it. -/
def bureaulaw09_RegsHides.Pure : Prop := ∀ (l0 : List (S42)) (a1 : ByteArray) (a2 : Int), l0.length ≤ maxLen → (∀ x ∈ l0, (Lit.int .i32 x.f0).wf = true ∧ x.f1.f0.f0.size ≤ maxLen ∧ x.f1.f0.f1.length ≤ maxLen ∧ (∀ y ∈ x.f1.f0.f1, (Lit.int .u64 y.f0).wf = true ∧ (Lit.int .i64 y.f1).wf = true)) → a1.size ≤ maxLen → (Lit.int .u64 a2).wf = true → bureaulaw09_RegsHides.f l0 a1 a2 = some true

end Go.Proofs.Ytbcbfmhcoemnpaa.XRH
