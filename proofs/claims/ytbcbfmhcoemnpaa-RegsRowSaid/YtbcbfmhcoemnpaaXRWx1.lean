-- Written by this session's program (wip/xprint.py) with the kit's print, for this claim.
import Derived.Test.YtbcbfmhcoemnpaaExt09J
import Derived.Test.YtbcbfmhcoemnpaaXRWx0
namespace Go.Proofs.Ytbcbfmhcoemnpaa.XRW
open Go.RowKit Go.Proofs.YtbcbfmhcoemnpaaW.PrintWords Go.Proofs.YtbcbfmhcoemnpaaW.PrintLast Go.Proofs.YtbcbfmhcoemnpaaW.PrintMore Go.Proofs.Ytbcbfmhcoemnpaa.Ext
attribute [local go_sem] max2_int min2_int max_two min_two max_three min_three max_four min_four   -- for this text's walks alone
set_option linter.unusedVariables false
set_option linter.unusedSimpArgs false


/-- What is to be proved of bureaulaw09_RegsRow: no program in it. -/
def bureaulaw09_RegsRow.Pure : Prop := ∀ (l0 : List (S29)), l0.length ≤ maxLen → (∀ x ∈ l0, x.f0.size ≤ maxLen ∧ x.f1.length ≤ maxLen ∧ (∀ y ∈ x.f1, (Lit.int .u64 y.f0).wf = true ∧ (Lit.int .i64 y.f1).wf = true)) → bureaulaw09_RegsRow.f l0 = some true

end Go.Proofs.Ytbcbfmhcoemnpaa.XRW
