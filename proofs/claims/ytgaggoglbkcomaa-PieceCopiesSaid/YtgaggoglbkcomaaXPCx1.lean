-- Written by this session's program (wip/xprint.py) with the kit's print, for this claim.
import Derived.Test.YtgaggoglbkcomaaExt05R
import Derived.Test.YtgaggoglbkcomaaXPCx0
namespace Go.Proofs.Ytgaggoglbkcomaa.XPC
open Go.RowKit Go.Proofs.YtgaggoglbkcomaaW.PrintWords Go.Proofs.YtgaggoglbkcomaaW.PrintLast Go.Proofs.YtgaggoglbkcomaaW.PrintMore Go.Proofs.Ytgaggoglbkcomaa.Ext Go.Proofs.Ytgaggoglbkcomaa.XRR
attribute [local go_sem] max2_int min2_int max_two min_two max_three min_three max_four min_four   -- for this text's walks alone
set_option linter.unusedVariables false
set_option linter.unusedSimpArgs false


/-- What is to be proved of bureaulaw05_PieceCopies: no program in it. -/
def bureaulaw05_PieceCopies.Pure : Prop := ∀ (l0 : List (S48)), l0.length ≤ maxLen → (∀ x ∈ l0, (Lit.int .i64 x.f0).wf = true ∧ (Lit.int .i64 x.f1).wf = true ∧ x.f2.f0.size ≤ maxLen ∧ x.f2.f1.length ≤ maxLen ∧ (∀ y ∈ x.f2.f1, (Lit.int .u64 y.f0).wf = true ∧ (Lit.int .i64 y.f1).wf = true)) → bureaulaw05_PieceCopies.f l0 = some true

end Go.Proofs.Ytgaggoglbkcomaa.XPC
