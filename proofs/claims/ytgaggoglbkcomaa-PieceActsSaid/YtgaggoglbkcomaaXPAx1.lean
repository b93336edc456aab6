-- Written by this session's program (wip/xprint.py) with the kit's print, for this claim.
import Derived.Test.YtgaggoglbkcomaaExt05P
import Derived.Test.YtgaggoglbkcomaaXPAx0
namespace Go.Proofs.Ytgaggoglbkcomaa.XPA
open Go.RowKit Go.Proofs.YtgaggoglbkcomaaW.PrintWords Go.Proofs.YtgaggoglbkcomaaW.PrintLast Go.Proofs.YtgaggoglbkcomaaW.PrintMore Go.Proofs.Ytgaggoglbkcomaa.Ext Go.Proofs.Ytgaggoglbkcomaa.XRR
attribute [local go_sem] max2_int min2_int max_two min_two max_three min_three max_four min_four   -- for this text's walks alone
set_option linter.unusedVariables false
set_option linter.unusedSimpArgs false


/-- What is to be proved of bureaulaw05_PieceActs: no program in it. -/
def bureaulaw05_PieceActs.Pure : Prop := ∀ (a0 : Int) (l1 : List (S48)), (Lit.int .i64 a0).wf = true → l1.length ≤ maxLen → (∀ x ∈ l1, (Lit.int .i64 x.f0).wf = true ∧ (Lit.int .i64 x.f1).wf = true ∧ x.f2.f0.size ≤ maxLen ∧ x.f2.f1.length ≤ maxLen ∧ (∀ y ∈ x.f2.f1, (Lit.int .u64 y.f0).wf = true ∧ (Lit.int .i64 y.f1).wf = true)) → bureaulaw05_PieceActs.f a0 l1 = some true

end Go.Proofs.Ytgaggoglbkcomaa.XPA
