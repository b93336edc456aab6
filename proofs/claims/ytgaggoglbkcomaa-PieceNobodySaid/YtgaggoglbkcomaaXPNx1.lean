-- Written by this session's program (wip/xprint.py) with the kit's print, for this claim.
import Derived.Test.YtgaggoglbkcomaaExt05Q
import Derived.Test.YtgaggoglbkcomaaXPNx0
namespace Go.Proofs.Ytgaggoglbkcomaa.XPN
open Go.RowKit Go.Proofs.YtgaggoglbkcomaaW.PrintWords Go.Proofs.YtgaggoglbkcomaaW.PrintLast Go.Proofs.YtgaggoglbkcomaaW.PrintMore Go.Proofs.Ytgaggoglbkcomaa.Ext Go.Proofs.Ytgaggoglbkcomaa.XRR
attribute [local go_sem] max2_int min2_int max_two min_two max_three min_three max_four min_four   -- for this text's walks alone
set_option linter.unusedVariables false
set_option linter.unusedSimpArgs false


/-- What is to be proved of bureaulaw05_PieceNobody: no program in it. -/
def bureaulaw05_PieceNobody.Pure : Prop := ∀ (a0_0 : Int) (a0_1 : Int) (a0_2 : ByteArray) (l0_3 : List (S29)) (a0_4 : Bool) (a0_5 : Bool), (Lit.int .i64 a0_0).wf = true → (Lit.int .i64 a0_1).wf = true → a0_2.size ≤ maxLen → l0_3.length ≤ maxLen → (∀ x ∈ l0_3, (Lit.int .u64 x.f0).wf = true ∧ (Lit.int .i64 x.f1).wf = true) → bureaulaw05_PieceNobody.f a0_0 a0_1 a0_2 l0_3 a0_4 a0_5 = some true

end Go.Proofs.Ytgaggoglbkcomaa.XPN
