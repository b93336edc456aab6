-- Written by this session's program (wip/xprint.py) with the kit's print, for this claim.
import Derived.Test.YtgaggoglbkcomaaExt05N
import Derived.Test.YtgaggoglbkcomaaXPKx0
namespace Go.Proofs.Ytgaggoglbkcomaa.XPK
open Go.RowKit Go.Proofs.YtgaggoglbkcomaaW.PrintWords Go.Proofs.YtgaggoglbkcomaaW.PrintLast Go.Proofs.YtgaggoglbkcomaaW.PrintMore Go.Proofs.Ytgaggoglbkcomaa.Ext Go.Proofs.Ytgaggoglbkcomaa.XRR
attribute [local go_sem] max2_int min2_int max_two min_two max_three min_three max_four min_four   -- for this text's walks alone
set_option linter.unusedVariables false
set_option linter.unusedSimpArgs false


/-- What is to be proved of bureaulaw05_PieceBack: no program in it. -/
def bureaulaw05_PieceBack.Pure : Prop := ∀ (l0 : List (S48)) (a1_0 : Int) (a1_1 : Int) (a1_2 : ByteArray) (l1_3 : List (S29)) (a1_4 : Bool) (a1_5 : Bool), l0.length ≤ maxLen → (∀ x ∈ l0, (Lit.int .i64 x.f0).wf = true ∧ (Lit.int .i64 x.f1).wf = true ∧ x.f2.f0.size ≤ maxLen ∧ x.f2.f1.length ≤ maxLen ∧ (∀ y ∈ x.f2.f1, (Lit.int .u64 y.f0).wf = true ∧ (Lit.int .i64 y.f1).wf = true)) → (Lit.int .i64 a1_0).wf = true → (Lit.int .i64 a1_1).wf = true → a1_2.size ≤ maxLen → l1_3.length ≤ maxLen → (∀ x ∈ l1_3, (Lit.int .u64 x.f0).wf = true ∧ (Lit.int .i64 x.f1).wf = true) → bureaulaw05_PieceBack.f l0 a1_0 a1_1 a1_2 l1_3 a1_4 a1_5 = some true

end Go.Proofs.Ytgaggoglbkcomaa.XPK
