-- Written by this session's program (wip/xprint.py) with the kit's print, for this claim.
import Derived.Test.YtcaoopmpbpfeaaaExtRO
import Derived.Test.YtcaoopmpbpfeaaaXSEx0
namespace Go.Proofs.Ytcaoopmpbpfeaaa.XSE
open Go.RowKit Go.Proofs.YtcaoopmpbpfeaaaW.PrintWords Go.Proofs.YtcaoopmpbpfeaaaW.PrintLast Go.Proofs.YtcaoopmpbpfeaaaW.PrintMore Go.Proofs.Ytcaoopmpbpfeaaa.Ext
attribute [local go_sem] max2_int min2_int max_two min_two max_three min_three max_four min_four   -- for this text's walks alone
set_option linter.unusedVariables false
set_option linter.unusedSimpArgs false


/-- What is to be proved of bureautop_WholeSees: no program in it. -/
def bureautop_WholeSees.Pure : Prop := ∀ (l0 : List (S28)) (a1 : Int), l0.length ≤ maxLen → (∀ x ∈ l0, x.f0.size ≤ maxLen ∧ x.f1.length ≤ maxLen ∧ (∀ y ∈ x.f1, (Lit.int .u64 y.f0).wf = true ∧ (Lit.int .i64 y.f1).wf = true)) → (Lit.int .u64 a1).wf = true → bureautop_WholeSees.f l0 a1 = some true

end Go.Proofs.Ytcaoopmpbpfeaaa.XSE
