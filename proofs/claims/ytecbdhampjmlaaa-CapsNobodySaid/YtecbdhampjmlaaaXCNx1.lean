-- Written by this session's program (wip/xprint.py) with the kit's print, for this claim.
import Derived.Test.YtecbdhampjmlaaaExt17X
import Derived.Test.YtecbdhampjmlaaaXCNx0
namespace Go.Proofs.Ytecbdhampjmlaaa.XCN
open Go.RowKit Go.Proofs.YtecbdhampjmlaaaW.PrintWords Go.Proofs.YtecbdhampjmlaaaW.PrintLast Go.Proofs.YtecbdhampjmlaaaW.PrintMore Go.Proofs.Ytecbdhampjmlaaa.Ext
attribute [local go_sem] max2_int min2_int max_two min_two max_three min_three max_four min_four   -- for this text's walks alone
set_option linter.unusedVariables false
set_option linter.unusedSimpArgs false


/-- What is to be proved of bureaulaw17_CapsNobody: no program in it. -/
def bureaulaw17_CapsNobody.Pure : Prop := ∀ (l0 : List (S32)), l0.length ≤ maxLen → (∀ x ∈ l0, (Lit.int .u8 x.f0).wf = true ∧ (Lit.int .i64 x.f1.f0).wf = true ∧ (Lit.int .i64 x.f1.f1).wf = true ∧ (Lit.int .i64 x.f2).wf = true ∧ (Lit.int .i64 x.f3).wf = true ∧ (Lit.int .i64 x.f4).wf = true ∧ (Lit.int .i64 x.f5).wf = true) → bureaulaw17_CapsNobody.f l0 = some true

end Go.Proofs.Ytecbdhampjmlaaa.XCN
