/- A store that no call made answers an error, and has nothing; what was handed in, or answered, may be written over: for every act. -/
import Derived.Test.YtgaggoglbkcomaaXPNx1
import Derived.Test.YtgaggoglbkcomaaExt05Q
import Derived.OpenShut
set_option linter.unusedVariables false
set_option linter.unusedSimpArgs false
namespace Go.Proofs.Ytgaggoglbkcomaa.Pure
open Go.RowKit Go.Proofs.Ytgaggoglbkcomaa.XPN Go.Proofs.YtgaggoglbkcomaaW.PrintWords Go.Proofs.YtgaggoglbkcomaaW.PrintMore Go.Proofs.Ytgaggoglbkcomaa.Ext

theorem PieceNobody : bureaulaw05_PieceNobody.Pure := by
  intro a0_0 a0_1 a0_2 l0_3 a0_4 a0_5 _ _ _ _ _
  rfl

end Go.Proofs.Ytgaggoglbkcomaa.Pure
