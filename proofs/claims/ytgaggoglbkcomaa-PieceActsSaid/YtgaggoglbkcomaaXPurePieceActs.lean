/- A store answers every call, in every order, as the document says, and has behind each what the document's has: for all sizes and all acts. -/
import Derived.Test.YtgaggoglbkcomaaXPAx1
import Derived.Test.YtgaggoglbkcomaaExt05P
import Derived.OpenShut
set_option linter.unusedVariables false
set_option linter.unusedSimpArgs false
namespace Go.Proofs.Ytgaggoglbkcomaa.Pure
open Go.RowKit Go.Proofs.Ytgaggoglbkcomaa.XPA Go.Proofs.YtgaggoglbkcomaaW.PrintWords Go.Proofs.YtgaggoglbkcomaaW.PrintMore Go.Proofs.Ytgaggoglbkcomaa.Ext

theorem PieceActs : bureaulaw05_PieceActs.Pure := by
  intro a0 l1 _ _ h
  unfold bureaulaw05_PieceActs.f
  exact if_pos (fun y hy => (h y hy).2.2.2.1)

end Go.Proofs.Ytgaggoglbkcomaa.Pure
