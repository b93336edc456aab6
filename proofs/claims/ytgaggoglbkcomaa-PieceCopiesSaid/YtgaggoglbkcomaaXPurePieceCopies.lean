/- What is done to a copy is not seen in the store, nor the other way: for all acts. -/
import Derived.Test.YtgaggoglbkcomaaXPCx1
import Derived.Test.YtgaggoglbkcomaaExt05R
import Derived.OpenShut
set_option linter.unusedVariables false
set_option linter.unusedSimpArgs false
namespace Go.Proofs.Ytgaggoglbkcomaa.Pure
open Go.RowKit Go.Proofs.Ytgaggoglbkcomaa.XPC Go.Proofs.YtgaggoglbkcomaaW.PrintWords Go.Proofs.YtgaggoglbkcomaaW.PrintMore Go.Proofs.Ytgaggoglbkcomaa.Ext

theorem PieceCopies : bureaulaw05_PieceCopies.Pure := by
  intro l0 _ h
  unfold bureaulaw05_PieceCopies.f
  exact if_pos (fun y hy => (h y hy).2.2.2.1)

end Go.Proofs.Ytgaggoglbkcomaa.Pure
