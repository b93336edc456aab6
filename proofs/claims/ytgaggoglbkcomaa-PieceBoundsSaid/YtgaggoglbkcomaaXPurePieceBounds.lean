/- Whatever is put into a store, there are never more bytes than there may be, and what is refused changes nothing: for all sizes and all acts. -/
import Derived.Test.YtgaggoglbkcomaaXPBx1
import Derived.Test.YtgaggoglbkcomaaExt05M
import Derived.OpenShut
set_option linter.unusedVariables false
set_option linter.unusedSimpArgs false
namespace Go.Proofs.Ytgaggoglbkcomaa.Pure
open Go.RowKit Go.Proofs.Ytgaggoglbkcomaa.XPB Go.Proofs.YtgaggoglbkcomaaW.PrintWords Go.Proofs.YtgaggoglbkcomaaW.PrintMore Go.Proofs.Ytgaggoglbkcomaa.Ext

theorem PieceBounds : bureaulaw05_PieceBounds.Pure := by
  intro a0 l1 _ _ h
  unfold bureaulaw05_PieceBounds.f
  exact if_pos (fun y hy => (h y hy).2.2.2.1)

end Go.Proofs.Ytgaggoglbkcomaa.Pure
