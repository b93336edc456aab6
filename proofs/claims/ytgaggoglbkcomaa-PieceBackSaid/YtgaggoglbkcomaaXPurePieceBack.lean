/- What was there ahead of a Put is there again when it is put back: for all acts, and every last one. -/
import Derived.Test.YtgaggoglbkcomaaXPKx1
import Derived.Test.YtgaggoglbkcomaaExt05N
import Derived.OpenShut
set_option linter.unusedVariables false
set_option linter.unusedSimpArgs false
namespace Go.Proofs.Ytgaggoglbkcomaa.Pure
open Go.RowKit Go.Proofs.Ytgaggoglbkcomaa.XPK Go.Proofs.YtgaggoglbkcomaaW.PrintWords Go.Proofs.YtgaggoglbkcomaaW.PrintMore Go.Proofs.Ytgaggoglbkcomaa.Ext

theorem PieceBack : bureaulaw05_PieceBack.Pure := by
  intro l0 a1_0 a1_1 a1_2 l1_3 a1_4 a1_5 _ h _ _ _ _ _
  unfold bureaulaw05_PieceBack.f
  exact if_pos (fun y hy => (h y hy).2.2.2.1)

end Go.Proofs.Ytgaggoglbkcomaa.Pure
