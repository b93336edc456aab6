/- Registers that no call made answer an error, and have nothing; memory is nobody's: for all acts. -/
import Derived.Test.YtbcbfmhcoemnpaaXRNx1
import Derived.Test.YtbcbfmhcoemnpaaExt09M
import Derived.OpenShut
set_option linter.unusedVariables false
set_option linter.unusedSimpArgs false
namespace Go.Proofs.Ytbcbfmhcoemnpaa.Pure
open Go.RowKit Go.Proofs.Ytbcbfmhcoemnpaa.XRN Go.Proofs.YtbcbfmhcoemnpaaW.PrintWords Go.Proofs.YtbcbfmhcoemnpaaW.PrintMore Go.Proofs.Ytbcbfmhcoemnpaa.Ext

theorem RegsNobody : bureaulaw09_RegsNobody.Pure := by
  intro a0_0 a0_1 l0_2 a0_3 a0_4 a0_5 h1 _ _ _
  unfold bureaulaw09_RegsNobody.f
  exact if_pos (by simpa [Lit.wf, IntKind.min, IntKind.max, IntKind.signed, IntKind.bits] using h1)

end Go.Proofs.Ytbcbfmhcoemnpaa.Pure
