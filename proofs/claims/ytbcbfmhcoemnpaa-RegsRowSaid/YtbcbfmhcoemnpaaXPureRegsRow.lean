/- Behind wide deletions without a name the numbered registers have the last nine, the youngest first: for all texts. -/
import Derived.Test.YtbcbfmhcoemnpaaXRWx1
import Derived.Test.YtbcbfmhcoemnpaaExt09J
import Derived.OpenShut
set_option linter.unusedVariables false
set_option linter.unusedSimpArgs false
namespace Go.Proofs.Ytbcbfmhcoemnpaa.Pure
open Go.RowKit Go.Proofs.Ytbcbfmhcoemnpaa.XRW Go.Proofs.YtbcbfmhcoemnpaaW.PrintWords Go.Proofs.YtbcbfmhcoemnpaaW.PrintMore Go.Proofs.Ytbcbfmhcoemnpaa.Ext

theorem RegsRow : bureaulaw09_RegsRow.Pure := by
  intro l0 _ h
  unfold bureaulaw09_RegsRow.f
  exact if_pos (fun x hx => (h x hx).2.1)

end Go.Proofs.Ytbcbfmhcoemnpaa.Pure
