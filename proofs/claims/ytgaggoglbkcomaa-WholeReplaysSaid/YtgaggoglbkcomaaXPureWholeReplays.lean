/- Edits that are made one behind the other, and then undone from the last one on, leave the text that there was: for all texts and edits. -/
import Derived.Test.YtgaggoglbkcomaaXWLx1
import Derived.Test.YtgaggoglbkcomaaExtSG
import Derived.OpenShut
set_option linter.unusedVariables false
set_option linter.unusedSimpArgs false
namespace Go.Proofs.Ytgaggoglbkcomaa.Pure
open Go.RowKit Go.Proofs.Ytgaggoglbkcomaa.XWL Go.Proofs.YtgaggoglbkcomaaW.PrintWords Go.Proofs.YtgaggoglbkcomaaW.PrintMore Go.Proofs.Ytgaggoglbkcomaa.Ext

theorem WholeReplays : bureautop_WholeReplays.Pure := by
  intro s0 l0 L _ h0 _ _ h
  unfold bureautop_WholeReplays.f
  exact if_pos ⟨h0, fun x hx => (h x hx).2.2.2.1⟩

end Go.Proofs.Ytgaggoglbkcomaa.Pure
