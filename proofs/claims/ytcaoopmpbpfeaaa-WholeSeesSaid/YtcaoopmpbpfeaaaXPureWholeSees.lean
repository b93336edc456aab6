/- What a level sees of texts one behind the other is what it sees of each; raised above it, nothing is seen: for all texts. -/
import Derived.Test.YtcaoopmpbpfeaaaXSEx1
import Derived.Test.YtcaoopmpbpfeaaaExtRO
import Derived.OpenShut
set_option linter.unusedVariables false
set_option linter.unusedSimpArgs false
namespace Go.Proofs.Ytcaoopmpbpfeaaa.Pure
open Go.RowKit Go.Proofs.Ytcaoopmpbpfeaaa.XSE Go.Proofs.YtcaoopmpbpfeaaaW.PrintWords Go.Proofs.YtcaoopmpbpfeaaaW.PrintMore Go.Proofs.Ytcaoopmpbpfeaaa.Ext

theorem WholeSees : bureautop_WholeSees.Pure := by
  intro l0 a1 _ _ h
  have hb : 0 ≤ a1 ∧ a1 ≤ 18446744073709551615 := by
    simpa [Lit.wf, IntKind.min, IntKind.max, IntKind.signed, IntKind.bits] using h
  unfold bureautop_WholeSees.f
  rw [if_pos hb]

end Go.Proofs.Ytcaoopmpbpfeaaa.Pure
