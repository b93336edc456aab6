/- A table that no call made answers an error, and has nothing; a copy is apart: for all actions. -/
import Derived.Test.YtecbdhampjmlaaaXCNx1
import Derived.Test.YtecbdhampjmlaaaExt17X
import Derived.OpenShut
set_option linter.unusedVariables false
set_option linter.unusedSimpArgs false
namespace Go.Proofs.Ytecbdhampjmlaaa.Pure
open Go.RowKit Go.Proofs.Ytecbdhampjmlaaa.XCN Go.Proofs.YtecbdhampjmlaaaW.PrintWords Go.Proofs.YtecbdhampjmlaaaW.PrintMore Go.Proofs.Ytecbdhampjmlaaa.Ext

theorem CapsNobody : bureaulaw17_CapsNobody.Pure := by
  intro l hl hx
  unfold bureaulaw17_CapsNobody.f
  rw [if_pos ⟨hl, List.all_eq_true.2 (fun x hm => decide_eq_true (by
    have h := (hx x hm).1
    simpa [Lit.wf, IntKind.min, IntKind.max, IntKind.signed, IntKind.bits] using h))⟩]

end Go.Proofs.Ytecbdhampjmlaaa.Pure
