/- A table answers every call, in every order, as the document says: for all actions. -/
import Derived.Test.YtecbdhampjmlaaaXCAx1
import Derived.Test.YtecbdhampjmlaaaExt17U
import Derived.OpenShut
set_option linter.unusedVariables false
set_option linter.unusedSimpArgs false
namespace Go.Proofs.Ytecbdhampjmlaaa.Pure
open Go.RowKit Go.Proofs.Ytecbdhampjmlaaa.XCA Go.Proofs.YtecbdhampjmlaaaW.PrintWords Go.Proofs.YtecbdhampjmlaaaW.PrintMore Go.Proofs.Ytecbdhampjmlaaa.Ext

theorem CapsActs : bureaulaw17_CapsActs.Pure := by
  intro a0 a1 l _ _ hl hx
  unfold bureaulaw17_CapsActs.f
  rw [if_pos ⟨hl, List.all_eq_true.2 (fun x hm => decide_eq_true (by
    have h := (hx x hm).1
    simpa [Lit.wf, IntKind.min, IntKind.max, IntKind.signed, IntKind.bits] using h))⟩]

end Go.Proofs.Ytecbdhampjmlaaa.Pure
