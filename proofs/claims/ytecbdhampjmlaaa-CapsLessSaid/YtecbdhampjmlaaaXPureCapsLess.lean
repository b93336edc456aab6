/- What a token allows is within what that one allows from which it comes: for all actions. -/
import Derived.Test.YtecbdhampjmlaaaXCapsLessx1
import Derived.Test.YtecbdhampjmlaaaExt17N
import Derived.OpenShut
set_option linter.unusedVariables false
set_option linter.unusedSimpArgs false
namespace Go.Proofs.Ytecbdhampjmlaaa.Pure
open Go.RowKit Go.Proofs.Ytecbdhampjmlaaa.XCapsLess Go.Proofs.YtecbdhampjmlaaaW.PrintWords Go.Proofs.YtecbdhampjmlaaaW.PrintMore Go.Proofs.Ytecbdhampjmlaaa.Ext

theorem CapsLess : bureaulaw17_CapsLess.Pure := by
  intro a l ha hl hx
  unfold bureaulaw17_CapsLess.f
  rw [if_pos ⟨ha, hl, List.all_eq_true.2 (fun x hm => decide_eq_true (by
    have h := (hx x hm).1
    simpa [Lit.wf, IntKind.min, IntKind.max, IntKind.signed, IntKind.bits] using h))⟩]

end Go.Proofs.Ytecbdhampjmlaaa.Pure
