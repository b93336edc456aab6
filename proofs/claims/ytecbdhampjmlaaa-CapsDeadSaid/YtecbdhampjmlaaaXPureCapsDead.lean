/- A token that was taken back, or that was never given, is refused; none is given twice: for all actions and guesses. -/
import Derived.Test.YtecbdhampjmlaaaXCapsDeadx1
import Derived.Test.YtecbdhampjmlaaaExt17P
import Derived.OpenShut
set_option linter.unusedVariables false
set_option linter.unusedSimpArgs false
namespace Go.Proofs.Ytecbdhampjmlaaa.Pure
open Go.RowKit Go.Proofs.Ytecbdhampjmlaaa.XCapsDead Go.Proofs.YtecbdhampjmlaaaW.PrintWords Go.Proofs.YtecbdhampjmlaaaW.PrintMore Go.Proofs.Ytecbdhampjmlaaa.Ext

theorem CapsDead : bureaulaw17_CapsDead.Pure := by
  intro a l1 l2 ha hl1 hx hl2 _
  unfold bureaulaw17_CapsDead.f
  rw [if_pos ⟨ha, hl1, hl2, List.all_eq_true.2 (fun x hm => decide_eq_true (by
    have h := (hx x hm).1
    simpa [Lit.wf, IntKind.min, IntKind.max, IntKind.signed, IntKind.bits] using h))⟩]

end Go.Proofs.Ytecbdhampjmlaaa.Pure
