/- A table gives at most as many tokens as it has slots times generations; in the end all are refused: for all numbers of slots, generations and keeps. -/
import Derived.Test.YtecbdhampjmlaaaXCapsRetiredx1
import Derived.Test.YtecbdhampjmlaaaExt17K
import Derived.OpenShut
set_option linter.unusedVariables false
set_option linter.unusedSimpArgs false
namespace Go.Proofs.Ytecbdhampjmlaaa.Pure
open Go.RowKit Go.Proofs.Ytecbdhampjmlaaa.XCapsRetired Go.Proofs.YtecbdhampjmlaaaW.PrintWords Go.Proofs.YtecbdhampjmlaaaW.PrintMore Go.Proofs.Ytecbdhampjmlaaa.Ext

theorem CapsRetired : bureaulaw17_CapsRetired.Pure := by
  intro a b c ha hb hc
  have h1 : 0 ≤ a ∧ a ≤ 255 := by simpa [Lit.wf, IntKind.min, IntKind.max, IntKind.signed, IntKind.bits] using ha
  have h2 : 0 ≤ b ∧ b ≤ 255 := by simpa [Lit.wf, IntKind.min, IntKind.max, IntKind.signed, IntKind.bits] using hb
  have h3 : 0 ≤ c ∧ c ≤ 255 := by simpa [Lit.wf, IntKind.min, IntKind.max, IntKind.signed, IntKind.bits] using hc
  unfold bureaulaw17_CapsRetired.f
  rw [if_pos ⟨h1, h2, h3⟩]

end Go.Proofs.Ytecbdhampjmlaaa.Pure
