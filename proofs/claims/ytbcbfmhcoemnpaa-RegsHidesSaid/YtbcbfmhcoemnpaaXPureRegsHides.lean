/- Registers to which texts went that are alike for a level, in the same way, have texts that are alike for it: for all acts, all levels and all other bytes. -/
import Derived.Test.YtbcbfmhcoemnpaaXRHx1
import Derived.Test.YtbcbfmhcoemnpaaExt09RT
import Derived.OpenShut
set_option linter.unusedVariables false
set_option linter.unusedSimpArgs false
namespace Go.Proofs.Ytbcbfmhcoemnpaa.Pure
open Go.RowKit Go.Proofs.Ytbcbfmhcoemnpaa.XRH Go.Proofs.YtbcbfmhcoemnpaaW.PrintWords Go.Proofs.YtbcbfmhcoemnpaaW.PrintMore Go.Proofs.Ytbcbfmhcoemnpaa.Ext

theorem RegsHides : bureaulaw09_RegsHides.Pure := by
  intro l0 a1 a2 _ h _ h2
  have hb : ∀ n : Int, (Lit.int .i32 n).wf = true → -2147483648 ≤ n ∧ n ≤ 2147483647 := fun n hn => by
    simpa [Lit.wf, IntKind.min, IntKind.max, IntKind.signed, IntKind.bits] using hn
  have hu : ∀ n : Int, (Lit.int .u64 n).wf = true → 0 ≤ n ∧ n ≤ 18446744073709551615 := fun n hn => by
    simpa [Lit.wf, IntKind.min, IntKind.max, IntKind.signed, IntKind.bits] using hn
  unfold bureaulaw09_RegsHides.f
  exact if_pos ⟨fun x hx => ⟨hb _ (h x hx).1, fun y hy => hu _ ((h x hx).2.2.2 y hy).1⟩, hu _ h2⟩

end Go.Proofs.Ytbcbfmhcoemnpaa.Pure
