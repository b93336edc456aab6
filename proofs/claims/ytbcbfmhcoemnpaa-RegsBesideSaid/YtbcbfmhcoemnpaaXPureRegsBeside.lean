/- A call that names a letter leaves all registers but that one and the last one as they were; a call that names none to be kept leaves all: for all acts. -/
import Derived.Test.YtbcbfmhcoemnpaaXRBx1
import Derived.Test.YtbcbfmhcoemnpaaExt09L
import Derived.OpenShut
set_option linter.unusedVariables false
set_option linter.unusedSimpArgs false
namespace Go.Proofs.Ytbcbfmhcoemnpaa.Pure
open Go.RowKit Go.Proofs.Ytbcbfmhcoemnpaa.XRB Go.Proofs.YtbcbfmhcoemnpaaW.PrintWords Go.Proofs.YtbcbfmhcoemnpaaW.PrintMore Go.Proofs.Ytbcbfmhcoemnpaa.Ext

theorem RegsBeside : bureaulaw09_RegsBeside.Pure := by
  intro l0 a1_0 a1_1 l1_2 a1_3 a1_4 a1_5 _ h h1 _ _ _
  have hb : ∀ n : Int, (Lit.int .i32 n).wf = true → -2147483648 ≤ n ∧ n ≤ 2147483647 := fun n hn => by
    simpa [Lit.wf, IntKind.min, IntKind.max, IntKind.signed, IntKind.bits] using hn
  unfold bureaulaw09_RegsBeside.f
  exact if_pos ⟨fun x hx => hb _ (h x hx).1, hb _ h1⟩

end Go.Proofs.Ytbcbfmhcoemnpaa.Pure
