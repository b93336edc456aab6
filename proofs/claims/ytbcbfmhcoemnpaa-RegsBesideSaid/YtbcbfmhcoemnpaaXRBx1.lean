-- Written by this session's program (wip/xprint.py) with the kit's print, for this claim.
import Derived.Test.YtbcbfmhcoemnpaaExt09L
import Derived.Test.YtbcbfmhcoemnpaaXRBx0
namespace Go.Proofs.Ytbcbfmhcoemnpaa.XRB
open Go.RowKit Go.Proofs.YtbcbfmhcoemnpaaW.PrintWords Go.Proofs.YtbcbfmhcoemnpaaW.PrintLast Go.Proofs.YtbcbfmhcoemnpaaW.PrintMore Go.Proofs.Ytbcbfmhcoemnpaa.Ext
attribute [local go_sem] max2_int min2_int max_two min_two max_three min_three max_four min_four   -- for this text's walks alone
set_option linter.unusedVariables false
set_option linter.unusedSimpArgs false


/-- What is to be proved of bureaulaw09_RegsBeside: no program in it. -/
def bureaulaw09_RegsBeside.Pure : Prop := ∀ (l0 : List (S42)) (a1_0 : Int) (a1_1 : ByteArray) (l1_2 : List (S58)) (a1_3 : Bool) (a1_4 : Bool) (a1_5 : Bool), l0.length ≤ maxLen → (∀ x ∈ l0, (Lit.int .i32 x.f0).wf = true ∧ x.f1.f0.f0.size ≤ maxLen ∧ x.f1.f0.f1.length ≤ maxLen ∧ (∀ y ∈ x.f1.f0.f1, (Lit.int .u64 y.f0).wf = true ∧ (Lit.int .i64 y.f1).wf = true)) → (Lit.int .i32 a1_0).wf = true → a1_1.size ≤ maxLen → l1_2.length ≤ maxLen → (∀ x ∈ l1_2, (Lit.int .u64 x.f0).wf = true ∧ (Lit.int .i64 x.f1).wf = true) → bureaulaw09_RegsBeside.f l0 a1_0 a1_1 l1_2 a1_3 a1_4 a1_5 = some true

end Go.Proofs.Ytbcbfmhcoemnpaa.XRB
