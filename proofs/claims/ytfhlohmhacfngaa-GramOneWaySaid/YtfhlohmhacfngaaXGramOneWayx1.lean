-- Written by this session's program (wip/xprint.py) with the kit's print, for this claim.
import Derived.Test.YtfhlohmhacfngaaXGramOneWayx0
namespace Go.Proofs.Ytfhlohmhacfngaa.XGramOneWay
open Go.RowKit Go.Proofs.YtfhlohmhacfngaaW.PrintWords Go.Proofs.YtfhlohmhacfngaaW.PrintLast Go.Proofs.YtfhlohmhacfngaaW.PrintMore Go.Proofs.Ytfhlohmhacfngaa.Ext
attribute [local go_sem] max2_int min2_int max_two min_two max_three min_three max_four min_four   -- for this text's walks alone
set_option linter.unusedVariables false
set_option linter.unusedSimpArgs false

theorem eqA27 (d : Nat) (w : World) (x0 y0 : Int) (x1 y1 : Int) (x2 y2 : Int) (x3 y3 : Int) (x4 y4 : Int) :
    (Op.equalIn (d + 2) 27 (.agg #[.int .i32 x0, .int .i64 x1, .int .i32 x2, .int .i32 x3, .int .i32 x4]) (.agg #[.int .i32 y0, .int .i64 y1, .int .i32 y2, .int .i32 y3, .int .i32 y4])).run Try.prog w = .ok (x0 == y0 && (x1 == y1 && (x2 == y2 && (x3 == y3 && (x4 == y4))))) w := by
  refine eqA_of Try.underlying27 (by kernel_rfl) ?_
  refine eqf_cons (by rfl) (by go_simp; rfl) (by go_simp; rfl) (by go_simp) ?_
  refine eqf_cons (by rfl) (by go_simp; rfl) (by go_simp; rfl) (by go_simp) ?_
  refine eqf_cons (by rfl) (by go_simp; rfl) (by go_simp; rfl) (by go_simp) ?_
  refine eqf_cons (by rfl) (by go_simp; rfl) (by go_simp; rfl) (by go_simp) ?_
  exact eqf_last (by rfl) (by go_simp; rfl) (by go_simp; rfl) (by go_simp)
end Go.Proofs.Ytfhlohmhacfngaa.XGramOneWay
