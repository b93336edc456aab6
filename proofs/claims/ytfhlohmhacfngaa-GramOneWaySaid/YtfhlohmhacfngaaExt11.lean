/- Contracts of gram.Parse, Motion, Operator. -/
import Derived.Test.YtfhlohmhacfngaaGramP
set_option linter.unusedVariables false
namespace Go.Proofs.Ytfhlohmhacfngaa.Ext
open Go.RowKit Go.Lib Go.Proofs.YtfhlohmhacfngaaW.PrintWords

def gram_Motion.f (a0 : Int) : Option Bool := some (motZ a0)
theorem gram_Motion.calls (a0 : Int) (r : Bool) (w : World) (h : gram_Motion.f a0 = some r) :
    Calls Try.prog 8 #[.int .i32 a0] w fun e w' => e = .returned (.bool r) ∧ Below w.heap.size w w' := by
  obtain rfl := Option.some.inj h
  exact Motion_w a0 w
def gram_Operator.f (a0 : Int) : Option Bool := some (opZ a0)
theorem gram_Operator.calls (a0 : Int) (r : Bool) (w : World) (h : gram_Operator.f a0 = some r) :
    Calls Try.prog 10 #[.int .i32 a0] w fun e w' => e = .returned (.bool r) ∧ Below w.heap.size w w' := by
  obtain rfl := Option.some.inj h
  exact Operator_w a0 w
def gram_Parse.f (l0 : List Int) (a1 : Bool) : Option Ans := if l0.length ≤ 35184372088832 then some (parseZ l0 a1) else none
theorem gram_Parse.calls (A0 : Option Addr) (c0 : Nat) (l0 : List Int) (a1 : Bool) (r1 r2 r3 r4 r5 r6 r7 : Int) (w : World) (hr0 : Kd.C (Kd.int .i32) w A0 l0.length l0) (hc0 : l0.length ≤ c0) (h : gram_Parse.f l0 a1 = some (r1, r2, r3, r4, r5, r6, r7)) :
    Calls Try.prog 12 #[.slice A0 l0.length c0, .bool a1] w fun e w' => e = .returned (.tuple #[.agg #[.int .i32 r1, .int .i64 r2, .int .i32 r3, .int .i32 r4, .int .i32 r5], .int .i64 r6, .int .i64 r7]) ∧ Below w.heap.size w w' := by
  unfold gram_Parse.f at h
  split at h
  · rename_i hl
    have P := Parse_w A0 c0 l0 a1 w hr0 hc0 hl
    obtain h2 := Option.some.inj h
    rw [h2] at P
    exact P
  · cases h
end Go.Proofs.Ytfhlohmhacfngaa.Ext
