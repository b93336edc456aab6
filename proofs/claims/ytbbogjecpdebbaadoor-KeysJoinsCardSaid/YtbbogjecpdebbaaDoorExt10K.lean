/- The contracts of 'keys' in the print's form, in plain words. -/
import Derived.Test.YtbbogjecpdebbaaDoorExt10V
import Derived.Test.YtbbogjecpdebbaaDoorWMore
import Derived.WalkKit
import Derived.WalkMore
import Derived.Below
import Derived.KernelRfl
import Derived.LoopTactic
import Derived.Laws.RangeString
import Derived.Laws.RangeAny
import Derived.Laws.Rows
import Derived.Laws.Runes
import Derived.Lib.OthersKept
import Derived.OpenShut
set_option linter.unusedVariables false
set_option linter.unusedSimpArgs false
namespace Go.Proofs.YtbbogjecpdebbaaDoor.Ext
open Go.RowKit Go.Lib Go.Proofs.YtbbogjecpdebbaaDoorW.PrintWords Go.Proofs.YtbbogjecpdebbaaDoorW.PrintMore

def keys_May.f (a0 : Int) : Option Bool := some (mayZ a0)
theorem keys_May.calls (a0 : Int) (r : Bool) (w : World) (h : keys_May.f a0 = some r) (hT : Tabs w) :
    Calls Tryd.prog 8 #[.int .i32 a0] w fun e w' => e = .returned (.bool r) ∧ Below w.heap.size w w' := by
  cases h
  exact (HelpA.keys_May.calls (0 + 1) a0 (mayZ a0) w (may_eq 0 a0) hT).mono fun e w' ⟨he, hd⟩ => ⟨he, hd.below⟩
def keys_Print.f (l0 : List Int) : Option (ByteArray × Int) := some (printZ l0)
theorem keys_Print.calls (A0 : Option Addr) (c0 : Nat) (l0 : List Int) (r1 : ByteArray) (r2 : Int) (w : World) (hr0 : Kd.C (Kd.int .i32) w A0 l0.length l0) (hc0 : l0.length ≤ c0) (h : keys_Print.f l0 = some (r1, r2)) (hT : Tabs w) :
    Calls Tryd.prog 11 #[.slice A0 l0.length c0] w fun e w' => e = .returned (.tuple #[.string r1, .int .i64 r2]) ∧ Below w.heap.size w w' := by
  have he := Option.some.inj h
  have h1 : (printZ l0).1 = r1 := by rw [he]
  have h2 : (printZ l0).2 = r2 := by rw [he]
  rw [← h1, ← h2]
  exact Print_walk A0 c0 l0 w hr0 hc0 hT
def keys_Parse.f (a0 : ByteArray) : Option (List Int × Int) := if a0.size ≤ 1000000 then some (parseZ a0) else none
theorem keys_Parse.calls (a0 : ByteArray) (r1 : List Int) (r2 : Int) (w : World) (h : keys_Parse.f a0 = some (r1, r2)) (hT : Tabs w) :
    Calls Tryd.prog 13 #[.string a0] w fun e w' => ∃ v0_ : Value, e = .returned (.tuple #[v0_, .int .i64 r2]) ∧ Kd.R (Kd.int .i32) 21 w' w.heap.size (fun _ => True) v0_ r1 ∧ Below w.heap.size w w' := by
  unfold keys_Parse.f at h
  split at h
  · rename_i hs
    have he := Option.some.inj h
    have h1 : (parseZ a0).1 = r1 := by rw [he]
    have h2 : (parseZ a0).2 = r2 := by rw [he]
    rw [← h1, ← h2]
    exact Parse_walk a0 w hs hT
  · cases h

end Go.Proofs.YtbbogjecpdebbaaDoor.Ext
