/- keys.name: its walk. -/
import Derived.Test.YtbbogjecpdebbaaDoorExt10M
import Derived.Test.YtbbogjecpdebbaaDoorWMore
import Derived.WalkKit
import Derived.WalkMore
import Derived.Below
import Derived.KernelRfl
import Derived.LoopTactic
import Derived.Laws.RangeString
import Derived.Laws.RangeAny
import Derived.Laws.Rows
import Derived.Laws.Runes
import Derived.Lib.OthersKept
import Derived.OpenShut
set_option linter.unusedVariables false
set_option linter.unusedSimpArgs false
namespace Go.Proofs.YtbbogjecpdebbaaDoor.Ext
open Go.RowKit Go.Lib Go.Proofs.YtbbogjecpdebbaaDoorW.PrintWords Go.Proofs.YtbbogjecpdebbaaDoorW.PrintMore

theorem wrapZ (a : Int) (h0 : -9223372036854775808 ≤ a) (h1 : a < 9223372036854775808) : wrap64 a = a := by
  unfold wrap64
  omega
theorem enc_small (n : Int) (h0 : 97 ≤ n) (h1 : n ≤ 127) : Utf8.encode n = ⟨#[UInt8.ofNat n.toNat]⟩ := by
  have hv : Utf8.valid n = true := by
    simp only [Utf8.valid, Bool.or_eq_true, Bool.and_eq_true, decide_eq_true_eq]
    omega
  unfold Utf8.encode
  simp only [hv, if_true]
  rw [if_pos (by omega)]
set_option maxRecDepth 1000000 in
theorem name_walk (r : Int) (w : World) (h1 : 1 ≤ r) (h2 : r ≤ 2147483647) :
    Calls Tryd.prog 18 #[.int .i32 r] w fun e w' => e = .returned (.string ⟨(nameB r).toArray⟩) ∧ w' = w := by
  by_cases h27 : r = 27
  · subst h27
    go_enter Tryd.func18, Tryd.ntmps18
    go_wp2
    go_ret
    exact ⟨rfl, rfl⟩
  have e27 : (r == 27) = false := beq_eq_false_iff_ne.2 h27
  by_cases h13 : r = 13
  · subst h13
    go_enter Tryd.func18, Tryd.ntmps18
    go_wp2
    go_ret
    exact ⟨rfl, rfl⟩
  have e13 : (r == 13) = false := beq_eq_false_iff_ne.2 h13
  by_cases h8 : r = 8
  · subst h8
    go_enter Tryd.func18, Tryd.ntmps18
    go_wp2
    go_ret
    exact ⟨rfl, rfl⟩
  have e8 : (r == 8) = false := beq_eq_false_iff_ne.2 h8
  by_cases h9 : r = 9
  · subst h9
    go_enter Tryd.func18, Tryd.ntmps18
    go_wp2
    go_ret
    exact ⟨rfl, rfl⟩
  have e9 : (r == 9) = false := beq_eq_false_iff_ne.2 h9
  by_cases h60 : r = 60
  · subst h60
    go_enter Tryd.func18, Tryd.ntmps18
    go_wp2
    go_ret
    exact ⟨rfl, rfl⟩
  have e60 : (r == 60) = false := beq_eq_false_iff_ne.2 h60
  by_cases h32 : r < 32
  · have d32 : decide (r < 32) = true := decide_eq_true h32
    have hn : nameB r = [67, 45, UInt8.ofNat (96 + r).toNat] := by unfold nameB; rw [if_neg h27, if_neg h13, if_neg h8, if_neg h9, if_neg h60, if_pos h32]
    have he : Utf8.encode (97 + r - 1) = ⟨#[UInt8.ofNat (96 + r).toNat]⟩ := by rw [show (97 + r - 1 : Int) = 96 + r by omega]; exact enc_small (96 + r) (by omega) (by omega)
    have hc : ¬ 9223372036854775807 < 2 + (Utf8.encode (97 + r - 1)).size := by rw [he]; exact (by decide : ¬ 9223372036854775807 < 2 + 1)
    rw [hn]
    go_enter Tryd.func18, Tryd.ntmps18
    go_wp2
    go_ret
    refine ⟨?_, rfl⟩
    first | rfl | (rw [he]; rfl) | (trace_state; sorry)
  · have d32 : decide (r < 32) = false := decide_eq_false h32
    have hn : nameB r = [] := by unfold nameB; rw [if_neg h27, if_neg h13, if_neg h8, if_neg h9, if_neg h60, if_neg h32]
    rw [hn]
    go_enter Tryd.func18, Tryd.ntmps18
    go_wp2
    go_ret
    exact ⟨rfl, rfl⟩
def keys_name.f (a0 : Int) : Option ByteArray := if 1 ≤ a0 ∧ a0 ≤ 2147483647 then some ⟨(nameB a0).toArray⟩ else none
theorem keys_name.calls (a0 : Int) (r : ByteArray) (w : World) (h : keys_name.f a0 = some r) (hT : Tabs w) :
    Calls Tryd.prog 18 #[.int .i32 a0] w fun e w' => e = .returned (.string r) ∧ Below w.heap.size w w' := by
  unfold keys_name.f at h
  split at h
  · rename_i hs
    obtain rfl := Option.some.inj h
    refine (name_walk a0 w hs.1 hs.2).mono fun e w' ⟨he, hw⟩ => ⟨he, ?_⟩
    rw [hw]
    exact Below.refl _ _
  · cases h

end Go.Proofs.YtbbogjecpdebbaaDoor.Ext
