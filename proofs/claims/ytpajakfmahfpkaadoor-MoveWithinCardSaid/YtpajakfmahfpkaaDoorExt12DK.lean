/- The walker of 'move': empty lines, and paragraphs, by their walks. -/
import Derived.Test.YtpajakfmahfpkaaDoorExt12BK
import Derived.Test.YtpajakfmahfpkaaDoorWMore
import Derived.WalkKit
import Derived.WalkMore
import Derived.Below
import Derived.KernelRfl
import Derived.LoopTactic
import Derived.Deep.RegionWith
import Derived.Deep.RegionHeld3
import Derived.IntWalk
import Derived.Deep.DeepCutAuto
import Derived.Deep.CutBlock
import Derived.BigQuiet
import Derived.Laws.RangeString
import Derived.Laws.RangeAny
import Derived.Laws.Rows
import Derived.Laws.Runes
import Derived.Lib.OthersKept
import Derived.OpenShut
set_option linter.unusedVariables false
set_option linter.unusedSimpArgs false
namespace Go.Proofs.YtpajakfmahfpkaaDoor.Ext
open Go.RowKit Go.Lib Go.Proofs.YtpajakfmahfpkaaDoorW.PrintWords Go.Proofs.YtpajakfmahfpkaaDoorW.PrintMore

set_option maxRecDepth 100000 in
set_option maxHeartbeats 4000000 in
theorem empty_w (R : Nat) (k : Wk) (a : Int) (w : World) (hs : k.s.size < 1000000) (hR : WRow w R k) (h0 : 0 ≤ a) (h1 : a ≤ (k.s.size : Int)) :
    Calls Tryd.prog 88 #[.pointer (some ⟨R, 0, none⟩), .int .i64 a] w fun e w' => e = .returned (.bool (empZ k.s a)) ∧ Below w.heap.size w w' := by
  obtain ⟨g0, g1, g2, g3, g4, g5⟩ := hR.cells
  have e1 : (a - 1).toNat = a.toNat - 1 := by omega
  have hx1 : ∀ (h : a.toNat - 1 < k.s.size), ((k.s[a.toNat - 1]'h).toNat : Int) = bt k.s (a - 1) := by rw [← e1]; exact bt_at k.s (a - 1)
  have hx2 := bt_at k.s a
  have E : empZ k.s a = ((a == 0 || bt k.s (a - 1) == 10) && (a == (k.s.size : Int) || bt k.s a == 10)) := rfl
  rw [E]
  clear E hR e1
  generalize bt k.s (a - 1) = B at hx1 ⊢
  cases b1 : (a == 0)
  · have n0 : ¬ a = 0 := by simpa using b1
    have p1 : (1 ≤ a) = True := eq_true (by omega)
    have q1 : (a - 1 < (k.s.size : Int)) = True := eq_true (by omega)
    cases b3 : (B == 10)
    · simp only [Bool.false_or, Bool.false_and]
      clear n0
      go_enter Tryd.func88, Tryd.ntmps88
      go_wp2
      go_ret
      exact ⟨rfl, Below.refl _ _⟩
    · cases b2 : (a == (k.s.size : Int))
      · have n2 : ¬ a = (k.s.size : Int) := by simpa using b2
        have p2 : (0 ≤ a) = True := eq_true h0
        have q2 : (a < (k.s.size : Int)) = True := eq_true (by omega)
        simp only [Bool.false_or, Bool.true_and]
        clear n0 n2
        go_enter Tryd.func88, Tryd.ntmps88
        go_wp2
        go_ret
        exact ⟨rfl, Below.refl _ _⟩
      · simp only [Bool.true_or, Bool.false_or, Bool.true_and]
        clear n0
        go_enter Tryd.func88, Tryd.ntmps88
        go_wp2
        go_ret
        exact ⟨rfl, Below.refl _ _⟩
  · cases b2 : (a == (k.s.size : Int))
    · have n2 : ¬ a = (k.s.size : Int) := by simpa using b2
      have p2 : (0 ≤ a) = True := eq_true h0
      have q2 : (a < (k.s.size : Int)) = True := eq_true (by omega)
      simp only [Bool.true_or, Bool.false_or, Bool.true_and]
      clear n2
      go_enter Tryd.func88, Tryd.ntmps88
      go_wp2
      go_ret
      exact ⟨rfl, Below.refl _ _⟩
    · simp only [Bool.true_or, Bool.true_and]
      go_enter Tryd.func88, Tryd.ntmps88
      go_wp2
      go_ret
      exact ⟨rfl, Below.refl _ _⟩

end Go.Proofs.YtpajakfmahfpkaaDoor.Ext
