/- The walker of 'move': within, whole. -/
import Derived.Test.YtpajakfmahfpkaaDoorExt12IK
import Derived.Test.YtpajakfmahfpkaaDoorWMore
import Derived.WalkKit
import Derived.WalkMore
import Derived.Below
import Derived.KernelRfl
import Derived.LoopTactic
import Derived.Deep.RegionWith
import Derived.Deep.RegionHeld3
import Derived.IntWalk
import Derived.Deep.DeepCutAuto
import Derived.Deep.CutBlock
import Derived.BigQuiet
import Derived.Laws.RangeString
import Derived.Laws.RangeAny
import Derived.Laws.Rows
import Derived.Laws.Runes
import Derived.Lib.OthersKept
import Derived.OpenShut
set_option linter.unusedVariables false
set_option linter.unusedSimpArgs false
namespace Go.Proofs.YtpajakfmahfpkaaDoor.Ext
open Go.RowKit Go.Lib Go.Proofs.YtpajakfmahfpkaaDoorW.PrintWords Go.Proofs.YtpajakfmahfpkaaDoorW.PrintMore

set_option maxHeartbeats 2000000 in
theorem within_all (R : Nat) (k : Wk) (key arg cnt : Int) (w : World) (ok : WOk k) (hR : WRow w R k) (hT : Tabs w) :
    Calls Tryd.prog 38 #[.pointer (some ⟨R, 0, none⟩), .agg #[.int .i32 key, .int .i32 arg, .int .i64 cnt]] w fun e w' => e = .returned (.tuple #[.int .i64 (withinZ k key arg).1, .bool (withinZ k key arg).2]) ∧ Below w.heap.size w w' := by
  by_cases q104 : key = 104
  · subst q104
    refine (within_h R k arg cnt w ok hR hT).mono fun e w' h => ⟨h.1.trans ?_, h.2⟩
    simp [withinZ, withinTo]
  by_cases q108 : key = 108
  · subst q108
    refine (within_l R k arg cnt w ok hR hT).mono fun e w' h => ⟨h.1.trans ?_, h.2⟩
    simp [withinZ, withinTo]
  by_cases q48 : key = 48
  · subst q48
    refine (within_0 R k arg cnt w ok hR hT).mono fun e w' h => ⟨h.1.trans ?_, h.2⟩
    simp [withinZ, withinTo]
  by_cases q94 : key = 94
  · subst q94
    refine (within_c R k arg cnt w ok hR hT).mono fun e w' h => ⟨h.1.trans ?_, h.2⟩
    simp [withinZ, withinTo]
  by_cases q36 : key = 36
  · subst q36
    refine (within_e R k arg cnt w ok hR hT (boundsZ k.s (k.line + k.n - 1)).1 (boundsZ k.s (k.line + k.n - 1)).2.1 (boundsZ k.s (k.line + k.n - 1)).2.2 rfl).mono fun e w' h => ⟨h.1.trans ?_, h.2⟩
    simp [withinZ, withinTo]
  by_cases q119 : key = 119
  · subst q119
    refine (within_w R k arg cnt w ok hR hT).mono fun e w' h => ⟨h.1.trans ?_, h.2⟩
    simp [withinZ, withinTo]
  by_cases q98 : key = 98
  · subst q98
    refine (within_b R k arg cnt w ok hR hT).mono fun e w' h => ⟨h.1.trans ?_, h.2⟩
    simp [withinZ, withinTo]
  by_cases q125 : key = 125
  · subst q125
    refine (within_p R k arg cnt w ok hR hT).mono fun e w' h => ⟨h.1.trans ?_, h.2⟩
    simp [withinZ, withinTo]
  by_cases q123 : key = 123
  · subst q123
    refine (within_q R k arg cnt w ok hR hT).mono fun e w' h => ⟨h.1.trans ?_, h.2⟩
    simp [withinZ, withinTo]
  by_cases q70 : key = 70
  · subst q70
    refine (within_F R k arg cnt w ok hR hT (findZ k 70 arg).1 (findZ k 70 arg).2 rfl).mono fun e w' h => ⟨h.1.trans ?_, h.2⟩
    simp [withinZ, withinTo]
  by_cases q84 : key = 84
  · subst q84
    refine (within_T R k arg cnt w ok hR hT (findZ k 84 arg).1 (findZ k 84 arg).2 rfl).mono fun e w' h => ⟨h.1.trans ?_, h.2⟩
    simp [withinZ, withinTo]
  refine (within_o R k key arg cnt w hR (beq_eq_false_iff_ne.mpr q104) (beq_eq_false_iff_ne.mpr q108) (beq_eq_false_iff_ne.mpr q48) (beq_eq_false_iff_ne.mpr q94) (beq_eq_false_iff_ne.mpr q36) (beq_eq_false_iff_ne.mpr q119) (beq_eq_false_iff_ne.mpr q98) (beq_eq_false_iff_ne.mpr q125) (beq_eq_false_iff_ne.mpr q123) (beq_eq_false_iff_ne.mpr q70) (beq_eq_false_iff_ne.mpr q84)).mono fun e w' h => ⟨h.1.trans ?_, h.2⟩
  simp [withinZ, withinTo, q104, q108, q48, q94, q36, q119, q98, q125, q123, q70, q84]

end Go.Proofs.YtpajakfmahfpkaaDoor.Ext
