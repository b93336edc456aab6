/- The walker of move: within, by its walk (the keys behind the first eight). -/
import Derived.Test.YtpajakfmahfpkaaDoorExt12HK
import Derived.Test.YtpajakfmahfpkaaDoorWMore
import Derived.WalkKit
import Derived.WalkMore
import Derived.Below
import Derived.KernelRfl
import Derived.LoopTactic
import Derived.Deep.RegionWith
import Derived.Deep.RegionHeld3
import Derived.IntWalk
import Derived.Deep.DeepCutAuto
import Derived.Deep.CutBlock
import Derived.BigQuiet
import Derived.Laws.RangeString
import Derived.Laws.RangeAny
import Derived.Laws.Rows
import Derived.Laws.Runes
import Derived.Lib.OthersKept
import Derived.OpenShut
set_option linter.unusedVariables false
set_option linter.unusedSimpArgs false
namespace Go.Proofs.YtpajakfmahfpkaaDoor.Ext
open Go.RowKit Go.Lib Go.Proofs.YtpajakfmahfpkaaDoorW.PrintWords Go.Proofs.YtpajakfmahfpkaaDoorW.PrintMore

/-! The walker of 'move': within, the other keys; by its walk. -/
set_option maxRecDepth 100000 in
set_option maxHeartbeats 8000000 in
theorem within_e (R : Nat) (k : Wk) (arg cnt : Int) (w : World) (ok : WOk k) (hR : WRow w R k) (hT : Tabs w) (b1 b2 b3 : Int) (hbz : boundsZ k.s (k.line + k.n - 1) = (b1, b2, b3)) :
    Calls Tryd.prog 38 #[.pointer (some ⟨R, 0, none⟩), .agg #[.int .i32 36, .int .i32 arg, .int .i64 cnt]] w fun e w' => e = .returned (.tuple #[.int .i64 (b2), .bool ((b3 == 0) && (b2 != k.a))]) ∧ Below w.heap.size w w' := by
  have hB1 := W1_below w 36 arg cnt
  have hR1 := hR.below hB1
  have hT1 := hT.below hB1 (Nat.le_refl _)
  have c10 : (W1 w 36 arg cnt).cell? ⟨w.heap.size, 0, none⟩ = some (.int .i32 36) := by rw [W1_c]; rfl
  obtain ⟨h0, h1, h2, h3, h4, h5⟩ := hR1.cells
  have hD : Below (W1 w 36 arg cnt).heap.size (W1 w 36 arg cnt) (W1 w 36 arg cnt).drew := (Below.refl _ _).drew
  have HC := Aside0.mk (Bounds_w k.s ok.hs (k.line + k.n - 1) _ (hT1.below hD (Nat.le_refl _)))
  rw [hbz] at HC
  simp only at HC
  have HB1 := Aside0.mk hB1
  have HR1 := Aside0.mk hR1
  have HD := Aside0.mk hD
  have OK := Aside0.mk ok
  clear hR hT hB1 hT1 hR1 hD ok
  have hw1 : IntKind.i64.wrap (k.line + k.n) = k.line + k.n := IntWalk.i64_in _ (by have := OK.out.hn; have := OK.out.hl; have := nE_le k.s; have := OK.out.hs; omega)
  have hw2 : IntKind.i64.wrap (k.line + k.n - 1) = k.line + k.n - 1 := IntWalk.i64_in _ (by clear hw1; have := OK.out.hn; have := OK.out.hl; have := nE_le k.s; have := OK.out.hs; omega)
  cases hbb : (b3 == 0)
  · go_enter Tryd.func38, Tryd.ntmps38
    go_upto_region 13 with (fail)
    go_region_held3 (fun w' => w'.cell? ⟨R, 0, none⟩ = some (.string k.s) ∧ w'.cell? ⟨R, 2, none⟩ = some (.int .i64 k.n) ∧ w'.cell? ⟨R, 3, none⟩ = some (.int .i64 k.line)) (first | exact ⟨j0, j2, j3⟩ | go_keep) (first | (go_at_call 32; refine HC.out.mono ?_; rintro e w2 ⟨rfl, hb2⟩; have hr2 := HR1.out.below (HD.out.trans (hb2.mono HD.out.size)); obtain ⟨j0, j1, j2, j3, j4, j5⟩ := hr2.cells))
    all_goals (go_upto_region 26 with (fail))
    all_goals (go_quiet (fail))
    all_goals go_wp2
    all_goals go_ret2
    all_goals exact ⟨by simp [hbb], HB1.out.trans ((pw_below_drewN (HD.out.trans (hb2.mono HD.out.size)) _).mono HB1.out.size)⟩
  · go_enter Tryd.func38, Tryd.ntmps38
    go_upto_region 13 with (fail)
    go_region_held3 (fun w' => w'.cell? ⟨R, 0, none⟩ = some (.string k.s) ∧ w'.cell? ⟨R, 2, none⟩ = some (.int .i64 k.n) ∧ w'.cell? ⟨R, 3, none⟩ = some (.int .i64 k.line)) (first | exact ⟨j0, j2, j3⟩ | go_keep) (first | (go_at_call 32; refine HC.out.mono ?_; rintro e w2 ⟨rfl, hb2⟩; have hr2 := HR1.out.below (HD.out.trans (hb2.mono HD.out.size)); obtain ⟨j0, j1, j2, j3, j4, j5⟩ := hr2.cells))
    all_goals (go_upto_region 26 with (fail))
    all_goals (go_quiet (fail))
    all_goals go_wp2
    all_goals go_ret2
    all_goals exact ⟨by simp [hbb], HB1.out.trans ((pw_below_drewN (HD.out.trans (hb2.mono HD.out.size)) _).mono HB1.out.size)⟩
set_option maxRecDepth 100000 in
set_option maxHeartbeats 8000000 in
theorem within_F (R : Nat) (k : Wk) (arg cnt : Int) (w : World) (ok : WOk k) (hR : WRow w R k) (hT : Tabs w) (z1 : Int) (z2 : Bool) (hz : findZ k 70 arg = (z1, z2)) :
    Calls Tryd.prog 38 #[.pointer (some ⟨R, 0, none⟩), .agg #[.int .i32 70, .int .i32 arg, .int .i64 cnt]] w fun e w' => e = .returned (.tuple #[.int .i64 (z1), .bool (z2 && (z1 != k.a))]) ∧ Below w.heap.size w w' := by
  have hB1 := W1_below w 70 arg cnt
  have hR1 := hR.below hB1
  have hT1 := hT.below hB1 (Nat.le_refl _)
  have c10 : (W1 w 70 arg cnt).cell? ⟨w.heap.size, 0, none⟩ = some (.int .i32 70) := by rw [W1_c]; rfl
  obtain ⟨h0, h1, h2, h3, h4, h5⟩ := hR1.cells
  have hD : Below (W1 w 70 arg cnt).heap.size (W1 w 70 arg cnt) (W1 w 70 arg cnt).drew := (Below.refl _ _).drew
  have c11 : (W1 w 70 arg cnt).cell? ⟨w.heap.size, 1, none⟩ = some (.int .i32 arg) := by rw [W1_c]; rfl
  have c12 : (W1 w 70 arg cnt).cell? ⟨w.heap.size, 2, none⟩ = some (.int .i64 cnt) := by rw [W1_c]; rfl
  have HC := Aside0.mk (find_w R k 70 arg cnt _ ok.hs hR1 hT1 ok.hn ok.ha ok.hf ok.ht)
  rw [hz] at HC
  simp only at HC
  have HB1 := Aside0.mk hB1
  have HR1 := Aside0.mk hR1
  have HD := Aside0.mk hD
  have OK := Aside0.mk ok
  clear hR hT hB1 hT1 hR1 hD ok
  cases z2
  · go_enter Tryd.func38, Tryd.ntmps38
    go_upto_region 26 with (go_at_call 37; refine HC.out.mono ?_; rintro e w2 ⟨rfl, hb2⟩; have hr2 := HR1.out.below hb2; obtain ⟨j0, j1, j2, j3, j4, j5⟩ := hr2.cells)
    go_quiet (fail)
    go_wp2
    go_ret2
    exact ⟨by simp, HB1.out.trans ((pw_below_drewN hb2 _).mono HB1.out.size)⟩
  · go_enter Tryd.func38, Tryd.ntmps38
    go_upto_region 26 with (go_at_call 37; refine HC.out.mono ?_; rintro e w2 ⟨rfl, hb2⟩; have hr2 := HR1.out.below hb2; obtain ⟨j0, j1, j2, j3, j4, j5⟩ := hr2.cells)
    go_quiet (fail)
    go_wp2
    go_ret2
    exact ⟨by simp, HB1.out.trans ((pw_below_drewN hb2 _).mono HB1.out.size)⟩
set_option maxRecDepth 100000 in
set_option maxHeartbeats 8000000 in
theorem within_T (R : Nat) (k : Wk) (arg cnt : Int) (w : World) (ok : WOk k) (hR : WRow w R k) (hT : Tabs w) (z1 : Int) (z2 : Bool) (hz : findZ k 84 arg = (z1, z2)) :
    Calls Tryd.prog 38 #[.pointer (some ⟨R, 0, none⟩), .agg #[.int .i32 84, .int .i32 arg, .int .i64 cnt]] w fun e w' => e = .returned (.tuple #[.int .i64 (z1), .bool (z2 && (z1 != k.a))]) ∧ Below w.heap.size w w' := by
  have hB1 := W1_below w 84 arg cnt
  have hR1 := hR.below hB1
  have hT1 := hT.below hB1 (Nat.le_refl _)
  have c10 : (W1 w 84 arg cnt).cell? ⟨w.heap.size, 0, none⟩ = some (.int .i32 84) := by rw [W1_c]; rfl
  obtain ⟨h0, h1, h2, h3, h4, h5⟩ := hR1.cells
  have hD : Below (W1 w 84 arg cnt).heap.size (W1 w 84 arg cnt) (W1 w 84 arg cnt).drew := (Below.refl _ _).drew
  have c11 : (W1 w 84 arg cnt).cell? ⟨w.heap.size, 1, none⟩ = some (.int .i32 arg) := by rw [W1_c]; rfl
  have c12 : (W1 w 84 arg cnt).cell? ⟨w.heap.size, 2, none⟩ = some (.int .i64 cnt) := by rw [W1_c]; rfl
  have HC := Aside0.mk (find_w R k 84 arg cnt _ ok.hs hR1 hT1 ok.hn ok.ha ok.hf ok.ht)
  rw [hz] at HC
  simp only at HC
  have HB1 := Aside0.mk hB1
  have HR1 := Aside0.mk hR1
  have HD := Aside0.mk hD
  have OK := Aside0.mk ok
  clear hR hT hB1 hT1 hR1 hD ok
  cases z2
  · go_enter Tryd.func38, Tryd.ntmps38
    go_upto_region 26 with (go_at_call 37; refine HC.out.mono ?_; rintro e w2 ⟨rfl, hb2⟩; have hr2 := HR1.out.below hb2; obtain ⟨j0, j1, j2, j3, j4, j5⟩ := hr2.cells)
    go_quiet (fail)
    go_wp2
    go_ret2
    exact ⟨by simp, HB1.out.trans ((pw_below_drewN hb2 _).mono HB1.out.size)⟩
  · go_enter Tryd.func38, Tryd.ntmps38
    go_upto_region 26 with (go_at_call 37; refine HC.out.mono ?_; rintro e w2 ⟨rfl, hb2⟩; have hr2 := HR1.out.below hb2; obtain ⟨j0, j1, j2, j3, j4, j5⟩ := hr2.cells)
    go_quiet (fail)
    go_wp2
    go_ret2
    exact ⟨by simp, HB1.out.trans ((pw_below_drewN hb2 _).mono HB1.out.size)⟩
set_option maxRecDepth 100000 in
set_option maxHeartbeats 8000000 in
theorem within_o (R : Nat) (k : Wk) (key arg cnt : Int) (w : World) (hR : WRow w R k) (q104 : (key == 104) = false) (q108 : (key == 108) = false) (q48 : (key == 48) = false) (q94 : (key == 94) = false) (q36 : (key == 36) = false) (q119 : (key == 119) = false) (q98 : (key == 98) = false) (q125 : (key == 125) = false) (q123 : (key == 123) = false) (q70 : (key == 70) = false) (q84 : (key == 84) = false) :
    Calls Tryd.prog 38 #[.pointer (some ⟨R, 0, none⟩), .agg #[.int .i32 key, .int .i32 arg, .int .i64 cnt]] w fun e w' => e = .returned (.tuple #[.int .i64 0, .bool false]) ∧ Below w.heap.size w w' := by
  have hB1 := W1_below w key arg cnt
  have hR1 := hR.below hB1
  have c10 : (W1 w key arg cnt).cell? ⟨w.heap.size, 0, none⟩ = some (.int .i32 key) := by rw [W1_c]; rfl
  obtain ⟨h0, h1, h2, h3, h4, h5⟩ := hR1.cells
  have HB1 := Aside0.mk hB1
  clear hR hB1 hR1
  go_enter Tryd.func38, Tryd.ntmps38
  go_upto_region 26 with (fail)
  go_quiet (fail)
  go_wp2
  go_ret2
  exact ⟨rfl, HB1.out.trans ((pw_below_drewN (Below.refl _ _) _).mono HB1.out.size)⟩
/-! The walker of 'move': within, whole. -/
set_option maxHeartbeats 2000000 in
theorem within_all (R : Nat) (k : Wk) (key arg cnt : Int) (w : World) (ok : WOk k) (hR : WRow w R k) (hT : Tabs w) :
    Calls Tryd.prog 38 #[.pointer (some ⟨R, 0, none⟩), .agg #[.int .i32 key, .int .i32 arg, .int .i64 cnt]] w fun e w' => e = .returned (.tuple #[.int .i64 (withinZ k key arg).1, .bool (withinZ k key arg).2]) ∧ Below w.heap.size w w' := by
  by_cases q104 : key = 104
  · subst q104
    refine (within_h R k arg cnt w ok hR hT).mono fun e w' h => ⟨h.1.trans ?_, h.2⟩
    simp [withinZ, withinTo]
  by_cases q108 : key = 108
  · subst q108
    refine (within_l R k arg cnt w ok hR hT).mono fun e w' h => ⟨h.1.trans ?_, h.2⟩
    simp [withinZ, withinTo]
  by_cases q48 : key = 48
  · subst q48
    refine (within_0 R k arg cnt w ok hR hT).mono fun e w' h => ⟨h.1.trans ?_, h.2⟩
    simp [withinZ, withinTo]
  by_cases q94 : key = 94
  · subst q94
    refine (within_c R k arg cnt w ok hR hT).mono fun e w' h => ⟨h.1.trans ?_, h.2⟩
    simp [withinZ, withinTo]
  by_cases q36 : key = 36
  · subst q36
    refine (within_e R k arg cnt w ok hR hT (boundsZ k.s (k.line + k.n - 1)).1 (boundsZ k.s (k.line + k.n - 1)).2.1 (boundsZ k.s (k.line + k.n - 1)).2.2 rfl).mono fun e w' h => ⟨h.1.trans ?_, h.2⟩
    simp [withinZ, withinTo]
  by_cases q119 : key = 119
  · subst q119
    refine (within_w R k arg cnt w ok hR hT).mono fun e w' h => ⟨h.1.trans ?_, h.2⟩
    simp [withinZ, withinTo]
  by_cases q98 : key = 98
  · subst q98
    refine (within_b R k arg cnt w ok hR hT).mono fun e w' h => ⟨h.1.trans ?_, h.2⟩
    simp [withinZ, withinTo]
  by_cases q125 : key = 125
  · subst q125
    refine (within_p R k arg cnt w ok hR hT).mono fun e w' h => ⟨h.1.trans ?_, h.2⟩
    simp [withinZ, withinTo]
  by_cases q123 : key = 123
  · subst q123
    refine (within_q R k arg cnt w ok hR hT).mono fun e w' h => ⟨h.1.trans ?_, h.2⟩
    simp [withinZ, withinTo]
  by_cases q70 : key = 70
  · subst q70
    refine (within_F R k arg cnt w ok hR hT (findZ k 70 arg).1 (findZ k 70 arg).2 rfl).mono fun e w' h => ⟨h.1.trans ?_, h.2⟩
    simp [withinZ, withinTo]
  by_cases q84 : key = 84
  · subst q84
    refine (within_T R k arg cnt w ok hR hT (findZ k 84 arg).1 (findZ k 84 arg).2 rfl).mono fun e w' h => ⟨h.1.trans ?_, h.2⟩
    simp [withinZ, withinTo]
  refine (within_o R k key arg cnt w hR (beq_eq_false_iff_ne.mpr q104) (beq_eq_false_iff_ne.mpr q108) (beq_eq_false_iff_ne.mpr q48) (beq_eq_false_iff_ne.mpr q94) (beq_eq_false_iff_ne.mpr q36) (beq_eq_false_iff_ne.mpr q119) (beq_eq_false_iff_ne.mpr q98) (beq_eq_false_iff_ne.mpr q125) (beq_eq_false_iff_ne.mpr q123) (beq_eq_false_iff_ne.mpr q70) (beq_eq_false_iff_ne.mpr q84)).mono fun e w' h => ⟨h.1.trans ?_, h.2⟩
  simp [withinZ, withinTo, q104, q108, q48, q94, q36, q119, q98, q125, q123, q70, q84]

end Go.Proofs.YtpajakfmahfpkaaDoor.Ext
