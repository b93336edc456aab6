/- The walker of 'move': within, by its walk. -/
import Derived.Test.YtpajakfmahfpkaaDoorExt12FK
import Derived.Test.YtpajakfmahfpkaaDoorExt12EK
import Derived.Test.YtpajakfmahfpkaaDoorExt12GK
import Derived.Test.YtpajakfmahfpkaaDoorWMore
import Derived.WalkKit
import Derived.WalkMore
import Derived.Below
import Derived.KernelRfl
import Derived.LoopTactic
import Derived.Deep.RegionWith
import Derived.Deep.RegionHeld3
import Derived.IntWalk
import Derived.Deep.DeepCutAuto
import Derived.Deep.CutBlock
import Derived.BigQuiet
import Derived.Laws.RangeString
import Derived.Laws.RangeAny
import Derived.Laws.Rows
import Derived.Laws.Runes
import Derived.Lib.OthersKept
import Derived.OpenShut
set_option linter.unusedVariables false
set_option linter.unusedSimpArgs false
namespace Go.Proofs.YtpajakfmahfpkaaDoor.Ext
open Go.RowKit Go.Lib Go.Proofs.YtpajakfmahfpkaaDoorW.PrintWords Go.Proofs.YtpajakfmahfpkaaDoorW.PrintMore

def withinTo (k : Wk) (key arg : Int) : Int × Bool :=
  if key = 104 then ((upZ k .any k.f k.f).1, true) else if key = 108 then ((dnZ k .any k.t k.t).1, true) else if key = 48 then (k.f, true) else if key = 94 then (((firstZ k.s k.line : Nat) : Int), true)
  else if key = 36 then ((boundsZ k.s (k.line + k.n - 1)).2.1, (boundsZ k.s (k.line + k.n - 1)).2.2 == 0) else if key = 119 then ((dnZ k .beg (k.s.size : Int) (k.s.size : Int)).1, true) else if key = 98 then ((upZ k .beg 0 0).1, true)
  else if key = 125 then (parZ k 1, true) else if key = 123 then (parZ k (-1), true) else if key = 70 ∨ key = 84 then findZ k key arg else (0, false)
def withinZ (k : Wk) (key arg : Int) : Int × Bool := ((withinTo k key arg).1, (withinTo k key arg).2 && (withinTo k key arg).1 != k.a)
structure WOk (k : Wk) : Prop where
  hs : k.s.size < 1000000
  hn : 1 ≤ k.n ∧ k.n ≤ 999
  ha : 0 ≤ k.a ∧ k.a ≤ (k.s.size : Int)
  hl : 0 ≤ k.line ∧ k.line < ((nE k.s : Nat) : Int)
  hf : 0 ≤ k.f
  ht : k.t ≤ (k.s.size : Int)
set_option maxRecDepth 100000 in
set_option maxHeartbeats 8000000 in
theorem within_h (R : Nat) (k : Wk) (arg cnt : Int) (w : World) (ok : WOk k) (hR : WRow w R k) (hT : Tabs w) :
    Calls Tryd.prog 38 #[.pointer (some ⟨R, 0, none⟩), .agg #[.int .i32 104, .int .i32 arg, .int .i64 cnt]] w fun e w' => e = .returned (.tuple #[.int .i64 ((upZ k .any k.f k.f).1), .bool (((upZ k .any k.f k.f).1) != k.a)]) ∧ Below w.heap.size w w' := by
  have hB1 := W1_below w 104 arg cnt
  have hR1 := hR.below hB1
  have hT1 := hT.below hB1 (Nat.le_refl _)
  have c10 : (W1 w 104 arg cnt).cell? ⟨w.heap.size, 0, none⟩ = some (.int .i32 104) := by rw [W1_c]; rfl
  obtain ⟨h0, h1, h2, h3, h4, h5⟩ := hR1.cells
  have hD : Below (W1 w 104 arg cnt).heap.size (W1 w 104 arg cnt) (W1 w 104 arg cnt).drew := (Below.refl _ _).drew
  have HC := Aside0.mk (up_w R k k.f k.f .any _ _ ok.hs (hR1.below hD) (hT1.below hD (Nat.le_refl _)) rfl ok.hf ok.hn ok.ha)
  generalize upZ k .any k.f k.f = z at HC ⊢
  have HB1 := Aside0.mk hB1
  have HR1 := Aside0.mk hR1
  have HD := Aside0.mk hD
  have OK := Aside0.mk ok
  clear hR hT hB1 hT1 hR1 hD ok
  go_enter Tryd.func38, Tryd.ntmps38
  go_upto_region 5 with (fail)
  go_region_held3 (fun w' => w'.cell? ⟨R, 4, none⟩ = some (.int .i64 k.f)) (first | exact ⟨j4⟩ | go_keep) (first | (go_at_call 71; refine HC.out.mono ?_; rintro e w2 ⟨rfl, hb2⟩; have hr2 := HR1.out.below (HD.out.trans (hb2.mono HD.out.size)); obtain ⟨j0, j1, j2, j3, j4, j5⟩ := hr2.cells))
  all_goals (go_upto_region 26 with (fail))
  all_goals (go_quiet (fail))
  all_goals go_wp2
  all_goals go_ret2
  all_goals exact ⟨rfl, HB1.out.trans ((pw_below_drewN (HD.out.trans (hb2.mono HD.out.size)) _).mono HB1.out.size)⟩
set_option maxRecDepth 100000 in
set_option maxHeartbeats 8000000 in
theorem within_l (R : Nat) (k : Wk) (arg cnt : Int) (w : World) (ok : WOk k) (hR : WRow w R k) (hT : Tabs w) :
    Calls Tryd.prog 38 #[.pointer (some ⟨R, 0, none⟩), .agg #[.int .i32 108, .int .i32 arg, .int .i64 cnt]] w fun e w' => e = .returned (.tuple #[.int .i64 ((dnZ k .any k.t k.t).1), .bool (((dnZ k .any k.t k.t).1) != k.a)]) ∧ Below w.heap.size w w' := by
  have hB1 := W1_below w 108 arg cnt
  have hR1 := hR.below hB1
  have hT1 := hT.below hB1 (Nat.le_refl _)
  have c10 : (W1 w 108 arg cnt).cell? ⟨w.heap.size, 0, none⟩ = some (.int .i32 108) := by rw [W1_c]; rfl
  obtain ⟨h0, h1, h2, h3, h4, h5⟩ := hR1.cells
  have hD : Below (W1 w 108 arg cnt).heap.size (W1 w 108 arg cnt) (W1 w 108 arg cnt).drew := (Below.refl _ _).drew
  have HC := Aside0.mk (down_w R k k.t k.t .any _ _ ok.hs (hR1.below hD) (hT1.below hD (Nat.le_refl _)) rfl ok.ht ok.hn ok.ha.1)
  generalize dnZ k .any k.t k.t = z at HC ⊢
  have HB1 := Aside0.mk hB1
  have HR1 := Aside0.mk hR1
  have HD := Aside0.mk hD
  have OK := Aside0.mk ok
  clear hR hT hB1 hT1 hR1 hD ok
  go_enter Tryd.func38, Tryd.ntmps38
  go_upto_region 7 with (fail)
  go_region_held3 (fun w' => w'.cell? ⟨R, 5, none⟩ = some (.int .i64 k.t)) (first | exact ⟨j5⟩ | go_keep) (first | (go_at_call 34; refine HC.out.mono ?_; rintro e w2 ⟨rfl, hb2⟩; have hr2 := HR1.out.below (HD.out.trans (hb2.mono HD.out.size)); obtain ⟨j0, j1, j2, j3, j4, j5⟩ := hr2.cells))
  all_goals (go_upto_region 26 with (fail))
  all_goals (go_quiet (fail))
  all_goals go_wp2
  all_goals go_ret2
  all_goals exact ⟨rfl, HB1.out.trans ((pw_below_drewN (HD.out.trans (hb2.mono HD.out.size)) _).mono HB1.out.size)⟩
set_option maxRecDepth 100000 in
set_option maxHeartbeats 8000000 in
theorem within_0 (R : Nat) (k : Wk) (arg cnt : Int) (w : World) (ok : WOk k) (hR : WRow w R k) (hT : Tabs w) :
    Calls Tryd.prog 38 #[.pointer (some ⟨R, 0, none⟩), .agg #[.int .i32 48, .int .i32 arg, .int .i64 cnt]] w fun e w' => e = .returned (.tuple #[.int .i64 (k.f), .bool ((k.f) != k.a)]) ∧ Below w.heap.size w w' := by
  have hB1 := W1_below w 48 arg cnt
  have hR1 := hR.below hB1
  have hT1 := hT.below hB1 (Nat.le_refl _)
  have c10 : (W1 w 48 arg cnt).cell? ⟨w.heap.size, 0, none⟩ = some (.int .i32 48) := by rw [W1_c]; rfl
  obtain ⟨h0, h1, h2, h3, h4, h5⟩ := hR1.cells
  have hD : Below (W1 w 48 arg cnt).heap.size (W1 w 48 arg cnt) (W1 w 48 arg cnt).drew := (Below.refl _ _).drew
  have HB1 := Aside0.mk hB1
  have HR1 := Aside0.mk hR1
  have HD := Aside0.mk hD
  have OK := Aside0.mk ok
  clear hR hT hB1 hT1 hR1 hD ok
  go_enter Tryd.func38, Tryd.ntmps38
  go_upto_region 26 with (fail)
  go_quiet (fail)
  go_wp2
  go_ret2
  exact ⟨rfl, HB1.out.trans ((pw_below_drewN (Below.refl _ _) _).mono HB1.out.size)⟩
set_option maxRecDepth 100000 in
set_option maxHeartbeats 8000000 in
theorem within_c (R : Nat) (k : Wk) (arg cnt : Int) (w : World) (ok : WOk k) (hR : WRow w R k) (hT : Tabs w) :
    Calls Tryd.prog 38 #[.pointer (some ⟨R, 0, none⟩), .agg #[.int .i32 94, .int .i32 arg, .int .i64 cnt]] w fun e w' => e = .returned (.tuple #[.int .i64 (((firstZ k.s k.line : Nat) : Int)), .bool ((((firstZ k.s k.line : Nat) : Int)) != k.a)]) ∧ Below w.heap.size w w' := by
  have hB1 := W1_below w 94 arg cnt
  have hR1 := hR.below hB1
  have hT1 := hT.below hB1 (Nat.le_refl _)
  have c10 : (W1 w 94 arg cnt).cell? ⟨w.heap.size, 0, none⟩ = some (.int .i32 94) := by rw [W1_c]; rfl
  obtain ⟨h0, h1, h2, h3, h4, h5⟩ := hR1.cells
  have hD : Below (W1 w 94 arg cnt).heap.size (W1 w 94 arg cnt) (W1 w 94 arg cnt).drew := (Below.refl _ _).drew
  have HC := Aside0.mk (First_w k.s ok.hs k.line _ (hT1.below hD (Nat.le_refl _)))
  generalize ((firstZ k.s k.line : Nat) : Int) = z at HC ⊢
  have HB1 := Aside0.mk hB1
  have HR1 := Aside0.mk hR1
  have HD := Aside0.mk hD
  have OK := Aside0.mk ok
  clear hR hT hB1 hT1 hR1 hD ok
  go_enter Tryd.func38, Tryd.ntmps38
  go_upto_region 11 with (fail)
  go_region_held3 (fun w' => w'.cell? ⟨R, 0, none⟩ = some (.string k.s) ∧ w'.cell? ⟨R, 3, none⟩ = some (.int .i64 k.line)) (first | exact ⟨j0, j3⟩ | go_keep) (first | (go_at_call 28; refine HC.out.mono ?_; rintro e w2 ⟨rfl, hb2⟩; have hr2 := HR1.out.below (HD.out.trans (hb2.mono HD.out.size)); obtain ⟨j0, j1, j2, j3, j4, j5⟩ := hr2.cells))
  all_goals (go_upto_region 26 with (fail))
  all_goals (go_quiet (fail))
  all_goals go_wp2
  all_goals go_ret2
  all_goals exact ⟨rfl, HB1.out.trans ((pw_below_drewN (HD.out.trans (hb2.mono HD.out.size)) _).mono HB1.out.size)⟩
set_option maxRecDepth 100000 in
set_option maxHeartbeats 8000000 in
theorem within_w (R : Nat) (k : Wk) (arg cnt : Int) (w : World) (ok : WOk k) (hR : WRow w R k) (hT : Tabs w) :
    Calls Tryd.prog 38 #[.pointer (some ⟨R, 0, none⟩), .agg #[.int .i32 119, .int .i32 arg, .int .i64 cnt]] w fun e w' => e = .returned (.tuple #[.int .i64 ((dnZ k .beg (k.s.size : Int) (k.s.size : Int)).1), .bool (((dnZ k .beg (k.s.size : Int) (k.s.size : Int)).1) != k.a)]) ∧ Below w.heap.size w w' := by
  have hB1 := W1_below w 119 arg cnt
  have hR1 := hR.below hB1
  have hT1 := hT.below hB1 (Nat.le_refl _)
  have c10 : (W1 w 119 arg cnt).cell? ⟨w.heap.size, 0, none⟩ = some (.int .i32 119) := by rw [W1_c]; rfl
  obtain ⟨h0, h1, h2, h3, h4, h5⟩ := hR1.cells
  have hD : Below (W1 w 119 arg cnt).heap.size (W1 w 119 arg cnt) (W1 w 119 arg cnt).drew := (Below.refl _ _).drew
  have HC := Aside0.mk (down_w R k (k.s.size : Int) (k.s.size : Int) .beg _ _ ok.hs (hR1.below hD) (hT1.below hD (Nat.le_refl _)) rfl (Int.le_refl _) ok.hn ok.ha.1)
  generalize dnZ k .beg (k.s.size : Int) (k.s.size : Int) = z at HC ⊢
  have HB1 := Aside0.mk hB1
  have HR1 := Aside0.mk hR1
  have HD := Aside0.mk hD
  have OK := Aside0.mk ok
  clear hR hT hB1 hT1 hR1 hD ok
  go_enter Tryd.func38, Tryd.ntmps38
  go_upto_region 16 with (fail)
  go_region_held3 (fun w' => w'.cell? ⟨R, 0, none⟩ = some (.string k.s)) (first | exact ⟨j0⟩ | go_keep) (first | (go_at_call 34; refine HC.out.mono ?_; rintro e w2 ⟨rfl, hb2⟩; have hr2 := HR1.out.below (HD.out.trans (hb2.mono HD.out.size)); obtain ⟨j0, j1, j2, j3, j4, j5⟩ := hr2.cells))
  all_goals (go_upto_region 26 with (fail))
  all_goals (go_quiet (fail))
  all_goals go_wp2
  all_goals go_ret2
  all_goals exact ⟨rfl, HB1.out.trans ((pw_below_drewN (HD.out.trans (hb2.mono HD.out.size)) _).mono HB1.out.size)⟩
set_option maxRecDepth 100000 in
set_option maxHeartbeats 8000000 in
theorem within_b (R : Nat) (k : Wk) (arg cnt : Int) (w : World) (ok : WOk k) (hR : WRow w R k) (hT : Tabs w) :
    Calls Tryd.prog 38 #[.pointer (some ⟨R, 0, none⟩), .agg #[.int .i32 98, .int .i32 arg, .int .i64 cnt]] w fun e w' => e = .returned (.tuple #[.int .i64 ((upZ k .beg 0 0).1), .bool (((upZ k .beg 0 0).1) != k.a)]) ∧ Below w.heap.size w w' := by
  have hB1 := W1_below w 98 arg cnt
  have hR1 := hR.below hB1
  have hT1 := hT.below hB1 (Nat.le_refl _)
  have c10 : (W1 w 98 arg cnt).cell? ⟨w.heap.size, 0, none⟩ = some (.int .i32 98) := by rw [W1_c]; rfl
  obtain ⟨h0, h1, h2, h3, h4, h5⟩ := hR1.cells
  have hD : Below (W1 w 98 arg cnt).heap.size (W1 w 98 arg cnt) (W1 w 98 arg cnt).drew := (Below.refl _ _).drew
  have HC := Aside0.mk (up_w R k 0 0 .beg _ _ ok.hs hR1 hT1 rfl (Int.le_refl _) ok.hn ok.ha)
  generalize upZ k .beg 0 0 = z at HC ⊢
  have HB1 := Aside0.mk hB1
  have HR1 := Aside0.mk hR1
  have HD := Aside0.mk hD
  have OK := Aside0.mk ok
  clear hR hT hB1 hT1 hR1 hD ok
  go_enter Tryd.func38, Tryd.ntmps38
  go_upto_region 26 with (go_at_call 71; refine HC.out.mono ?_; rintro e w2 ⟨rfl, hb2⟩; have hr2 := HR1.out.below hb2; obtain ⟨j0, j1, j2, j3, j4, j5⟩ := hr2.cells)
  go_quiet (fail)
  go_wp2
  go_ret2
  exact ⟨rfl, HB1.out.trans ((pw_below_drewN hb2 _).mono HB1.out.size)⟩
set_option maxRecDepth 100000 in
set_option maxHeartbeats 8000000 in
theorem within_p (R : Nat) (k : Wk) (arg cnt : Int) (w : World) (ok : WOk k) (hR : WRow w R k) (hT : Tabs w) :
    Calls Tryd.prog 38 #[.pointer (some ⟨R, 0, none⟩), .agg #[.int .i32 125, .int .i32 arg, .int .i64 cnt]] w fun e w' => e = .returned (.tuple #[.int .i64 (parZ k 1), .bool ((parZ k 1) != k.a)]) ∧ Below w.heap.size w w' := by
  have hB1 := W1_below w 125 arg cnt
  have hR1 := hR.below hB1
  have hT1 := hT.below hB1 (Nat.le_refl _)
  have c10 : (W1 w 125 arg cnt).cell? ⟨w.heap.size, 0, none⟩ = some (.int .i32 125) := by rw [W1_c]; rfl
  obtain ⟨h0, h1, h2, h3, h4, h5⟩ := hR1.cells
  have hD : Below (W1 w 125 arg cnt).heap.size (W1 w 125 arg cnt) (W1 w 125 arg cnt).drew := (Below.refl _ _).drew
  have HC := Aside0.mk (paragraph_w R k 1 _ ok.hs hR1 hT1 (.inl rfl) ok.hn ok.hl)
  generalize parZ k 1 = z at HC ⊢
  have HB1 := Aside0.mk hB1
  have HR1 := Aside0.mk hR1
  have HD := Aside0.mk hD
  have OK := Aside0.mk ok
  clear hR hT hB1 hT1 hR1 hD ok
  go_enter Tryd.func38, Tryd.ntmps38
  go_upto_region 26 with (go_at_call 74; refine HC.out.mono ?_; rintro e w2 ⟨rfl, hb2⟩; have hr2 := HR1.out.below hb2; obtain ⟨j0, j1, j2, j3, j4, j5⟩ := hr2.cells)
  go_quiet (fail)
  go_wp2
  go_ret2
  exact ⟨rfl, HB1.out.trans ((pw_below_drewN hb2 _).mono HB1.out.size)⟩
set_option maxRecDepth 100000 in
set_option maxHeartbeats 8000000 in
theorem within_q (R : Nat) (k : Wk) (arg cnt : Int) (w : World) (ok : WOk k) (hR : WRow w R k) (hT : Tabs w) :
    Calls Tryd.prog 38 #[.pointer (some ⟨R, 0, none⟩), .agg #[.int .i32 123, .int .i32 arg, .int .i64 cnt]] w fun e w' => e = .returned (.tuple #[.int .i64 (parZ k (-1)), .bool ((parZ k (-1)) != k.a)]) ∧ Below w.heap.size w w' := by
  have hB1 := W1_below w 123 arg cnt
  have hR1 := hR.below hB1
  have hT1 := hT.below hB1 (Nat.le_refl _)
  have c10 : (W1 w 123 arg cnt).cell? ⟨w.heap.size, 0, none⟩ = some (.int .i32 123) := by rw [W1_c]; rfl
  obtain ⟨h0, h1, h2, h3, h4, h5⟩ := hR1.cells
  have hD : Below (W1 w 123 arg cnt).heap.size (W1 w 123 arg cnt) (W1 w 123 arg cnt).drew := (Below.refl _ _).drew
  have HC := Aside0.mk (paragraph_w R k (-1) _ ok.hs hR1 hT1 (.inr rfl) ok.hn ok.hl)
  generalize parZ k (-1) = z at HC ⊢
  have HB1 := Aside0.mk hB1
  have HR1 := Aside0.mk hR1
  have HD := Aside0.mk hD
  have OK := Aside0.mk ok
  clear hR hT hB1 hT1 hR1 hD ok
  go_enter Tryd.func38, Tryd.ntmps38
  go_upto_region 26 with (go_at_call 74; refine HC.out.mono ?_; rintro e w2 ⟨rfl, hb2⟩; have hr2 := HR1.out.below hb2; obtain ⟨j0, j1, j2, j3, j4, j5⟩ := hr2.cells)
  go_quiet (fail)
  go_wp2
  go_ret2
  exact ⟨rfl, HB1.out.trans ((pw_below_drewN hb2 _).mono HB1.out.size)⟩

end Go.Proofs.YtpajakfmahfpkaaDoor.Ext
