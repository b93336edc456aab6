-- Written by this session's program (wip/xprint.py) with the kit's print, for this claim.
import Derived.Test.YtngfmhbhdpeedaaXGateLowerx0
import Derived.Test.YtngfmhbhdpeedaaXGateLowerx2
import Derived.Test.YtngfmhbhdpeedaaXGateLowerx3
namespace Go.Proofs.Ytngfmhbhdpeedaa.XGateLower
open Go.RowKit Go.Proofs.YtngfmhbhdpeedaaW.PrintWords Go.Proofs.YtngfmhbhdpeedaaW.PrintLast Go.Proofs.YtngfmhbhdpeedaaW.PrintMore Go.Proofs.Ytngfmhbhdpeedaa.Ext
attribute [local go_sem] max2_int min2_int max_two min_two max_three min_three max_four min_four   -- for this text's walks alone
set_option linter.unusedVariables false
set_option linter.unusedSimpArgs false

/-! ### bureaulaw20_GateLower: function 4 -/
mutual
def bureaulaw20_GateLower.j0 : Nat → Int → Bool → Bool → Bool → Int → Int → Int → Int → Int → Int → Bool → Bool → Int → Int → Int → Int → Int → Int → Option (Bool)
  | 0, _, _, _, _, _, _, _, _, _, _, _, _, _, _, _, _, _, _ => none
  | k + 1, x2, x36, x119000, x119001, x119002, x119003, x119004, x119005, x119006, x119007, x122000, x122001, x122002, x122003, x122004, x122005, x122006, x122007 => if x36 = true then (bureaulaw20_GateLower.j1 k x119000 x119001 x119002 x119003 x119004 x119005 x119006 x119007 x122000 x122001 x122002 x122003 x122004 x122005 x122006 (Go.bits .or .i64 x119007 (wrap64 (Int.tmod x2 16)))) else (bureaulaw20_GateLower.j1 k x119000 x119001 x119002 x119003 x119004 x119005 x119006 x119007 x122000 x122001 x122002 x122003 x122004 x122005 x122006 x122007)
def bureaulaw20_GateLower.j1 : Nat → Bool → Bool → Int → Int → Int → Int → Int → Int → Bool → Bool → Int → Int → Int → Int → Int → Int → Option (Bool)
  | 0, _, _, _, _, _, _, _, _, _, _, _, _, _, _, _, _ => none
  | k + 1, x119000, x119001, x119002, x119003, x119004, x119005, x119006, x119007, x122000, x122001, x122002, x122003, x122004, x122005, x122006, x122007 => (bureaulaw20_theirs.f x119000 x119001 x119002 x119003 x119004 x119005 x119006 x119007).bind fun bt122 => ((gate_Decide.f k bt122.1 bt122.2.1 bt122.2.2.1 bt122.2.2.2.1 bt122.2.2.2.2.1 bt122.2.2.2.2.2.1 bt122.2.2.2.2.2.2.1 bt122.2.2.2.2.2.2.2).bind fun t130 => (if t130 = 0 then ((bureaulaw20_theirs.f x122000 x122001 x122002 x122003 x122004 x122005 x122006 x122007).bind fun bt131 => ((gate_Decide.f k bt131.1 bt131.2.1 bt131.2.2.1 bt131.2.2.2.1 bt131.2.2.2.2.1 bt131.2.2.2.2.2.1 bt131.2.2.2.2.2.2.1 bt131.2.2.2.2.2.2.2).bind fun t139 => (some (t139 == 0)))) else (some true)))
end
def bureaulaw20_GateLower.f (k : Nat) (a0_0 : Bool) (a0_1 : Bool) (a0_2 : Int) (a0_3 : Int) (a0_4 : Int) (a0_5 : Int) (a0_6 : Int) (a0_7 : Int) (a1_0 : Int) (a1_1 : Int) (a2 : Int) : Option (Bool) := (bureaulaw20_alive.f k).bind fun t120 => (if t120 = true then (if a0_7 ≥ 0 then (bureaulaw20_GateLower.j0 k a2 (decide (a0_7 ≤ 15)) a0_0 a0_1 a0_2 a0_3 a0_4 a0_5 a0_6 a0_7 a0_0 a0_1 (Go.bits .and .u64 a0_2 a1_0) (Go.bits .or .u64 a0_3 a1_0) (Go.bits .and .u64 a0_4 a1_1) a0_5 a0_6 a0_7) else (bureaulaw20_GateLower.j0 k a2 false a0_0 a0_1 a0_2 a0_3 a0_4 a0_5 a0_6 a0_7 a0_0 a0_1 (Go.bits .and .u64 a0_2 a1_0) (Go.bits .or .u64 a0_3 a1_0) (Go.bits .and .u64 a0_4 a1_1) a0_5 a0_6 a0_7)) else (some false))
theorem bureaulaw20_GateLower.mono_l : ∀ k, (∀ y0 y1 y2 y3 y4 y5 y6 y7 y8 y9 y10 y11 y12 y13 y14 y15 y16 y17, LeO (bureaulaw20_GateLower.j0 k y0 y1 y2 y3 y4 y5 y6 y7 y8 y9 y10 y11 y12 y13 y14 y15 y16 y17) (bureaulaw20_GateLower.j0 (k + 1) y0 y1 y2 y3 y4 y5 y6 y7 y8 y9 y10 y11 y12 y13 y14 y15 y16 y17)) ∧ (∀ y0 y1 y2 y3 y4 y5 y6 y7 y8 y9 y10 y11 y12 y13 y14 y15, LeO (bureaulaw20_GateLower.j1 k y0 y1 y2 y3 y4 y5 y6 y7 y8 y9 y10 y11 y12 y13 y14 y15) (bureaulaw20_GateLower.j1 (k + 1) y0 y1 y2 y3 y4 y5 y6 y7 y8 y9 y10 y11 y12 y13 y14 y15))
  | 0 => ⟨fun _ _ _ _ _ _ _ _ _ _ _ _ _ _ _ _ _ _ r h => by simp [bureaulaw20_GateLower.j0] at h, fun _ _ _ _ _ _ _ _ _ _ _ _ _ _ _ _ r h => by simp [bureaulaw20_GateLower.j1] at h⟩
  | k + 1 => by
    obtain ⟨ih0, ih1⟩ := bureaulaw20_GateLower.mono_l k
    refine ⟨?_, ?_⟩
    · intro y0 y1 y2 y3 y4 y5 y6 y7 y8 y9 y10 y11 y12 y13 y14 y15 y16 y17
      unfold bureaulaw20_GateLower.j0
      repeat' first
      | (with_reducible exact ih0 _ _ _ _ _ _ _ _ _ _ _ _ _ _ _ _ _ _)
      | (with_reducible exact ih1 _ _ _ _ _ _ _ _ _ _ _ _ _ _ _ _)
      | (with_reducible exact bureaulaw20_alive.mono _)
      | (with_reducible exact gate_Decide.mono _ _ _ _ _ _ _ _ _)
      | (with_reducible exact LeO.refl _)
      | (with_reducible exact LeO.none _)
      | (with_reducible refine LeO.ite ?_ ?_)
      | (with_reducible refine LeO.bind ?_ (fun _ => ?_))
      | exact ih0 _ _ _ _ _ _ _ _ _ _ _ _ _ _ _ _ _ _
      | exact ih1 _ _ _ _ _ _ _ _ _ _ _ _ _ _ _ _
      | exact bureaulaw20_alive.mono _
      | exact gate_Decide.mono _ _ _ _ _ _ _ _ _
      | exact LeO.none _
      | refine LeO.ite ?_ ?_
      | refine LeO.bind ?_ (fun _ => ?_)
    · intro y0 y1 y2 y3 y4 y5 y6 y7 y8 y9 y10 y11 y12 y13 y14 y15
      unfold bureaulaw20_GateLower.j1
      repeat' first
      | (with_reducible exact ih0 _ _ _ _ _ _ _ _ _ _ _ _ _ _ _ _ _ _)
      | (with_reducible exact ih1 _ _ _ _ _ _ _ _ _ _ _ _ _ _ _ _)
      | (with_reducible exact bureaulaw20_alive.mono _)
      | (with_reducible exact gate_Decide.mono _ _ _ _ _ _ _ _ _)
      | (with_reducible exact LeO.refl _)
      | (with_reducible exact LeO.none _)
      | (with_reducible refine LeO.ite ?_ ?_)
      | (with_reducible refine LeO.bind ?_ (fun _ => ?_))
      | exact ih0 _ _ _ _ _ _ _ _ _ _ _ _ _ _ _ _ _ _
      | exact ih1 _ _ _ _ _ _ _ _ _ _ _ _ _ _ _ _
      | exact bureaulaw20_alive.mono _
      | exact gate_Decide.mono _ _ _ _ _ _ _ _ _
      | exact LeO.none _
      | refine LeO.ite ?_ ?_
      | refine LeO.bind ?_ (fun _ => ?_)
theorem bureaulaw20_GateLower.mono : ∀ a0 a1 a2 a3 a4 a5 a6 a7 a8 a9 a10 k, LeO (bureaulaw20_GateLower.f k a0 a1 a2 a3 a4 a5 a6 a7 a8 a9 a10) (bureaulaw20_GateLower.f (k + 1) a0 a1 a2 a3 a4 a5 a6 a7 a8 a9 a10) := by
  intro a0 a1 a2 a3 a4 a5 a6 a7 a8 a9 a10 k
  obtain ⟨ih0, ih1⟩ := bureaulaw20_GateLower.mono_l k
  unfold bureaulaw20_GateLower.f
  repeat' first
      | (with_reducible exact ih0 _ _ _ _ _ _ _ _ _ _ _ _ _ _ _ _ _ _)
      | (with_reducible exact ih1 _ _ _ _ _ _ _ _ _ _ _ _ _ _ _ _)
      | (with_reducible exact bureaulaw20_alive.mono _)
      | (with_reducible exact gate_Decide.mono _ _ _ _ _ _ _ _ _)
      | (with_reducible exact LeO.refl _)
      | (with_reducible exact LeO.none _)
      | (with_reducible refine LeO.ite ?_ ?_)
      | (with_reducible refine LeO.bind ?_ (fun _ => ?_))
      | exact ih0 _ _ _ _ _ _ _ _ _ _ _ _ _ _ _ _ _ _
      | exact ih1 _ _ _ _ _ _ _ _ _ _ _ _ _ _ _ _
      | exact bureaulaw20_alive.mono _
      | exact gate_Decide.mono _ _ _ _ _ _ _ _ _
      | exact LeO.none _
      | refine LeO.ite ?_ ?_
      | refine LeO.bind ?_ (fun _ => ?_)
def bureaulaw20_GateLower.T4 : Bool × List (List Nat × List Nat) := (true, [([], []), ([0], [0]), ([], []), ([2], [2]), ([1, 3], [1, 3]), ([], []), ([5], [5]), ([], []), ([7], [7]), ([6, 8], [6, 8]), ([], []), ([10], [10]), ([], []), ([12], [12]), ([11, 13], [11, 13]), ([0, 1, 2, 3, 4], []), ([15, 4, 0, 1, 2, 3, 4], [4, 15]), ([0, 1, 2, 3, 4, 5, 6, 7, 8, 9, 15, 16], []), ([17, 9, 16, 0, 1, 2, 3, 4, 5, 6, 7, 8, 9, 15, 16], [9, 17]), ([0, 1, 2, 3, 4, 5, 6, 7, 8, 9, 10, 11, 12, 13, 14, 15, 16, 17, 18], []), ([19, 14, 18, 0, 1, 2, 3, 4, 5, 6, 7, 8, 9, 10, 11, 12, 13, 14, 15, 16, 17, 18], [14, 19])])
def bureaulaw20_GateLower.B4 : List Nat := [0, 1, 0, 4, 15, 0, 32, 0, 128, 480, 0, 1024, 0, 4096, 15360, 31, 32799, 99327, 230399, 524287, 1048575]
theorem bureaulaw20_GateLower.tab4 : rtab .any (opsOf Try.f4 4) = bureaulaw20_GateLower.T4 := by kernel_rfl
theorem bureaulaw20_GateLower.bits4 : waitsOk bureaulaw20_GateLower.T4.2 bureaulaw20_GateLower.B4 = true := by kernel_rfl
set_option maxHeartbeats 8000000 in
set_option maxRecDepth 100000 in
theorem bureaulaw20_GateLower.calls (k : Nat) (a0_0 : Bool) (a0_1 : Bool) (a0_2 : Int) (a0_3 : Int) (a0_4 : Int) (a0_5 : Int) (a0_6 : Int) (a0_7 : Int) (a1_0 : Int) (a1_1 : Int) (a2 : Int) (r : Bool) (w : World) (h : bureaulaw20_GateLower.f k a0_0 a0_1 a0_2 a0_3 a0_4 a0_5 a0_6 a0_7 a1_0 a1_1 a2 = some r) :
    Calls Try.prog 4 #[.agg #[.bool a0_0, .bool a0_1, .int .u64 a0_2, .int .u64 a0_3, .int .u64 a0_4, .int .u64 a0_5, .int .i64 a0_6, .int .i64 a0_7], .agg #[.int .u64 a1_0, .int .u64 a1_1], .int .u8 a2] w fun e w' => e = .returned (.bool r) ∧ Below w.heap.size w w' := by
  have hu25 := Try.underlying25
  have hu35 := Try.underlying35
  have HB := Aside0.mk (Below.refl w.heap.size w)
  have H : ((bureaulaw20_alive.f k).bind fun t120 => (if t120 = true then (if a0_7 ≥ 0 then (bureaulaw20_GateLower.j0 k a2 (decide (a0_7 ≤ 15)) a0_0 a0_1 a0_2 a0_3 a0_4 a0_5 a0_6 a0_7 a0_0 a0_1 (Go.bits .and .u64 a0_2 a1_0) (Go.bits .or .u64 a0_3 a1_0) (Go.bits .and .u64 a0_4 a1_1) a0_5 a0_6 a0_7) else (bureaulaw20_GateLower.j0 k a2 false a0_0 a0_1 a0_2 a0_3 a0_4 a0_5 a0_6 a0_7 a0_0 a0_1 (Go.bits .and .u64 a0_2 a1_0) (Go.bits .or .u64 a0_3 a1_0) (Go.bits .and .u64 a0_4 a1_1) a0_5 a0_6 a0_7)) else (some false))) = some r := h
  clear h
  replace H := Option.bind_eq_some_iff.mp H
  obtain ⟨t120, A40, H⟩ := H
  replace H : (if t120 = true then (if a0_7 ≥ 0 then (bureaulaw20_GateLower.j0 k a2 (decide (a0_7 ≤ 15)) a0_0 a0_1 a0_2 a0_3 a0_4 a0_5 a0_6 a0_7 a0_0 a0_1 (Go.bits .and .u64 a0_2 a1_0) (Go.bits .or .u64 a0_3 a1_0) (Go.bits .and .u64 a0_4 a1_1) a0_5 a0_6 a0_7) else (bureaulaw20_GateLower.j0 k a2 false a0_0 a0_1 a0_2 a0_3 a0_4 a0_5 a0_6 a0_7 a0_0 a0_1 (Go.bits .and .u64 a0_2 a1_0) (Go.bits .or .u64 a0_3 a1_0) (Go.bits .and .u64 a0_4 a1_1) a0_5 a0_6 a0_7)) else (some false)) = some r := H
  have A4 := Aside0.mk A40
  clear A40
  by_cases c5 : t120 = true
  · subst c5
    have H1 : (if a0_7 ≥ 0 then (bureaulaw20_GateLower.j0 k a2 (decide (a0_7 ≤ 15)) a0_0 a0_1 a0_2 a0_3 a0_4 a0_5 a0_6 a0_7 a0_0 a0_1 (Go.bits .and .u64 a0_2 a1_0) (Go.bits .or .u64 a0_3 a1_0) (Go.bits .and .u64 a0_4 a1_1) a0_5 a0_6 a0_7) else (bureaulaw20_GateLower.j0 k a2 false a0_0 a0_1 a0_2 a0_3 a0_4 a0_5 a0_6 a0_7 a0_0 a0_1 (Go.bits .and .u64 a0_2 a1_0) (Go.bits .or .u64 a0_3 a1_0) (Go.bits .and .u64 a0_4 a1_1) a0_5 a0_6 a0_7)) = some r := by rw [if_pos rfl] at H; exact H
    clear H
    have H := H1
    clear H1
    have HC6 := Aside0.mk H
    clear H
    go_enter Try.func4, Try.ntmps4
    try go_wp2_with (first | ((with_reducible refine gate_dst (N := 3) rfl ?_); refine box_event ?hg (N := 3) ?hd (cs := #[.bool a0_0, .bool a0_1, .int .u64 a0_2, .int .u64 a0_3, .int .u64 a0_4, .int .u64 a0_5, .int .i64 a0_6, .int .i64 a0_7]) (t := 25) ?hr ?_; (case hd => rfl); (case hg => rfl); (case hr => first | (go_simp; done) | (go_simp; rfl)); intro gb118 hg w7 hbox hb; have n0_ := Aside0.mk (below_step (by repeat (first | (with_reducible first | exact HB.out | apply below_alloc | apply pw_below_drewN | apply below_drew1) | exact HB.out)) hb); have n1_ := Aside0.mk (hbox); have n2_ := Aside0.mk ((by rw [hg]; exact (below_size (by repeat (first | (with_reducible first | exact HB.out | apply below_alloc | apply pw_below_drewN | apply below_drew1) | exact HB.out))) : w.heap.size ≤ gb118)); have n3_ := Aside0.mk ((by rw [hg]; exact (below_size (by repeat (first | (with_reducible first | exact HB.out | apply below_alloc | apply pw_below_drewN | apply below_drew1) | exact HB.out))) : w.heap.size ≤ gb118)); clear HB; have HB := n0_; have BK118 := n1_; have GW118 := n2_; have GE118 := n3_; clear n0_ n1_ n2_ n3_; clear hb hbox hg) | ((with_reducible refine gate_dst (N := 4) rfl ?_); refine box_event ?hg (N := 4) ?hd (cs := #[.int .u64 a1_0, .int .u64 a1_1]) (t := 35) ?hr ?_; (case hd => rfl); (case hg => rfl); (case hr => first | (go_simp; done) | (go_simp; rfl)); intro gb119 hg w8 hbox hb; have n0_ := Aside0.mk (blk_below (g := gb118) (o := .cells #[.bool a0_0, .bool a0_1, .int .u64 a0_2, .int .u64 a0_3, .int .u64 a0_4, .int .u64 a0_5, .int .i64 a0_6, .int .i64 a0_7] 25 (0, 0)) (by (with_reducible repeat (first | refine blk_drewN ?_ _ | refine blk_drew ?_ | refine blk_alloc ?_ _)); exact BK118.out) hb); have n1_ := Aside0.mk (below_step (by repeat (first | (with_reducible first | exact HB.out | apply below_alloc | apply pw_below_drewN | apply below_drew1 | refine below_set ?_ GE118.out) | exact HB.out)) hb); have n2_ := Aside0.mk (hbox); have n3_ := Aside0.mk ((by rw [hg]; exact (below_size (by repeat (first | (with_reducible first | exact HB.out | apply below_alloc | apply pw_below_drewN | apply below_drew1 | refine below_set ?_ GE118.out) | exact HB.out))) : w.heap.size ≤ gb119)); have n4_ := Aside0.mk ((by rw [hg]; exact (below_size (by repeat (first | (with_reducible first | exact HB.out | apply below_alloc | apply pw_below_drewN | apply below_drew1 | refine below_set ?_ GE118.out) | exact HB.out))) : w.heap.size ≤ gb119)); have n5_ := Aside0.mk ((by rw [hg]; exact Nat.ne_of_lt (blk_lt (g := gb118) (o := .cells #[.bool a0_0, .bool a0_1, .int .u64 a0_2, .int .u64 a0_3, .int .u64 a0_4, .int .u64 a0_5, .int .i64 a0_6, .int .i64 a0_7] 25 (0, 0)) (by (with_reducible repeat (first | refine blk_drewN ?_ _ | refine blk_drew ?_ | refine blk_alloc ?_ _)); exact BK118.out)) : gb118 ≠ gb119)); have n6_ := Aside0.mk ((by rw [hg]; exact Nat.ne_of_gt (blk_lt (g := gb118) (o := .cells #[.bool a0_0, .bool a0_1, .int .u64 a0_2, .int .u64 a0_3, .int .u64 a0_4, .int .u64 a0_5, .int .i64 a0_6, .int .i64 a0_7] 25 (0, 0)) (by (with_reducible repeat (first | refine blk_drewN ?_ _ | refine blk_drew ?_ | refine blk_alloc ?_ _)); exact BK118.out)) : gb119 ≠ gb118)); clear BK118; clear HB; have BK118 := n0_; have HB := n1_; have BK119 := n2_; have GW119 := n3_; have GE119 := n4_; have NB118_119 := n5_; have NB119_118 := n6_; clear n0_ n1_ n2_ n3_ n4_ n5_ n6_; clear hb hbox hg) | ((with_reducible refine gate_callee (f := 7) rfl ?_); refine goesL_ (some 8) rfl rfl Try.func7 (by kernel_rfl) rfl #[] rfl (by (try simp only [List.map_toArray, List.map_cons, List.map_nil]); first | done | rfl | (simp only [List.length_drop, List.length_take]; rfl)) ?_; (with_reducible refine (bureaulaw20_alive.calls k  true _ A4.out).mono ?_); rintro e w9 ⟨rfl, hb⟩; refine ⟨_, rfl, ?_⟩; have n0_ := Aside0.mk (blk_below (g := gb118) (o := .cells #[.bool a0_0, .bool a0_1, .int .u64 a0_2, .int .u64 a0_3, .int .u64 a0_4, .int .u64 a0_5, .int .i64 a0_6, .int .i64 a0_7] 25 (0, 0)) (by (with_reducible repeat (first | refine blk_drewN ?_ _ | refine blk_drew ?_ | refine blk_alloc ?_ _)); exact BK118.out) hb); have n1_ := Aside0.mk (blk_below (g := gb119) (o := .cells #[.int .u64 a1_0, .int .u64 a1_1] 35 (0, 0)) (by (with_reducible repeat (first | refine blk_drewN ?_ _ | refine blk_drew ?_ | refine blk_alloc ?_ _)); exact BK119.out) hb); have n2_ := Aside0.mk (below_step (by repeat (first | (with_reducible first | exact HB.out | apply below_alloc | apply pw_below_drewN | apply below_drew1 | refine below_set ?_ GE118.out | refine below_set ?_ GE119.out) | exact HB.out)) hb); clear BK118; clear BK119; clear HB; have BK118 := n0_; have BK119 := n1_; have HB := n2_; clear n0_ n1_ n2_; (try clear hb); (try clear hb2); (try clear hk); (try clear hi); have hnb10 := NB118_119.out; have hnc10 := NB119_118.out; have hcz11_0 : w9.cell? ⟨gb118, 0, none⟩ = some (.bool a0_0) := (blk_cell BK118.out 0).trans rfl; have hcz11_1 : w9.cell? ⟨gb118, 1, none⟩ = some (.bool a0_1) := (blk_cell BK118.out 1).trans rfl; have hcz11_2 : w9.cell? ⟨gb118, 2, none⟩ = some (.int .u64 a0_2) := (blk_cell BK118.out 2).trans rfl; have hcz11_3 : w9.cell? ⟨gb118, 3, none⟩ = some (.int .u64 a0_3) := (blk_cell BK118.out 3).trans rfl; have hcz11_4 : w9.cell? ⟨gb118, 4, none⟩ = some (.int .u64 a0_4) := (blk_cell BK118.out 4).trans rfl; have hcz11_5 : w9.cell? ⟨gb118, 5, none⟩ = some (.int .u64 a0_5) := (blk_cell BK118.out 5).trans rfl; have hcz11_6 : w9.cell? ⟨gb118, 6, none⟩ = some (.int .i64 a0_6) := (blk_cell BK118.out 6).trans rfl; have hcz11_7 : w9.cell? ⟨gb118, 7, none⟩ = some (.int .i64 a0_7) := (blk_cell BK118.out 7).trans rfl; have hfz11_0 := blk_frozen BK118.out 0; have hfz11_1 := blk_frozen BK118.out 1; have hfz11_2 := blk_frozen BK118.out 2; have hfz11_3 := blk_frozen BK118.out 3; have hfz11_4 := blk_frozen BK118.out 4; have hfz11_5 := blk_frozen BK118.out 5; have hfz11_6 := blk_frozen BK118.out 6; have hfz11_7 := blk_frozen BK118.out 7) | ((with_reducible refine gate_dst (N := 7) rfl ?_); refine box_event ?hg (N := 7) ?hd (cs := #[.bool false, .bool false, .int .u64 0, .int .u64 0, .int .u64 0, .int .u64 0, .int .i64 0, .int .i64 0]) (t := 25) ?hr ?_; (case hd => rfl); (case hg => rfl); (case hr => first | (go_simp; done) | (go_simp; rfl)); intro gb121 hg w12 hbox hb; have n0_ := Aside0.mk (blk_below (g := gb118) (o := .cells #[.bool a0_0, .bool a0_1, .int .u64 a0_2, .int .u64 a0_3, .int .u64 a0_4, .int .u64 a0_5, .int .i64 a0_6, .int .i64 a0_7] 25 (0, 0)) (by (with_reducible repeat (first | refine blk_drewN ?_ _ | refine blk_drew ?_ | refine blk_alloc ?_ _)); exact BK118.out) hb); have n1_ := Aside0.mk (blk_below (g := gb119) (o := .cells #[.int .u64 a1_0, .int .u64 a1_1] 35 (0, 0)) (by (with_reducible repeat (first | refine blk_drewN ?_ _ | refine blk_drew ?_ | refine blk_alloc ?_ _)); exact BK119.out) hb); have n2_ := Aside0.mk (below_step (by repeat (first | (with_reducible first | exact HB.out | apply below_alloc | apply pw_below_drewN | apply below_drew1 | refine below_set ?_ GE118.out | refine below_set ?_ GE119.out) | exact HB.out)) hb); have n3_ := Aside0.mk (hbox); have n4_ := Aside0.mk ((by rw [hg]; exact (below_size (by repeat (first | (with_reducible first | exact HB.out | apply below_alloc | apply pw_below_drewN | apply below_drew1 | refine below_set ?_ GE118.out | refine below_set ?_ GE119.out) | exact HB.out))) : w.heap.size ≤ gb121)); have n5_ := Aside0.mk ((by rw [hg]; exact (below_size (by repeat (first | (with_reducible first | exact HB.out | apply below_alloc | apply pw_below_drewN | apply below_drew1 | refine below_set ?_ GE118.out | refine below_set ?_ GE119.out) | exact HB.out))) : w.heap.size ≤ gb121)); have n6_ := Aside0.mk ((by rw [hg]; exact Nat.ne_of_lt (blk_lt (g := gb118) (o := .cells #[.bool a0_0, .bool a0_1, .int .u64 a0_2, .int .u64 a0_3, .int .u64 a0_4, .int .u64 a0_5, .int .i64 a0_6, .int .i64 a0_7] 25 (0, 0)) (by (with_reducible repeat (first | refine blk_drewN ?_ _ | refine blk_drew ?_ | refine blk_alloc ?_ _)); exact BK118.out)) : gb118 ≠ gb121)); have n7_ := Aside0.mk ((by rw [hg]; exact Nat.ne_of_gt (blk_lt (g := gb118) (o := .cells #[.bool a0_0, .bool a0_1, .int .u64 a0_2, .int .u64 a0_3, .int .u64 a0_4, .int .u64 a0_5, .int .i64 a0_6, .int .i64 a0_7] 25 (0, 0)) (by (with_reducible repeat (first | refine blk_drewN ?_ _ | refine blk_drew ?_ | refine blk_alloc ?_ _)); exact BK118.out)) : gb121 ≠ gb118)); have n8_ := Aside0.mk ((by rw [hg]; exact Nat.ne_of_lt (blk_lt (g := gb119) (o := .cells #[.int .u64 a1_0, .int .u64 a1_1] 35 (0, 0)) (by (with_reducible repeat (first | refine blk_drewN ?_ _ | refine blk_drew ?_ | refine blk_alloc ?_ _)); exact BK119.out)) : gb119 ≠ gb121)); have n9_ := Aside0.mk ((by rw [hg]; exact Nat.ne_of_gt (blk_lt (g := gb119) (o := .cells #[.int .u64 a1_0, .int .u64 a1_1] 35 (0, 0)) (by (with_reducible repeat (first | refine blk_drewN ?_ _ | refine blk_drew ?_ | refine blk_alloc ?_ _)); exact BK119.out)) : gb121 ≠ gb119)); clear BK118; clear BK119; clear HB; have BK118 := n0_; have BK119 := n1_; have HB := n2_; have BK121 := n3_; have GW121 := n4_; have GE121 := n5_; have NB118_121 := n6_; have NB121_118 := n7_; have NB119_121 := n8_; have NB121_119 := n9_; clear n0_ n1_ n2_ n3_ n4_ n5_ n6_ n7_ n8_ n9_; clear hb hbox hg; have hnb13 := NB121_118.out; have hnc13 := NB118_121.out; have hnb14 := NB121_119.out; have hnc14 := NB119_121.out; have hcz15_0 : w12.cell? ⟨gb121, 0, none⟩ = some (.bool false) := (blk_cell BK121.out 0).trans rfl; have hcz15_1 : w12.cell? ⟨gb121, 1, none⟩ = some (.bool false) := (blk_cell BK121.out 1).trans rfl; have hcz15_2 : w12.cell? ⟨gb121, 2, none⟩ = some (.int .u64 0) := (blk_cell BK121.out 2).trans rfl; have hcz15_3 : w12.cell? ⟨gb121, 3, none⟩ = some (.int .u64 0) := (blk_cell BK121.out 3).trans rfl; have hcz15_4 : w12.cell? ⟨gb121, 4, none⟩ = some (.int .u64 0) := (blk_cell BK121.out 4).trans rfl; have hcz15_5 : w12.cell? ⟨gb121, 5, none⟩ = some (.int .u64 0) := (blk_cell BK121.out 5).trans rfl; have hcz15_6 : w12.cell? ⟨gb121, 6, none⟩ = some (.int .i64 0) := (blk_cell BK121.out 6).trans rfl; have hcz15_7 : w12.cell? ⟨gb121, 7, none⟩ = some (.int .i64 0) := (blk_cell BK121.out 7).trans rfl; have hfz15_0 := blk_frozen BK121.out 0; have hfz15_1 := blk_frozen BK121.out 1; have hfz15_2 := blk_frozen BK121.out 2; have hfz15_3 := blk_frozen BK121.out 3; have hfz15_4 := blk_frozen BK121.out 4; have hfz15_5 := blk_frozen BK121.out 5; have hfz15_6 := blk_frozen BK121.out 6; have hfz15_7 := blk_frozen BK121.out 7))
    have n0_ : Aside0 (((((((((w12.setCell ⟨gb121, 0, none⟩ (.bool a0_0)).setCell ⟨gb121, 1, none⟩ (.bool a0_1)).setCell ⟨gb121, 2, none⟩ (.int .u64 a0_2)).setCell ⟨gb121, 3, none⟩ (.int .u64 a0_3)).setCell ⟨gb121, 4, none⟩ (.int .u64 a0_4)).setCell ⟨gb121, 5, none⟩ (.int .u64 a0_5)).setCell ⟨gb121, 6, none⟩ (.int .i64 a0_6)).setCell ⟨gb121, 7, none⟩ (.int .i64 a0_7)).heap[gb118]? = some (.cells #[.bool a0_0, .bool a0_1, .int .u64 a0_2, .int .u64 a0_3, .int .u64 a0_4, .int .u64 a0_5, .int .i64 a0_6, .int .i64 a0_7] 25 (0, 0))) := ⟨by (with_reducible repeat (first | refine blk_drewN ?_ _ | refine blk_drew ?_ | refine blk_alloc ?_ _)); refine blk_far ?_ NB118_121.out _; (with_reducible repeat (first | refine blk_drewN ?_ _ | refine blk_drew ?_ | refine blk_alloc ?_ _)); refine blk_far ?_ NB118_121.out _; (with_reducible repeat (first | refine blk_drewN ?_ _ | refine blk_drew ?_ | refine blk_alloc ?_ _)); refine blk_far ?_ NB118_121.out _; (with_reducible repeat (first | refine blk_drewN ?_ _ | refine blk_drew ?_ | refine blk_alloc ?_ _)); refine blk_far ?_ NB118_121.out _; (with_reducible repeat (first | refine blk_drewN ?_ _ | refine blk_drew ?_ | refine blk_alloc ?_ _)); refine blk_far ?_ NB118_121.out _; (with_reducible repeat (first | refine blk_drewN ?_ _ | refine blk_drew ?_ | refine blk_alloc ?_ _)); refine blk_far ?_ NB118_121.out _; (with_reducible repeat (first | refine blk_drewN ?_ _ | refine blk_drew ?_ | refine blk_alloc ?_ _)); refine blk_far ?_ NB118_121.out _; (with_reducible repeat (first | refine blk_drewN ?_ _ | refine blk_drew ?_ | refine blk_alloc ?_ _)); refine blk_far ?_ NB118_121.out _; (with_reducible repeat (first | refine blk_drewN ?_ _ | refine blk_drew ?_ | refine blk_alloc ?_ _)); exact BK118.out⟩
    have n1_ : Aside0 (((((((((w12.setCell ⟨gb121, 0, none⟩ (.bool a0_0)).setCell ⟨gb121, 1, none⟩ (.bool a0_1)).setCell ⟨gb121, 2, none⟩ (.int .u64 a0_2)).setCell ⟨gb121, 3, none⟩ (.int .u64 a0_3)).setCell ⟨gb121, 4, none⟩ (.int .u64 a0_4)).setCell ⟨gb121, 5, none⟩ (.int .u64 a0_5)).setCell ⟨gb121, 6, none⟩ (.int .i64 a0_6)).setCell ⟨gb121, 7, none⟩ (.int .i64 a0_7)).heap[gb119]? = some (.cells #[.int .u64 a1_0, .int .u64 a1_1] 35 (0, 0))) := ⟨by (with_reducible repeat (first | refine blk_drewN ?_ _ | refine blk_drew ?_ | refine blk_alloc ?_ _)); refine blk_far ?_ NB119_121.out _; (with_reducible repeat (first | refine blk_drewN ?_ _ | refine blk_drew ?_ | refine blk_alloc ?_ _)); refine blk_far ?_ NB119_121.out _; (with_reducible repeat (first | refine blk_drewN ?_ _ | refine blk_drew ?_ | refine blk_alloc ?_ _)); refine blk_far ?_ NB119_121.out _; (with_reducible repeat (first | refine blk_drewN ?_ _ | refine blk_drew ?_ | refine blk_alloc ?_ _)); refine blk_far ?_ NB119_121.out _; (with_reducible repeat (first | refine blk_drewN ?_ _ | refine blk_drew ?_ | refine blk_alloc ?_ _)); refine blk_far ?_ NB119_121.out _; (with_reducible repeat (first | refine blk_drewN ?_ _ | refine blk_drew ?_ | refine blk_alloc ?_ _)); refine blk_far ?_ NB119_121.out _; (with_reducible repeat (first | refine blk_drewN ?_ _ | refine blk_drew ?_ | refine blk_alloc ?_ _)); refine blk_far ?_ NB119_121.out _; (with_reducible repeat (first | refine blk_drewN ?_ _ | refine blk_drew ?_ | refine blk_alloc ?_ _)); refine blk_far ?_ NB119_121.out _; (with_reducible repeat (first | refine blk_drewN ?_ _ | refine blk_drew ?_ | refine blk_alloc ?_ _)); exact BK119.out⟩
    have n2_ : Aside0 (((((((((w12.setCell ⟨gb121, 0, none⟩ (.bool a0_0)).setCell ⟨gb121, 1, none⟩ (.bool a0_1)).setCell ⟨gb121, 2, none⟩ (.int .u64 a0_2)).setCell ⟨gb121, 3, none⟩ (.int .u64 a0_3)).setCell ⟨gb121, 4, none⟩ (.int .u64 a0_4)).setCell ⟨gb121, 5, none⟩ (.int .u64 a0_5)).setCell ⟨gb121, 6, none⟩ (.int .i64 a0_6)).setCell ⟨gb121, 7, none⟩ (.int .i64 a0_7)).heap[gb121]? = some (.cells #[.bool a0_0, .bool a0_1, .int .u64 a0_2, .int .u64 a0_3, .int .u64 a0_4, .int .u64 a0_5, .int .i64 a0_6, .int .i64 a0_7] 25 (0, 0))) := ⟨by (with_reducible repeat (first | refine blk_drewN ?_ _ | refine blk_drew ?_ | refine blk_alloc ?_ _)); refine blk_put (cs := #[.bool a0_0, .bool a0_1, .int .u64 a0_2, .int .u64 a0_3, .int .u64 a0_4, .int .u64 a0_5, .int .i64 a0_6, .int .i64 0]) ?_ 7 _ rfl; (with_reducible repeat (first | refine blk_drewN ?_ _ | refine blk_drew ?_ | refine blk_alloc ?_ _)); refine blk_put (cs := #[.bool a0_0, .bool a0_1, .int .u64 a0_2, .int .u64 a0_3, .int .u64 a0_4, .int .u64 a0_5, .int .i64 0, .int .i64 0]) ?_ 6 _ rfl; (with_reducible repeat (first | refine blk_drewN ?_ _ | refine blk_drew ?_ | refine blk_alloc ?_ _)); refine blk_put (cs := #[.bool a0_0, .bool a0_1, .int .u64 a0_2, .int .u64 a0_3, .int .u64 a0_4, .int .u64 0, .int .i64 0, .int .i64 0]) ?_ 5 _ rfl; (with_reducible repeat (first | refine blk_drewN ?_ _ | refine blk_drew ?_ | refine blk_alloc ?_ _)); refine blk_put (cs := #[.bool a0_0, .bool a0_1, .int .u64 a0_2, .int .u64 a0_3, .int .u64 0, .int .u64 0, .int .i64 0, .int .i64 0]) ?_ 4 _ rfl; (with_reducible repeat (first | refine blk_drewN ?_ _ | refine blk_drew ?_ | refine blk_alloc ?_ _)); refine blk_put (cs := #[.bool a0_0, .bool a0_1, .int .u64 a0_2, .int .u64 0, .int .u64 0, .int .u64 0, .int .i64 0, .int .i64 0]) ?_ 3 _ rfl; (with_reducible repeat (first | refine blk_drewN ?_ _ | refine blk_drew ?_ | refine blk_alloc ?_ _)); refine blk_put (cs := #[.bool a0_0, .bool a0_1, .int .u64 0, .int .u64 0, .int .u64 0, .int .u64 0, .int .i64 0, .int .i64 0]) ?_ 2 _ rfl; (with_reducible repeat (first | refine blk_drewN ?_ _ | refine blk_drew ?_ | refine blk_alloc ?_ _)); refine blk_put (cs := #[.bool a0_0, .bool false, .int .u64 0, .int .u64 0, .int .u64 0, .int .u64 0, .int .i64 0, .int .i64 0]) ?_ 1 _ rfl; (with_reducible repeat (first | refine blk_drewN ?_ _ | refine blk_drew ?_ | refine blk_alloc ?_ _)); refine blk_put (cs := #[.bool false, .bool false, .int .u64 0, .int .u64 0, .int .u64 0, .int .u64 0, .int .i64 0, .int .i64 0]) ?_ 0 _ rfl; (with_reducible repeat (first | refine blk_drewN ?_ _ | refine blk_drew ?_ | refine blk_alloc ?_ _)); exact BK121.out⟩
    have n3_ : Aside0 (Below w.heap.size w ((((((((w12.setCell ⟨gb121, 0, none⟩ (.bool a0_0)).setCell ⟨gb121, 1, none⟩ (.bool a0_1)).setCell ⟨gb121, 2, none⟩ (.int .u64 a0_2)).setCell ⟨gb121, 3, none⟩ (.int .u64 a0_3)).setCell ⟨gb121, 4, none⟩ (.int .u64 a0_4)).setCell ⟨gb121, 5, none⟩ (.int .u64 a0_5)).setCell ⟨gb121, 6, none⟩ (.int .i64 a0_6)).setCell ⟨gb121, 7, none⟩ (.int .i64 a0_7))) := ⟨by repeat (first | (with_reducible first | exact HB.out | apply below_alloc | apply pw_below_drewN | apply below_drew1 | refine below_set ?_ GE118.out | refine below_set ?_ GE119.out | refine below_set ?_ GE121.out) | exact HB.out)⟩
    (try clear BK118)
    (try clear BK119)
    (try clear BK121)
    (try clear HB)
    generalize ((((((((w12.setCell ⟨gb121, 0, none⟩ (.bool a0_0)).setCell ⟨gb121, 1, none⟩ (.bool a0_1)).setCell ⟨gb121, 2, none⟩ (.int .u64 a0_2)).setCell ⟨gb121, 3, none⟩ (.int .u64 a0_3)).setCell ⟨gb121, 4, none⟩ (.int .u64 a0_4)).setCell ⟨gb121, 5, none⟩ (.int .u64 a0_5)).setCell ⟨gb121, 6, none⟩ (.int .i64 a0_6)).setCell ⟨gb121, 7, none⟩ (.int .i64 a0_7)) = w16 at n0_ n1_ n2_ n3_ ⊢
    have BK118 := n0_
    have BK119 := n1_
    have BK121 := n2_
    have HB := n3_
    clear n0_ n1_ n2_ n3_
    have n0_ := Aside0.mk (blk_drew BK118.out)
    have n1_ := Aside0.mk (blk_drew BK119.out)
    have n2_ := Aside0.mk (blk_drew BK121.out)
    have n3_ := Aside0.mk (below_drew1 HB.out)
    clear BK118
    clear BK119
    clear BK121
    clear HB
    have BK118 := n0_
    have BK119 := n1_
    have BK121 := n2_
    have HB := n3_
    clear n0_ n1_ n2_ n3_
    refine start_ (n := 21) (S := fun w' => w'.cell? ⟨gb118, 0, none⟩ = some (.bool a0_0) ∧ w'.cell? ⟨gb118, 1, none⟩ = some (.bool a0_1) ∧ w'.cell? ⟨gb118, 2, none⟩ = some (.int .u64 a0_2) ∧ w'.cell? ⟨gb118, 3, none⟩ = some (.int .u64 a0_3) ∧ w'.cell? ⟨gb118, 4, none⟩ = some (.int .u64 a0_4) ∧ w'.cell? ⟨gb118, 5, none⟩ = some (.int .u64 a0_5) ∧ w'.cell? ⟨gb118, 6, none⟩ = some (.int .i64 a0_6) ∧ w'.cell? ⟨gb118, 7, none⟩ = some (.int .i64 a0_7) ∧ w'.cell? ⟨gb119, 0, none⟩ = some (.int .u64 a1_0) ∧ w'.cell? ⟨gb119, 1, none⟩ = some (.int .u64 a1_1)) (ds := []) #[false, false, false, false, false, false, false, false, false, false, false, false, false, false, false, false, false, false, false, false, false] (by kernel_rfl) rfl rfl ⟨(blk_cell BK118.out 0).trans rfl, (blk_cell BK118.out 1).trans rfl, (blk_cell BK118.out 2).trans rfl, (blk_cell BK118.out 3).trans rfl, (blk_cell BK118.out 4).trans rfl, (blk_cell BK118.out 5).trans rfl, (blk_cell BK118.out 6).trans rfl, (blk_cell BK118.out 7).trans rfl, (blk_cell BK119.out 0).trans rfl, (blk_cell BK119.out 1).trans rfl⟩ (fun hHeld => ?_); refine with_tabW bureaulaw20_GateLower.tab4 bureaulaw20_GateLower.bits4 (fun HT_ HW_ => ?_)
    generalize w16.drew = w17 at BK118 BK119 BK121 HB hHeld ⊢
    refine pure_ (i := 0) (N := some 11) (v := ?_) (a' := ?_) #[true, false, false, false, false, false, false, false, false, false, false, false, false, false, false, false, false, false, false, false, false] rfl rfl (any_of HT_.out (by kernel_rfl)) (fun _ _ _ h => h) (Or.inl ⟨by rfl, ?_⟩) ?_ ?_
    rotate_left
    · intro w'
      go_simp
      with_reducible rfl
    rotate_left
    · simp only [Act.put, List.setIfInBounds_toArray, List.set_cons_zero, List.set_cons_succ, i64_w, i32_w]
      rfl
    refine pure_ (i := 2) (N := some 13) (v := ?_) (a' := ?_) #[true, false, true, false, false, false, false, false, false, false, false, false, false, false, false, false, false, false, false, false, false] rfl rfl (any_of HT_.out (by kernel_rfl)) (fun _ _ _ h => h) (Or.inl ⟨by rfl, ?_⟩) ?_ ?_
    rotate_left
    · intro w'
      go_simp
      with_reducible rfl
    rotate_left
    · simp only [Act.put, List.setIfInBounds_toArray, List.set_cons_zero, List.set_cons_succ, i64_w, i32_w]
      rfl
    refine pure_ (i := 5) (N := some 16) (v := ?_) (a' := ?_) #[true, false, true, false, false, true, false, false, false, false, false, false, false, false, false, false, false, false, false, false, false] rfl rfl (any_of HT_.out (by kernel_rfl)) (fun _ _ _ h => h) (Or.inl ⟨by rfl, ?_⟩) ?_ ?_
    rotate_left
    · intro w'
      go_simp
      with_reducible rfl
    rotate_left
    · simp only [Act.put, List.setIfInBounds_toArray, List.set_cons_zero, List.set_cons_succ, i64_w, i32_w]
      rfl
    refine pure_ (i := 7) (N := some 18) (v := ?_) (a' := ?_) #[true, false, true, false, false, true, false, true, false, false, false, false, false, false, false, false, false, false, false, false, false] rfl rfl (any_of HT_.out (by kernel_rfl)) (fun _ _ _ h => h) (Or.inl ⟨by rfl, ?_⟩) ?_ ?_
    rotate_left
    · intro w'
      go_simp
      with_reducible rfl
    rotate_left
    · simp only [Act.put, List.setIfInBounds_toArray, List.set_cons_zero, List.set_cons_succ, i64_w, i32_w]
      rfl
    refine pure_ (i := 10) (N := some 21) (v := ?_) (a' := ?_) #[true, false, true, false, false, true, false, true, false, false, true, false, false, false, false, false, false, false, false, false, false] rfl rfl (any_of HT_.out (by kernel_rfl)) (fun _ _ _ h => h) (Or.inl ⟨by rfl, ?_⟩) ?_ ?_
    rotate_left
    · intro w'
      go_simp
      with_reducible rfl
    rotate_left
    · simp only [Act.put, List.setIfInBounds_toArray, List.set_cons_zero, List.set_cons_succ, i64_w, i32_w]
      rfl
    refine pure_ (i := 12) (N := some 23) (v := ?_) (a' := ?_) #[true, false, true, false, false, true, false, true, false, false, true, false, true, false, false, false, false, false, false, false, false] rfl rfl (any_of HT_.out (by kernel_rfl)) (fun _ _ _ h => h) (Or.inl ⟨by rfl, ?_⟩) ?_ ?_
    rotate_left
    · intro w'
      go_simp
      with_reducible rfl
    rotate_left
    · simp only [Act.put, List.setIfInBounds_toArray, List.set_cons_zero, List.set_cons_succ, i64_w, i32_w]
      rfl
    refine take_ (i := 1) (N := some 12) (v := ?_) (a' := ?_) #[true, true, true, false, false, true, false, true, false, false, true, false, true, false, false, false, false, false, false, false, false] rfl rfl (take_ofW HT_.out HW_.out (by kernel_rfl)) (fun _ _ _ h => h) (Or.inl ⟨by rfl, ?_⟩) hHeld ?_ ?_
    rotate_left
    · rintro w' ⟨s0, s1, s2, s3, s4, s5, s6, s7, s8, s9⟩
      go_simp
      with_reducible rfl
    rotate_left
    · simp only [Act.put, List.setIfInBounds_toArray, List.set_cons_zero, List.set_cons_succ, i64_w, i32_w]
      rfl
    refine take_ (i := 3) (N := some 14) (v := ?_) (a' := ?_) #[true, true, true, true, false, true, false, true, false, false, true, false, true, false, false, false, false, false, false, false, false] rfl rfl (take_ofW HT_.out HW_.out (by kernel_rfl)) (fun _ _ _ h => h) (Or.inl ⟨by rfl, ?_⟩) hHeld ?_ ?_
    rotate_left
    · rintro w' ⟨s0, s1, s2, s3, s4, s5, s6, s7, s8, s9⟩
      go_simp
      with_reducible rfl
    rotate_left
    · simp only [Act.put, List.setIfInBounds_toArray, List.set_cons_zero, List.set_cons_succ, i64_w, i32_w]
      rfl
    refine pure_ (i := 4) (N := some 15) (v := ?_) (a' := ?_) #[true, true, true, true, true, true, false, true, false, false, true, false, true, false, false, false, false, false, false, false, false] rfl rfl (any_of HT_.out (by kernel_rfl)) (fun _ _ _ h => h) (Or.inl ⟨by rfl, ?_⟩) ?_ ?_
    rotate_left
    · intro w'
      go_simp
      with_reducible rfl
    rotate_left
    · simp only [Act.put, List.setIfInBounds_toArray, List.set_cons_zero, List.set_cons_succ, i64_w, i32_w]
      rfl
    refine pure_ (i := 15) (N := some 26) (v := ?_) (a' := ?_) #[true, true, true, true, true, true, false, true, false, false, true, false, true, false, false, true, false, false, false, false, false] rfl rfl (any_of HT_.out (by kernel_rfl)) (fun _ _ _ h => h) (Or.inl ⟨by rfl, ?_⟩) ?_ ?_
    rotate_left
    · intro w'
      go_simp
      with_reducible rfl
    rotate_left
    · simp only [Act.put, List.setIfInBounds_toArray, List.set_cons_zero, List.set_cons_succ, i64_w, i32_w]
      rfl
    refine take_ (i := 6) (N := some 17) (v := ?_) (a' := ?_) #[true, true, true, true, true, true, true, true, false, false, true, false, true, false, false, true, false, false, false, false, false] rfl rfl (take_ofW HT_.out HW_.out (by kernel_rfl)) (fun _ _ _ h => h) (Or.inl ⟨by rfl, ?_⟩) hHeld ?_ ?_
    rotate_left
    · rintro w' ⟨s0, s1, s2, s3, s4, s5, s6, s7, s8, s9⟩
      go_simp
      with_reducible rfl
    rotate_left
    · simp only [Act.put, List.setIfInBounds_toArray, List.set_cons_zero, List.set_cons_succ, i64_w, i32_w]
      rfl
    refine take_ (i := 8) (N := some 19) (v := ?_) (a' := ?_) #[true, true, true, true, true, true, true, true, true, false, true, false, true, false, false, true, false, false, false, false, false] rfl rfl (take_ofW HT_.out HW_.out (by kernel_rfl)) (fun _ _ _ h => h) (Or.inl ⟨by rfl, ?_⟩) hHeld ?_ ?_
    rotate_left
    · rintro w' ⟨s0, s1, s2, s3, s4, s5, s6, s7, s8, s9⟩
      go_simp
      with_reducible rfl
    rotate_left
    · simp only [Act.put, List.setIfInBounds_toArray, List.set_cons_zero, List.set_cons_succ, i64_w, i32_w]
      rfl
    refine pure_ (i := 9) (N := some 20) (v := ?_) (a' := ?_) #[true, true, true, true, true, true, true, true, true, true, true, false, true, false, false, true, false, false, false, false, false] rfl rfl (any_of HT_.out (by kernel_rfl)) (fun _ _ _ h => h) (Or.inl ⟨by rfl, ?_⟩) ?_ ?_
    rotate_left
    · intro w'
      go_simp
      with_reducible rfl
    rotate_left
    · simp only [Act.put, List.setIfInBounds_toArray, List.set_cons_zero, List.set_cons_succ, i64_w, i32_w]
      rfl
    refine take_ (i := 11) (N := some 22) (v := ?_) (a' := ?_) #[true, true, true, true, true, true, true, true, true, true, true, true, true, false, false, true, false, false, false, false, false] rfl rfl (take_ofW HT_.out HW_.out (by kernel_rfl)) (fun _ _ _ h => h) (Or.inl ⟨by rfl, ?_⟩) hHeld ?_ ?_
    rotate_left
    · rintro w' ⟨s0, s1, s2, s3, s4, s5, s6, s7, s8, s9⟩
      go_simp
      with_reducible rfl
    rotate_left
    · simp only [Act.put, List.setIfInBounds_toArray, List.set_cons_zero, List.set_cons_succ, i64_w, i32_w]
      rfl
    refine take_ (i := 13) (N := some 24) (v := ?_) (a' := ?_) #[true, true, true, true, true, true, true, true, true, true, true, true, true, true, false, true, false, false, false, false, false] rfl rfl (take_ofW HT_.out HW_.out (by kernel_rfl)) (fun _ _ _ h => h) (Or.inl ⟨by rfl, ?_⟩) hHeld ?_ ?_
    rotate_left
    · rintro w' ⟨s0, s1, s2, s3, s4, s5, s6, s7, s8, s9⟩
      go_simp
      with_reducible rfl
    rotate_left
    · simp only [Act.put, List.setIfInBounds_toArray, List.set_cons_zero, List.set_cons_succ, i64_w, i32_w]
      rfl
    refine pure_ (i := 14) (N := some 25) (v := ?_) (a' := ?_) #[true, true, true, true, true, true, true, true, true, true, true, true, true, true, true, true, false, false, false, false, false] rfl rfl (any_of HT_.out (by kernel_rfl)) (fun _ _ _ h => h) (Or.inl ⟨by rfl, ?_⟩) ?_ ?_
    rotate_left
    · intro w'
      go_simp
      with_reducible rfl
    rotate_left
    · simp only [Act.put, List.setIfInBounds_toArray, List.set_cons_zero, List.set_cons_succ, i64_w, i32_w]
      rfl
    refine one_ (i := 16) (N := none) #[true, true, true, true, true, true, true, true, true, true, true, true, true, true, true, true, true, false, false, false, false] rfl rfl (one_of HT_.out (by kernel_rfl)) (by decide) (fun K hK => ?_)
    have hs18 : w17.cell? ⟨gb121, 2, none⟩ = some (.int .u64 a0_2) := (blk_cell BK121.out 2).trans rfl
    have hfs18 := blk_frozen BK121.out 2
    have hns18_0 := NB118_121.out
    have hns18_1 := NB119_121.out
    have hms18_0 := NB121_118.out
    have hms18_1 := NB121_119.out
    refine skip_ (w1 := ?_) (by rfl) rfl ?_ ?_
    rotate_left
    · go_simp
      rfl
    refine hK.out _ _ ⟨((cell_far (p := ⟨gb121, _, none⟩) NB118_121.out _).trans (hHeld.1)), ((cell_far (p := ⟨gb121, _, none⟩) NB118_121.out _).trans (hHeld.2.1)), ((cell_far (p := ⟨gb121, _, none⟩) NB118_121.out _).trans (hHeld.2.2.1)), ((cell_far (p := ⟨gb121, _, none⟩) NB118_121.out _).trans (hHeld.2.2.2.1)), ((cell_far (p := ⟨gb121, _, none⟩) NB118_121.out _).trans (hHeld.2.2.2.2.1)), ((cell_far (p := ⟨gb121, _, none⟩) NB118_121.out _).trans (hHeld.2.2.2.2.2.1)), ((cell_far (p := ⟨gb121, _, none⟩) NB118_121.out _).trans (hHeld.2.2.2.2.2.2.1)), ((cell_far (p := ⟨gb121, _, none⟩) NB118_121.out _).trans (hHeld.2.2.2.2.2.2.2.1)), ((cell_far (p := ⟨gb121, _, none⟩) NB119_121.out _).trans (hHeld.2.2.2.2.2.2.2.2.1)), ((cell_far (p := ⟨gb121, _, none⟩) NB119_121.out _).trans (hHeld.2.2.2.2.2.2.2.2.2))⟩ (fun hHeld => ?_)
    clear hK K
    refine pure_ (i := 17) (N := some 27) (v := ?_) (a' := ?_) #[true, true, true, true, true, true, true, true, true, true, true, true, true, true, true, true, true, true, false, false, false] rfl rfl (any_of HT_.out (by kernel_rfl)) (fun _ _ _ h => h) (Or.inl ⟨by rfl, ?_⟩) ?_ ?_
    rotate_left
    · intro w'
      go_simp
      with_reducible rfl
    rotate_left
    · simp only [Act.put, List.setIfInBounds_toArray, List.set_cons_zero, List.set_cons_succ, i64_w, i32_w]
      rfl
    refine one_ (i := 18) (N := none) #[true, true, true, true, true, true, true, true, true, true, true, true, true, true, true, true, true, true, true, false, false] rfl rfl (one_of HT_.out (by kernel_rfl)) (by decide) (fun K hK => ?_)
    have hs19 : w17.cell? ⟨gb121, 4, none⟩ = some (.int .u64 a0_4) := (blk_cell BK121.out 4).trans rfl
    have hfs19 := blk_frozen BK121.out 4
    have hns19_0 := NB118_121.out
    have hns19_1 := NB119_121.out
    have hms19_0 := NB121_118.out
    have hms19_1 := NB121_119.out
    refine skip_ (w1 := ?_) (by rfl) rfl ?_ ?_
    rotate_left
    · go_simp
      rfl
    refine hK.out _ _ ⟨((cell_far (p := ⟨gb121, _, none⟩) NB118_121.out _).trans (hHeld.1)), ((cell_far (p := ⟨gb121, _, none⟩) NB118_121.out _).trans (hHeld.2.1)), ((cell_far (p := ⟨gb121, _, none⟩) NB118_121.out _).trans (hHeld.2.2.1)), ((cell_far (p := ⟨gb121, _, none⟩) NB118_121.out _).trans (hHeld.2.2.2.1)), ((cell_far (p := ⟨gb121, _, none⟩) NB118_121.out _).trans (hHeld.2.2.2.2.1)), ((cell_far (p := ⟨gb121, _, none⟩) NB118_121.out _).trans (hHeld.2.2.2.2.2.1)), ((cell_far (p := ⟨gb121, _, none⟩) NB118_121.out _).trans (hHeld.2.2.2.2.2.2.1)), ((cell_far (p := ⟨gb121, _, none⟩) NB118_121.out _).trans (hHeld.2.2.2.2.2.2.2.1)), ((cell_far (p := ⟨gb121, _, none⟩) NB119_121.out _).trans (hHeld.2.2.2.2.2.2.2.2.1)), ((cell_far (p := ⟨gb121, _, none⟩) NB119_121.out _).trans (hHeld.2.2.2.2.2.2.2.2.2))⟩ (fun hHeld => ?_)
    clear hK K
    refine pure_ (i := 19) (N := some 28) (v := ?_) (a' := ?_) #[true, true, true, true, true, true, true, true, true, true, true, true, true, true, true, true, true, true, true, true, false] rfl rfl (any_of HT_.out (by kernel_rfl)) (fun _ _ _ h => h) (Or.inl ⟨by rfl, ?_⟩) ?_ ?_
    rotate_left
    · intro w'
      go_simp
      with_reducible rfl
    rotate_left
    · simp only [Act.put, List.setIfInBounds_toArray, List.set_cons_zero, List.set_cons_succ, i64_w, i32_w]
      rfl
    refine one_ (i := 20) (N := none) #[true, true, true, true, true, true, true, true, true, true, true, true, true, true, true, true, true, true, true, true, true] rfl rfl (one_of HT_.out (by kernel_rfl)) (by decide) (fun K hK => ?_)
    have hs20 : w17.cell? ⟨gb121, 3, none⟩ = some (.int .u64 a0_3) := (blk_cell BK121.out 3).trans rfl
    have hfs20 := blk_frozen BK121.out 3
    have hns20_0 := NB118_121.out
    have hns20_1 := NB119_121.out
    have hms20_0 := NB121_118.out
    have hms20_1 := NB121_119.out
    refine skip_ (w1 := ?_) (by rfl) rfl ?_ ?_
    rotate_left
    · go_simp
      rfl
    refine hK.out _ _ ⟨((cell_far (p := ⟨gb121, _, none⟩) NB118_121.out _).trans (hHeld.1)), ((cell_far (p := ⟨gb121, _, none⟩) NB118_121.out _).trans (hHeld.2.1)), ((cell_far (p := ⟨gb121, _, none⟩) NB118_121.out _).trans (hHeld.2.2.1)), ((cell_far (p := ⟨gb121, _, none⟩) NB118_121.out _).trans (hHeld.2.2.2.1)), ((cell_far (p := ⟨gb121, _, none⟩) NB118_121.out _).trans (hHeld.2.2.2.2.1)), ((cell_far (p := ⟨gb121, _, none⟩) NB118_121.out _).trans (hHeld.2.2.2.2.2.1)), ((cell_far (p := ⟨gb121, _, none⟩) NB118_121.out _).trans (hHeld.2.2.2.2.2.2.1)), ((cell_far (p := ⟨gb121, _, none⟩) NB118_121.out _).trans (hHeld.2.2.2.2.2.2.2.1)), ((cell_far (p := ⟨gb121, _, none⟩) NB119_121.out _).trans (hHeld.2.2.2.2.2.2.2.2.1)), ((cell_far (p := ⟨gb121, _, none⟩) NB119_121.out _).trans (hHeld.2.2.2.2.2.2.2.2.2))⟩ (fun hHeld => ?_)
    clear hK K
    refine done_ (done_of HT_.out (by kernel_rfl)) ?_
    go_upto_region 5 with (fail)
    go_cut [36] (fun v36 wc => ∃ (kq : Nat) (x36_5 : Bool), v36 = .bool x36_5 ∧ Aside0 (bureaulaw20_GateLower.j0 kq a2 x36_5 a0_0 a0_1 a0_2 a0_3 a0_4 a0_5 a0_6 a0_7 a0_0 a0_1 (Go.bits .and .u64 a0_2 a1_0) (Go.bits .or .u64 a0_3 a1_0) (Go.bits .and .u64 a0_4 a1_1) a0_5 a0_6 a0_7 = some r) ∧ Aside0 (kq ≤ k) ∧ Aside0 (wc.heap[gb118]? = some (.cells #[.bool a0_0, .bool a0_1, .int .u64 a0_2, .int .u64 a0_3, .int .u64 a0_4, .int .u64 a0_5, .int .i64 a0_6, .int .i64 a0_7] 25 (0, 0))) ∧ Aside0 (wc.heap[gb119]? = some (.cells #[.int .u64 a1_0, .int .u64 a1_1] 35 (0, 0))) ∧ Aside0 (wc.heap[gb121]? = some (.cells #[.bool a0_0, .bool a0_1, .int .u64 (Go.bits .and .u64 a0_2 a1_0), .int .u64 (Go.bits .or .u64 a0_3 a1_0), .int .u64 (Go.bits .and .u64 a0_4 a1_1), .int .u64 a0_5, .int .i64 a0_6, .int .i64 a0_7] 25 (0, 0))) ∧ Aside0 (Below w.heap.size w wc))
    case first =>
      have H := HC6.out
      clear HC6
      by_cases c21 : a0_7 ≥ 0
      · rw [if_pos c21] at H
        have c21b0 : decide (0 ≤ a0_7) = true := decide_eq_true c21
        clear c21
        (first | rw [c21b0] | (simp only [i64_w, i32_w]; rw [c21b0]) | skip)
        have H' := Aside0.mk H
        clear H
        have hnb22 := NB118_119.out
        have hnc22 := NB119_118.out
        have hnb23 := NB118_121.out
        have hnc23 := NB121_118.out
        have hcz24_0 : w17.cell? ⟨gb118, 0, none⟩ = some (.bool a0_0) := (blk_cell BK118.out 0).trans rfl
        have hcz24_1 : w17.cell? ⟨gb118, 1, none⟩ = some (.bool a0_1) := (blk_cell BK118.out 1).trans rfl
        have hcz24_2 : w17.cell? ⟨gb118, 2, none⟩ = some (.int .u64 a0_2) := (blk_cell BK118.out 2).trans rfl
        have hcz24_3 : w17.cell? ⟨gb118, 3, none⟩ = some (.int .u64 a0_3) := (blk_cell BK118.out 3).trans rfl
        have hcz24_4 : w17.cell? ⟨gb118, 4, none⟩ = some (.int .u64 a0_4) := (blk_cell BK118.out 4).trans rfl
        have hcz24_5 : w17.cell? ⟨gb118, 5, none⟩ = some (.int .u64 a0_5) := (blk_cell BK118.out 5).trans rfl
        have hcz24_6 : w17.cell? ⟨gb118, 6, none⟩ = some (.int .i64 a0_6) := (blk_cell BK118.out 6).trans rfl
        have hcz24_7 : w17.cell? ⟨gb118, 7, none⟩ = some (.int .i64 a0_7) := (blk_cell BK118.out 7).trans rfl
        have hfz24_0 := blk_frozen BK118.out 0
        have hfz24_1 := blk_frozen BK118.out 1
        have hfz24_2 := blk_frozen BK118.out 2
        have hfz24_3 := blk_frozen BK118.out 3
        have hfz24_4 := blk_frozen BK118.out 4
        have hfz24_5 := blk_frozen BK118.out 5
        have hfz24_6 := blk_frozen BK118.out 6
        have hfz24_7 := blk_frozen BK118.out 7
        go_wp2
        go_meet
        case rel => exact ⟨_, (decide (a0_7 ≤ 15)), (by first | rfl | (simp; done) | (simp [*]; done)), H', ⟨by first | omega | exact Nat.le_refl _⟩, ⟨by (with_reducible repeat (first | refine blk_drewN ?_ _ | refine blk_drew ?_ | refine blk_alloc ?_ _)); refine blk_far ?_ NB118_121.out _; (with_reducible repeat (first | refine blk_drewN ?_ _ | refine blk_drew ?_ | refine blk_alloc ?_ _)); refine blk_far ?_ NB118_121.out _; (with_reducible repeat (first | refine blk_drewN ?_ _ | refine blk_drew ?_ | refine blk_alloc ?_ _)); refine blk_far ?_ NB118_121.out _; (with_reducible repeat (first | refine blk_drewN ?_ _ | refine blk_drew ?_ | refine blk_alloc ?_ _)); exact BK118.out⟩, ⟨by (with_reducible repeat (first | refine blk_drewN ?_ _ | refine blk_drew ?_ | refine blk_alloc ?_ _)); refine blk_far ?_ NB119_121.out _; (with_reducible repeat (first | refine blk_drewN ?_ _ | refine blk_drew ?_ | refine blk_alloc ?_ _)); refine blk_far ?_ NB119_121.out _; (with_reducible repeat (first | refine blk_drewN ?_ _ | refine blk_drew ?_ | refine blk_alloc ?_ _)); refine blk_far ?_ NB119_121.out _; (with_reducible repeat (first | refine blk_drewN ?_ _ | refine blk_drew ?_ | refine blk_alloc ?_ _)); exact BK119.out⟩, ⟨by (with_reducible repeat (first | refine blk_drewN ?_ _ | refine blk_drew ?_ | refine blk_alloc ?_ _)); refine blk_put (cs := #[.bool a0_0, .bool a0_1, .int .u64 (Go.bits .and .u64 a0_2 a1_0), .int .u64 a0_3, .int .u64 (Go.bits .and .u64 a0_4 a1_1), .int .u64 a0_5, .int .i64 a0_6, .int .i64 a0_7]) ?_ 3 _ rfl; (with_reducible repeat (first | refine blk_drewN ?_ _ | refine blk_drew ?_ | refine blk_alloc ?_ _)); refine blk_put (cs := #[.bool a0_0, .bool a0_1, .int .u64 (Go.bits .and .u64 a0_2 a1_0), .int .u64 a0_3, .int .u64 a0_4, .int .u64 a0_5, .int .i64 a0_6, .int .i64 a0_7]) ?_ 4 _ rfl; (with_reducible repeat (first | refine blk_drewN ?_ _ | refine blk_drew ?_ | refine blk_alloc ?_ _)); refine blk_put (cs := #[.bool a0_0, .bool a0_1, .int .u64 a0_2, .int .u64 a0_3, .int .u64 a0_4, .int .u64 a0_5, .int .i64 a0_6, .int .i64 a0_7]) ?_ 2 _ rfl; (with_reducible repeat (first | refine blk_drewN ?_ _ | refine blk_drew ?_ | refine blk_alloc ?_ _)); exact BK121.out⟩, ⟨by repeat (first | (with_reducible first | exact HB.out | apply below_alloc | apply pw_below_drewN | apply below_drew1 | refine below_set ?_ GE118.out | refine below_set ?_ GE119.out | refine below_set ?_ GE121.out) | exact HB.out)⟩⟩
      · rw [if_neg c21] at H
        have c21b0 : decide (0 ≤ a0_7) = false := decide_eq_false c21
        clear c21
        (first | rw [c21b0] | (simp only [i64_w, i32_w]; rw [c21b0]) | skip)
        have H' := Aside0.mk H
        clear H
        have hnb25 := NB118_119.out
        have hnc25 := NB119_118.out
        have hnb26 := NB118_121.out
        have hnc26 := NB121_118.out
        have hcz27_0 : w17.cell? ⟨gb118, 0, none⟩ = some (.bool a0_0) := (blk_cell BK118.out 0).trans rfl
        have hcz27_1 : w17.cell? ⟨gb118, 1, none⟩ = some (.bool a0_1) := (blk_cell BK118.out 1).trans rfl
        have hcz27_2 : w17.cell? ⟨gb118, 2, none⟩ = some (.int .u64 a0_2) := (blk_cell BK118.out 2).trans rfl
        have hcz27_3 : w17.cell? ⟨gb118, 3, none⟩ = some (.int .u64 a0_3) := (blk_cell BK118.out 3).trans rfl
        have hcz27_4 : w17.cell? ⟨gb118, 4, none⟩ = some (.int .u64 a0_4) := (blk_cell BK118.out 4).trans rfl
        have hcz27_5 : w17.cell? ⟨gb118, 5, none⟩ = some (.int .u64 a0_5) := (blk_cell BK118.out 5).trans rfl
        have hcz27_6 : w17.cell? ⟨gb118, 6, none⟩ = some (.int .i64 a0_6) := (blk_cell BK118.out 6).trans rfl
        have hcz27_7 : w17.cell? ⟨gb118, 7, none⟩ = some (.int .i64 a0_7) := (blk_cell BK118.out 7).trans rfl
        have hfz27_0 := blk_frozen BK118.out 0
        have hfz27_1 := blk_frozen BK118.out 1
        have hfz27_2 := blk_frozen BK118.out 2
        have hfz27_3 := blk_frozen BK118.out 3
        have hfz27_4 := blk_frozen BK118.out 4
        have hfz27_5 := blk_frozen BK118.out 5
        have hfz27_6 := blk_frozen BK118.out 6
        have hfz27_7 := blk_frozen BK118.out 7
        go_wp2
        go_meet
        case rel => exact ⟨_, (false), (by first | rfl | (simp; done) | (simp [*]; done)), H', ⟨by first | omega | exact Nat.le_refl _⟩, ⟨by (with_reducible repeat (first | refine blk_drewN ?_ _ | refine blk_drew ?_ | refine blk_alloc ?_ _)); refine blk_far ?_ NB118_121.out _; (with_reducible repeat (first | refine blk_drewN ?_ _ | refine blk_drew ?_ | refine blk_alloc ?_ _)); refine blk_far ?_ NB118_121.out _; (with_reducible repeat (first | refine blk_drewN ?_ _ | refine blk_drew ?_ | refine blk_alloc ?_ _)); refine blk_far ?_ NB118_121.out _; (with_reducible repeat (first | refine blk_drewN ?_ _ | refine blk_drew ?_ | refine blk_alloc ?_ _)); exact BK118.out⟩, ⟨by (with_reducible repeat (first | refine blk_drewN ?_ _ | refine blk_drew ?_ | refine blk_alloc ?_ _)); refine blk_far ?_ NB119_121.out _; (with_reducible repeat (first | refine blk_drewN ?_ _ | refine blk_drew ?_ | refine blk_alloc ?_ _)); refine blk_far ?_ NB119_121.out _; (with_reducible repeat (first | refine blk_drewN ?_ _ | refine blk_drew ?_ | refine blk_alloc ?_ _)); refine blk_far ?_ NB119_121.out _; (with_reducible repeat (first | refine blk_drewN ?_ _ | refine blk_drew ?_ | refine blk_alloc ?_ _)); exact BK119.out⟩, ⟨by (with_reducible repeat (first | refine blk_drewN ?_ _ | refine blk_drew ?_ | refine blk_alloc ?_ _)); refine blk_put (cs := #[.bool a0_0, .bool a0_1, .int .u64 (Go.bits .and .u64 a0_2 a1_0), .int .u64 a0_3, .int .u64 (Go.bits .and .u64 a0_4 a1_1), .int .u64 a0_5, .int .i64 a0_6, .int .i64 a0_7]) ?_ 3 _ rfl; (with_reducible repeat (first | refine blk_drewN ?_ _ | refine blk_drew ?_ | refine blk_alloc ?_ _)); refine blk_put (cs := #[.bool a0_0, .bool a0_1, .int .u64 (Go.bits .and .u64 a0_2 a1_0), .int .u64 a0_3, .int .u64 a0_4, .int .u64 a0_5, .int .i64 a0_6, .int .i64 a0_7]) ?_ 4 _ rfl; (with_reducible repeat (first | refine blk_drewN ?_ _ | refine blk_drew ?_ | refine blk_alloc ?_ _)); refine blk_put (cs := #[.bool a0_0, .bool a0_1, .int .u64 a0_2, .int .u64 a0_3, .int .u64 a0_4, .int .u64 a0_5, .int .i64 a0_6, .int .i64 a0_7]) ?_ 2 _ rfl; (with_reducible repeat (first | refine blk_drewN ?_ _ | refine blk_drew ?_ | refine blk_alloc ?_ _)); exact BK121.out⟩, ⟨by repeat (first | (with_reducible first | exact HB.out | apply below_alloc | apply pw_below_drewN | apply below_drew1 | refine below_set ?_ GE118.out | refine below_set ?_ GE119.out | refine below_set ?_ GE121.out) | exact HB.out)⟩⟩
    case rest =>
      clear HC6
      try clear c1
      try clear c2
      try clear p2
      try clear c4
      try clear c5
      try clear c7
      try clear c10
      try clear c13
      try clear c14
      try clear c21
      try clear c21b0
      try clear c22
      try clear c23
      try clear c25
      try clear c26
      try clear hcz11_0
      try clear hcz11_1
      try clear hcz11_2
      try clear hcz11_3
      try clear hcz11_4
      try clear hcz11_5
      try clear hcz11_6
      try clear hcz11_7
      try clear hcz15_0
      try clear hcz15_1
      try clear hcz15_2
      try clear hcz15_3
      try clear hcz15_4
      try clear hcz15_5
      try clear hcz15_6
      try clear hcz15_7
      try clear hcz24_0
      try clear hcz24_1
      try clear hcz24_2
      try clear hcz24_3
      try clear hcz24_4
      try clear hcz24_5
      try clear hcz24_6
      try clear hcz24_7
      try clear hcz27_0
      try clear hcz27_1
      try clear hcz27_2
      try clear hcz27_3
      try clear hcz27_4
      try clear hcz27_5
      try clear hcz27_6
      try clear hcz27_7
      try clear hfz11_0
      try clear hfz11_1
      try clear hfz11_2
      try clear hfz11_3
      try clear hfz11_4
      try clear hfz11_5
      try clear hfz11_6
      try clear hfz11_7
      try clear hfz15_0
      try clear hfz15_1
      try clear hfz15_2
      try clear hfz15_3
      try clear hfz15_4
      try clear hfz15_5
      try clear hfz15_6
      try clear hfz15_7
      try clear hfz24_0
      try clear hfz24_1
      try clear hfz24_2
      try clear hfz24_3
      try clear hfz24_4
      try clear hfz24_5
      try clear hfz24_6
      try clear hfz24_7
      try clear hfz27_0
      try clear hfz27_1
      try clear hfz27_2
      try clear hfz27_3
      try clear hfz27_4
      try clear hfz27_5
      try clear hfz27_6
      try clear hfz27_7
      obtain ⟨kq, x36_5, rfl, HA, HJ5, BK118, BK119, BK121, HB⟩ := hcut
      cases kq with
      | zero => exact absurd HA.out (by simp [bureaulaw20_GateLower.j0])
      | succ kj5 =>
        have H := HA.out
        clear HA
        simp only [bureaulaw20_GateLower.j0] at H
        have HC28 := Aside0.mk H
        clear H
        go_upto_if 36 with (fail)
        go_cut [] (fun wc => ∃ (kq : Nat) (x122007_27 : Int), Aside0 (bureaulaw20_GateLower.j1 kq a0_0 a0_1 a0_2 a0_3 a0_4 a0_5 a0_6 a0_7 a0_0 a0_1 (Go.bits .and .u64 a0_2 a1_0) (Go.bits .or .u64 a0_3 a1_0) (Go.bits .and .u64 a0_4 a1_1) a0_5 a0_6 x122007_27 = some r) ∧ Aside0 (kq ≤ kj5) ∧ Aside0 (wc.heap[gb118]? = some (.cells #[.bool a0_0, .bool a0_1, .int .u64 a0_2, .int .u64 a0_3, .int .u64 a0_4, .int .u64 a0_5, .int .i64 a0_6, .int .i64 a0_7] 25 (0, 0))) ∧ Aside0 (wc.heap[gb119]? = some (.cells #[.int .u64 a1_0, .int .u64 a1_1] 35 (0, 0))) ∧ Aside0 (wc.heap[gb121]? = some (.cells #[.bool a0_0, .bool a0_1, .int .u64 (Go.bits .and .u64 a0_2 a1_0), .int .u64 (Go.bits .or .u64 a0_3 a1_0), .int .u64 (Go.bits .and .u64 a0_4 a1_1), .int .u64 a0_5, .int .i64 a0_6, .int .i64 x122007_27] 25 (0, 0))) ∧ Aside0 (Below w.heap.size w wc))
        case first =>
          have H := HC28.out
          clear HC28
          by_cases c29 : x36_5 = true
          · subst c29
            have H1 : (bureaulaw20_GateLower.j1 kj5 a0_0 a0_1 a0_2 a0_3 a0_4 a0_5 a0_6 a0_7 a0_0 a0_1 (Go.bits .and .u64 a0_2 a1_0) (Go.bits .or .u64 a0_3 a1_0) (Go.bits .and .u64 a0_4 a1_1) a0_5 a0_6 (Go.bits .or .i64 a0_7 (wrap64 (Int.tmod a2 16)))) = some r := by rw [if_pos rfl] at H; exact H
            clear H
            have H := H1
            clear H1
            have H' := Aside0.mk H
            clear H
            have hnb30 := NB118_119.out
            have hnc30 := NB119_118.out
            have hnb31 := NB118_121.out
            have hnc31 := NB121_118.out
            have hcz32_0 : wc.cell? ⟨gb118, 0, none⟩ = some (.bool a0_0) := (blk_cell BK118.out 0).trans rfl
            have hcz32_1 : wc.cell? ⟨gb118, 1, none⟩ = some (.bool a0_1) := (blk_cell BK118.out 1).trans rfl
            have hcz32_2 : wc.cell? ⟨gb118, 2, none⟩ = some (.int .u64 a0_2) := (blk_cell BK118.out 2).trans rfl
            have hcz32_3 : wc.cell? ⟨gb118, 3, none⟩ = some (.int .u64 a0_3) := (blk_cell BK118.out 3).trans rfl
            have hcz32_4 : wc.cell? ⟨gb118, 4, none⟩ = some (.int .u64 a0_4) := (blk_cell BK118.out 4).trans rfl
            have hcz32_5 : wc.cell? ⟨gb118, 5, none⟩ = some (.int .u64 a0_5) := (blk_cell BK118.out 5).trans rfl
            have hcz32_6 : wc.cell? ⟨gb118, 6, none⟩ = some (.int .i64 a0_6) := (blk_cell BK118.out 6).trans rfl
            have hcz32_7 : wc.cell? ⟨gb118, 7, none⟩ = some (.int .i64 a0_7) := (blk_cell BK118.out 7).trans rfl
            have hfz32_0 := blk_frozen BK118.out 0
            have hfz32_1 := blk_frozen BK118.out 1
            have hfz32_2 := blk_frozen BK118.out 2
            have hfz32_3 := blk_frozen BK118.out 3
            have hfz32_4 := blk_frozen BK118.out 4
            have hfz32_5 := blk_frozen BK118.out 5
            have hfz32_6 := blk_frozen BK118.out 6
            have hfz32_7 := blk_frozen BK118.out 7
            have hnb33 := NB121_119.out
            have hnc33 := NB119_121.out
            have hcz34_0 : wc.cell? ⟨gb121, 0, none⟩ = some (.bool a0_0) := (blk_cell BK121.out 0).trans rfl
            have hcz34_1 : wc.cell? ⟨gb121, 1, none⟩ = some (.bool a0_1) := (blk_cell BK121.out 1).trans rfl
            have hcz34_2 : wc.cell? ⟨gb121, 2, none⟩ = some (.int .u64 (Go.bits .and .u64 a0_2 a1_0)) := (blk_cell BK121.out 2).trans rfl
            have hcz34_3 : wc.cell? ⟨gb121, 3, none⟩ = some (.int .u64 (Go.bits .or .u64 a0_3 a1_0)) := (blk_cell BK121.out 3).trans rfl
            have hcz34_4 : wc.cell? ⟨gb121, 4, none⟩ = some (.int .u64 (Go.bits .and .u64 a0_4 a1_1)) := (blk_cell BK121.out 4).trans rfl
            have hcz34_5 : wc.cell? ⟨gb121, 5, none⟩ = some (.int .u64 a0_5) := (blk_cell BK121.out 5).trans rfl
            have hcz34_6 : wc.cell? ⟨gb121, 6, none⟩ = some (.int .i64 a0_6) := (blk_cell BK121.out 6).trans rfl
            have hcz34_7 : wc.cell? ⟨gb121, 7, none⟩ = some (.int .i64 a0_7) := (blk_cell BK121.out 7).trans rfl
            have hfz34_0 := blk_frozen BK121.out 0
            have hfz34_1 := blk_frozen BK121.out 1
            have hfz34_2 := blk_frozen BK121.out 2
            have hfz34_3 := blk_frozen BK121.out 3
            have hfz34_4 := blk_frozen BK121.out 4
            have hfz34_5 := blk_frozen BK121.out 5
            have hfz34_6 := blk_frozen BK121.out 6
            have hfz34_7 := blk_frozen BK121.out 7
            go_wp2
            go_meet
            case rel => exact ⟨_, (Go.bits .or .i64 a0_7 (wrap64 (Int.tmod a2 16))), H', ⟨by have := HJ5.out; first | omega | exact Nat.le_refl _⟩, ⟨by (with_reducible repeat (first | refine blk_drewN ?_ _ | refine blk_drew ?_ | refine blk_alloc ?_ _)); refine blk_far ?_ NB118_121.out _; (with_reducible repeat (first | refine blk_drewN ?_ _ | refine blk_drew ?_ | refine blk_alloc ?_ _)); exact BK118.out⟩, ⟨by (with_reducible repeat (first | refine blk_drewN ?_ _ | refine blk_drew ?_ | refine blk_alloc ?_ _)); refine blk_far ?_ NB119_121.out _; (with_reducible repeat (first | refine blk_drewN ?_ _ | refine blk_drew ?_ | refine blk_alloc ?_ _)); exact BK119.out⟩, ⟨by (with_reducible repeat (first | refine blk_drewN ?_ _ | refine blk_drew ?_ | refine blk_alloc ?_ _)); refine blk_put (cs := #[.bool a0_0, .bool a0_1, .int .u64 (Go.bits .and .u64 a0_2 a1_0), .int .u64 (Go.bits .or .u64 a0_3 a1_0), .int .u64 (Go.bits .and .u64 a0_4 a1_1), .int .u64 a0_5, .int .i64 a0_6, .int .i64 a0_7]) ?_ 7 _ rfl; (with_reducible repeat (first | refine blk_drewN ?_ _ | refine blk_drew ?_ | refine blk_alloc ?_ _)); exact BK121.out⟩, ⟨by repeat (first | (with_reducible first | exact HB.out | apply below_alloc | apply pw_below_drewN | apply below_drew1 | refine below_set ?_ GE118.out | refine below_set ?_ GE119.out | refine below_set ?_ GE121.out) | exact HB.out)⟩⟩
          · replace c29 := Bool.eq_false_iff.mpr c29
            subst c29
            have H1 : (bureaulaw20_GateLower.j1 kj5 a0_0 a0_1 a0_2 a0_3 a0_4 a0_5 a0_6 a0_7 a0_0 a0_1 (Go.bits .and .u64 a0_2 a1_0) (Go.bits .or .u64 a0_3 a1_0) (Go.bits .and .u64 a0_4 a1_1) a0_5 a0_6 a0_7) = some r := by rw [if_neg (show ¬ (false = true) by decide)] at H; exact H
            clear H
            have H := H1
            clear H1
            have H' := Aside0.mk H
            clear H
            go_wp2
            go_meet
            case rel => exact ⟨_, (a0_7), H', ⟨by have := HJ5.out; first | omega | exact Nat.le_refl _⟩, ⟨by (with_reducible repeat (first | refine blk_drewN ?_ _ | refine blk_drew ?_ | refine blk_alloc ?_ _)); exact BK118.out⟩, ⟨by (with_reducible repeat (first | refine blk_drewN ?_ _ | refine blk_drew ?_ | refine blk_alloc ?_ _)); exact BK119.out⟩, ⟨by (with_reducible repeat (first | refine blk_drewN ?_ _ | refine blk_drew ?_ | refine blk_alloc ?_ _)); exact BK121.out⟩, ⟨by repeat (first | (with_reducible first | exact HB.out | apply below_alloc | apply pw_below_drewN | apply below_drew1 | refine below_set ?_ GE118.out | refine below_set ?_ GE119.out | refine below_set ?_ GE121.out) | exact HB.out)⟩⟩
        case rest =>
          clear HC28
          try clear c1
          try clear c2
          try clear p2
          try clear c3
          try clear c4
          try clear c5
          try clear p6
          try clear c7
          try clear c10
          try clear c13
          try clear c14
          try clear c21
          try clear c21b0
          try clear c22
          try clear c23
          try clear c25
          try clear c26
          try clear c29
          try clear c30
          try clear c31
          try clear c33
          try clear hcz11_0
          try clear hcz11_1
          try clear hcz11_2
          try clear hcz11_3
          try clear hcz11_4
          try clear hcz11_5
          try clear hcz11_6
          try clear hcz11_7
          try clear hcz15_0
          try clear hcz15_1
          try clear hcz15_2
          try clear hcz15_3
          try clear hcz15_4
          try clear hcz15_5
          try clear hcz15_6
          try clear hcz15_7
          try clear hcz24_0
          try clear hcz24_1
          try clear hcz24_2
          try clear hcz24_3
          try clear hcz24_4
          try clear hcz24_5
          try clear hcz24_6
          try clear hcz24_7
          try clear hcz27_0
          try clear hcz27_1
          try clear hcz27_2
          try clear hcz27_3
          try clear hcz27_4
          try clear hcz27_5
          try clear hcz27_6
          try clear hcz27_7
          try clear hcz32_0
          try clear hcz32_1
          try clear hcz32_2
          try clear hcz32_3
          try clear hcz32_4
          try clear hcz32_5
          try clear hcz32_6
          try clear hcz32_7
          try clear hcz34_0
          try clear hcz34_1
          try clear hcz34_2
          try clear hcz34_3
          try clear hcz34_4
          try clear hcz34_5
          try clear hcz34_6
          try clear hcz34_7
          try clear hfz11_0
          try clear hfz11_1
          try clear hfz11_2
          try clear hfz11_3
          try clear hfz11_4
          try clear hfz11_5
          try clear hfz11_6
          try clear hfz11_7
          try clear hfz15_0
          try clear hfz15_1
          try clear hfz15_2
          try clear hfz15_3
          try clear hfz15_4
          try clear hfz15_5
          try clear hfz15_6
          try clear hfz15_7
          try clear hfz24_0
          try clear hfz24_1
          try clear hfz24_2
          try clear hfz24_3
          try clear hfz24_4
          try clear hfz24_5
          try clear hfz24_6
          try clear hfz24_7
          try clear hfz27_0
          try clear hfz27_1
          try clear hfz27_2
          try clear hfz27_3
          try clear hfz27_4
          try clear hfz27_5
          try clear hfz27_6
          try clear hfz27_7
          try clear hfz32_0
          try clear hfz32_1
          try clear hfz32_2
          try clear hfz32_3
          try clear hfz32_4
          try clear hfz32_5
          try clear hfz32_6
          try clear hfz32_7
          try clear hfz34_0
          try clear hfz34_1
          try clear hfz34_2
          try clear hfz34_3
          try clear hfz34_4
          try clear hfz34_5
          try clear hfz34_6
          try clear hfz34_7
          try clear p2
          obtain ⟨kq, x122007_27, HA, HJ27, BK118, BK119, BK121, HB⟩ := hcut
          cases kq with
          | zero => exact absurd HA.out (by simp [bureaulaw20_GateLower.j1])
          | succ kj27 =>
            have H := HA.out
            clear HA
            simp only [bureaulaw20_GateLower.j1] at H
            replace H := Option.bind_eq_some_iff.mp H
            obtain ⟨⟨t122, t123, t124, t125, t126, t127, t128, t129⟩, A350, H⟩ := H
            replace H : ((gate_Decide.f kj27 t122 t123 t124 t125 t126 t127 t128 t129).bind fun t130 => (if t130 = 0 then ((bureaulaw20_theirs.f a0_0 a0_1 (Go.bits .and .u64 a0_2 a1_0) (Go.bits .or .u64 a0_3 a1_0) (Go.bits .and .u64 a0_4 a1_1) a0_5 a0_6 x122007_27).bind fun bt131 => ((gate_Decide.f kj27 bt131.1 bt131.2.1 bt131.2.2.1 bt131.2.2.2.1 bt131.2.2.2.2.1 bt131.2.2.2.2.2.1 bt131.2.2.2.2.2.2.1 bt131.2.2.2.2.2.2.2).bind fun t139 => (some (t139 == 0)))) else (some true))) = some r := H
            have A35 := Aside0.mk A350
            clear A350
            replace H := Option.bind_eq_some_iff.mp H
            obtain ⟨t130, A360, H⟩ := H
            replace H : (if t130 = 0 then ((bureaulaw20_theirs.f a0_0 a0_1 (Go.bits .and .u64 a0_2 a1_0) (Go.bits .or .u64 a0_3 a1_0) (Go.bits .and .u64 a0_4 a1_1) a0_5 a0_6 x122007_27).bind fun bt131 => ((gate_Decide.f kj27 bt131.1 bt131.2.1 bt131.2.2.1 bt131.2.2.2.1 bt131.2.2.2.2.1 bt131.2.2.2.2.2.1 bt131.2.2.2.2.2.2.1 bt131.2.2.2.2.2.2.2).bind fun t139 => (some (t139 == 0)))) else (some true)) = some r := H
            have A36 := Aside0.mk A360
            clear A360
            by_cases c37 : t130 = 0
            · rw [if_pos c37] at H
              have c37b0 : (t130 == 0) = true := beq_iff_eq.mpr c37
              have c37b1 : (t130 != 0) = false := bne_eq_false_iff_eq.mpr c37
              clear c37
              replace H := Option.bind_eq_some_iff.mp H
              obtain ⟨⟨t131, t132, t133, t134, t135, t136, t137, t138⟩, A380, H⟩ := H
              replace H : ((gate_Decide.f kj27 t131 t132 t133 t134 t135 t136 t137 t138).bind fun t139 => (some (t139 == 0))) = some r := H
              have A38 := Aside0.mk A380
              clear A380
              replace H := Option.bind_eq_some_iff.mp H
              obtain ⟨t139, A390, H⟩ := H
              replace H : (some (t139 == 0)) = some r := H
              have A39 := Aside0.mk A390
              clear A390
              obtain rfl := Option.some.inj H
              have hnb40 := NB118_119.out
              have hnc40 := NB119_118.out
              have hnb41 := NB118_121.out
              have hnc41 := NB121_118.out
              have hcz42_0 : wc.cell? ⟨gb118, 0, none⟩ = some (.bool a0_0) := (blk_cell BK118.out 0).trans rfl
              have hcz42_1 : wc.cell? ⟨gb118, 1, none⟩ = some (.bool a0_1) := (blk_cell BK118.out 1).trans rfl
              have hcz42_2 : wc.cell? ⟨gb118, 2, none⟩ = some (.int .u64 a0_2) := (blk_cell BK118.out 2).trans rfl
              have hcz42_3 : wc.cell? ⟨gb118, 3, none⟩ = some (.int .u64 a0_3) := (blk_cell BK118.out 3).trans rfl
              have hcz42_4 : wc.cell? ⟨gb118, 4, none⟩ = some (.int .u64 a0_4) := (blk_cell BK118.out 4).trans rfl
              have hcz42_5 : wc.cell? ⟨gb118, 5, none⟩ = some (.int .u64 a0_5) := (blk_cell BK118.out 5).trans rfl
              have hcz42_6 : wc.cell? ⟨gb118, 6, none⟩ = some (.int .i64 a0_6) := (blk_cell BK118.out 6).trans rfl
              have hcz42_7 : wc.cell? ⟨gb118, 7, none⟩ = some (.int .i64 a0_7) := (blk_cell BK118.out 7).trans rfl
              have hfz42_0 := blk_frozen BK118.out 0
              have hfz42_1 := blk_frozen BK118.out 1
              have hfz42_2 := blk_frozen BK118.out 2
              have hfz42_3 := blk_frozen BK118.out 3
              have hfz42_4 := blk_frozen BK118.out 4
              have hfz42_5 := blk_frozen BK118.out 5
              have hfz42_6 := blk_frozen BK118.out 6
              have hfz42_7 := blk_frozen BK118.out 7
              go_wp2_with (first | ((with_reducible refine gate_callee (f := 9) rfl ?_); refine goesL_ (some 45) rfl rfl Try.func9 (by kernel_rfl) rfl #[.agg #[.bool a0_0, .bool a0_1, .int .u64 a0_2, .int .u64 a0_3, .int .u64 a0_4, .int .u64 a0_5, .int .i64 a0_6, .int .i64 a0_7]] rfl (by (try simp only [List.map_toArray, List.map_cons, List.map_nil]); first | done | rfl | (simp only [List.length_drop, List.length_take]; rfl)) ?_; (with_reducible refine (bureaulaw20_theirs.calls a0_0 a0_1 a0_2 a0_3 a0_4 a0_5 a0_6 a0_7 t122 t123 t124 t125 t126 t127 t128 t129 _ A35.out).mono ?_); rintro e w43 ⟨rfl, hb⟩; refine ⟨_, rfl, ?_⟩; have n0_ := Aside0.mk (blk_below (g := gb118) (o := .cells #[.bool a0_0, .bool a0_1, .int .u64 a0_2, .int .u64 a0_3, .int .u64 a0_4, .int .u64 a0_5, .int .i64 a0_6, .int .i64 a0_7] 25 (0, 0)) (by (with_reducible repeat (first | refine blk_drewN ?_ _ | refine blk_drew ?_ | refine blk_alloc ?_ _)); exact BK118.out) hb); have n1_ := Aside0.mk (blk_below (g := gb119) (o := .cells #[.int .u64 a1_0, .int .u64 a1_1] 35 (0, 0)) (by (with_reducible repeat (first | refine blk_drewN ?_ _ | refine blk_drew ?_ | refine blk_alloc ?_ _)); exact BK119.out) hb); have n2_ := Aside0.mk (blk_below (g := gb121) (o := .cells #[.bool a0_0, .bool a0_1, .int .u64 (Go.bits .and .u64 a0_2 a1_0), .int .u64 (Go.bits .or .u64 a0_3 a1_0), .int .u64 (Go.bits .and .u64 a0_4 a1_1), .int .u64 a0_5, .int .i64 a0_6, .int .i64 x122007_27] 25 (0, 0)) (by (with_reducible repeat (first | refine blk_drewN ?_ _ | refine blk_drew ?_ | refine blk_alloc ?_ _)); exact BK121.out) hb); have n3_ := Aside0.mk (below_step (by repeat (first | (with_reducible first | exact HB.out | apply below_alloc | apply pw_below_drewN | apply below_drew1 | refine below_set ?_ GE118.out | refine below_set ?_ GE119.out | refine below_set ?_ GE121.out) | exact HB.out)) hb); clear BK118; clear BK119; clear BK121; clear HB; have BK118 := n0_; have BK119 := n1_; have BK121 := n2_; have HB := n3_; clear n0_ n1_ n2_ n3_; (try clear hb); (try clear hb2); (try clear hk); (try clear hi)) | ((with_reducible refine gate_callee (f := 8) rfl ?_); refine goesL_ (some 46) rfl rfl Try.func8 (by kernel_rfl) rfl #[.agg #[.bool t122, .bool t123, .int .u64 t124, .int .u64 t125, .int .u64 t126, .int .u64 t127, .int .i64 t128, .int .i64 t129]] rfl (by (try simp only [List.map_toArray, List.map_cons, List.map_nil]); first | done | rfl | (simp only [List.length_drop, List.length_take]; rfl)) ?_; (with_reducible refine (gate_Decide.calls kj27 t122 t123 t124 t125 t126 t127 t128 t129 t130 _ A36.out).mono ?_); rintro e w44 ⟨rfl, hb⟩; refine ⟨_, rfl, ?_⟩; have n0_ := Aside0.mk (blk_below (g := gb118) (o := .cells #[.bool a0_0, .bool a0_1, .int .u64 a0_2, .int .u64 a0_3, .int .u64 a0_4, .int .u64 a0_5, .int .i64 a0_6, .int .i64 a0_7] 25 (0, 0)) (by (with_reducible repeat (first | refine blk_drewN ?_ _ | refine blk_drew ?_ | refine blk_alloc ?_ _)); exact BK118.out) hb); have n1_ := Aside0.mk (blk_below (g := gb119) (o := .cells #[.int .u64 a1_0, .int .u64 a1_1] 35 (0, 0)) (by (with_reducible repeat (first | refine blk_drewN ?_ _ | refine blk_drew ?_ | refine blk_alloc ?_ _)); exact BK119.out) hb); have n2_ := Aside0.mk (blk_below (g := gb121) (o := .cells #[.bool a0_0, .bool a0_1, .int .u64 (Go.bits .and .u64 a0_2 a1_0), .int .u64 (Go.bits .or .u64 a0_3 a1_0), .int .u64 (Go.bits .and .u64 a0_4 a1_1), .int .u64 a0_5, .int .i64 a0_6, .int .i64 x122007_27] 25 (0, 0)) (by (with_reducible repeat (first | refine blk_drewN ?_ _ | refine blk_drew ?_ | refine blk_alloc ?_ _)); exact BK121.out) hb); have n3_ := Aside0.mk (below_step (by repeat (first | (with_reducible first | exact HB.out | apply below_alloc | apply pw_below_drewN | apply below_drew1 | refine below_set ?_ GE118.out | refine below_set ?_ GE119.out | refine below_set ?_ GE121.out) | exact HB.out)) hb); clear BK118; clear BK119; clear BK121; clear HB; have BK118 := n0_; have BK119 := n1_; have BK121 := n2_; have HB := n3_; clear n0_ n1_ n2_ n3_; (try clear hb); (try clear hb2); (try clear hk); (try clear hi); have hnb45 := NB121_119.out; have hnc45 := NB119_121.out; have hcz46_0 : w44.cell? ⟨gb121, 0, none⟩ = some (.bool a0_0) := (blk_cell BK121.out 0).trans rfl; have hcz46_1 : w44.cell? ⟨gb121, 1, none⟩ = some (.bool a0_1) := (blk_cell BK121.out 1).trans rfl; have hcz46_2 : w44.cell? ⟨gb121, 2, none⟩ = some (.int .u64 (Go.bits .and .u64 a0_2 a1_0)) := (blk_cell BK121.out 2).trans rfl; have hcz46_3 : w44.cell? ⟨gb121, 3, none⟩ = some (.int .u64 (Go.bits .or .u64 a0_3 a1_0)) := (blk_cell BK121.out 3).trans rfl; have hcz46_4 : w44.cell? ⟨gb121, 4, none⟩ = some (.int .u64 (Go.bits .and .u64 a0_4 a1_1)) := (blk_cell BK121.out 4).trans rfl; have hcz46_5 : w44.cell? ⟨gb121, 5, none⟩ = some (.int .u64 a0_5) := (blk_cell BK121.out 5).trans rfl; have hcz46_6 : w44.cell? ⟨gb121, 6, none⟩ = some (.int .i64 a0_6) := (blk_cell BK121.out 6).trans rfl; have hcz46_7 : w44.cell? ⟨gb121, 7, none⟩ = some (.int .i64 x122007_27) := (blk_cell BK121.out 7).trans rfl; have hfz46_0 := blk_frozen BK121.out 0; have hfz46_1 := blk_frozen BK121.out 1; have hfz46_2 := blk_frozen BK121.out 2; have hfz46_3 := blk_frozen BK121.out 3; have hfz46_4 := blk_frozen BK121.out 4; have hfz46_5 := blk_frozen BK121.out 5; have hfz46_6 := blk_frozen BK121.out 6; have hfz46_7 := blk_frozen BK121.out 7) | (go_at_call 9; (with_reducible refine (bureaulaw20_theirs.calls a0_0 a0_1 (Go.bits .and .u64 a0_2 a1_0) (Go.bits .or .u64 a0_3 a1_0) (Go.bits .and .u64 a0_4 a1_1) a0_5 a0_6 x122007_27 t131 t132 t133 t134 t135 t136 t137 t138 _ A38.out).mono ?_); rintro e w47 ⟨rfl, hb⟩; have n0_ := Aside0.mk (blk_below (g := gb118) (o := .cells #[.bool a0_0, .bool a0_1, .int .u64 a0_2, .int .u64 a0_3, .int .u64 a0_4, .int .u64 a0_5, .int .i64 a0_6, .int .i64 a0_7] 25 (0, 0)) (by (with_reducible repeat (first | refine blk_drewN ?_ _ | refine blk_drew ?_ | refine blk_alloc ?_ _)); exact BK118.out) hb); have n1_ := Aside0.mk (blk_below (g := gb119) (o := .cells #[.int .u64 a1_0, .int .u64 a1_1] 35 (0, 0)) (by (with_reducible repeat (first | refine blk_drewN ?_ _ | refine blk_drew ?_ | refine blk_alloc ?_ _)); exact BK119.out) hb); have n2_ := Aside0.mk (blk_below (g := gb121) (o := .cells #[.bool a0_0, .bool a0_1, .int .u64 (Go.bits .and .u64 a0_2 a1_0), .int .u64 (Go.bits .or .u64 a0_3 a1_0), .int .u64 (Go.bits .and .u64 a0_4 a1_1), .int .u64 a0_5, .int .i64 a0_6, .int .i64 x122007_27] 25 (0, 0)) (by (with_reducible repeat (first | refine blk_drewN ?_ _ | refine blk_drew ?_ | refine blk_alloc ?_ _)); exact BK121.out) hb); have n3_ := Aside0.mk (below_step (by repeat (first | (with_reducible first | exact HB.out | apply below_alloc | apply pw_below_drewN | apply below_drew1 | refine below_set ?_ GE118.out | refine below_set ?_ GE119.out | refine below_set ?_ GE121.out) | exact HB.out)) hb); clear BK118; clear BK119; clear BK121; clear HB; have BK118 := n0_; have BK119 := n1_; have BK121 := n2_; have HB := n3_; clear n0_ n1_ n2_ n3_; (try clear hb); (try clear hb2); (try clear hk); (try clear hi)) | (go_at_call 8; (with_reducible refine (gate_Decide.calls kj27 t131 t132 t133 t134 t135 t136 t137 t138 t139 _ A39.out).mono ?_); rintro e w48 ⟨rfl, hb⟩; have n0_ := Aside0.mk (blk_below (g := gb118) (o := .cells #[.bool a0_0, .bool a0_1, .int .u64 a0_2, .int .u64 a0_3, .int .u64 a0_4, .int .u64 a0_5, .int .i64 a0_6, .int .i64 a0_7] 25 (0, 0)) (by (with_reducible repeat (first | refine blk_drewN ?_ _ | refine blk_drew ?_ | refine blk_alloc ?_ _)); exact BK118.out) hb); have n1_ := Aside0.mk (blk_below (g := gb119) (o := .cells #[.int .u64 a1_0, .int .u64 a1_1] 35 (0, 0)) (by (with_reducible repeat (first | refine blk_drewN ?_ _ | refine blk_drew ?_ | refine blk_alloc ?_ _)); exact BK119.out) hb); have n2_ := Aside0.mk (blk_below (g := gb121) (o := .cells #[.bool a0_0, .bool a0_1, .int .u64 (Go.bits .and .u64 a0_2 a1_0), .int .u64 (Go.bits .or .u64 a0_3 a1_0), .int .u64 (Go.bits .and .u64 a0_4 a1_1), .int .u64 a0_5, .int .i64 a0_6, .int .i64 x122007_27] 25 (0, 0)) (by (with_reducible repeat (first | refine blk_drewN ?_ _ | refine blk_drew ?_ | refine blk_alloc ?_ _)); exact BK121.out) hb); have n3_ := Aside0.mk (below_step (by repeat (first | (with_reducible first | exact HB.out | apply below_alloc | apply pw_below_drewN | apply below_drew1 | refine below_set ?_ GE118.out | refine below_set ?_ GE119.out | refine below_set ?_ GE121.out) | exact HB.out)) hb); clear BK118; clear BK119; clear BK121; clear HB; have BK118 := n0_; have BK119 := n1_; have BK121 := n2_; have HB := n3_; clear n0_ n1_ n2_ n3_; (try clear hb); (try clear hb2); (try clear hk); (try clear hi)))
              go_ret
              exact ⟨by first | rfl | (simp [errW_none, errW_some] <;> rfl) | (simp [*, errW_none, errW_some] <;> rfl), by repeat (first | (with_reducible first | exact HB.out | apply below_alloc | apply pw_below_drewN | apply below_drew1 | refine below_set ?_ GE118.out | refine below_set ?_ GE119.out | refine below_set ?_ GE121.out) | exact HB.out)⟩
            · rw [if_neg c37] at H
              have c37b0 : (t130 == 0) = false := beq_eq_false_iff_ne.mpr c37
              have c37b1 : (t130 != 0) = true := bne_iff_ne.mpr c37
              obtain rfl := Option.some.inj H
              have hnb49 := NB118_119.out
              have hnc49 := NB119_118.out
              have hnb50 := NB118_121.out
              have hnc50 := NB121_118.out
              have hcz51_0 : wc.cell? ⟨gb118, 0, none⟩ = some (.bool a0_0) := (blk_cell BK118.out 0).trans rfl
              have hcz51_1 : wc.cell? ⟨gb118, 1, none⟩ = some (.bool a0_1) := (blk_cell BK118.out 1).trans rfl
              have hcz51_2 : wc.cell? ⟨gb118, 2, none⟩ = some (.int .u64 a0_2) := (blk_cell BK118.out 2).trans rfl
              have hcz51_3 : wc.cell? ⟨gb118, 3, none⟩ = some (.int .u64 a0_3) := (blk_cell BK118.out 3).trans rfl
              have hcz51_4 : wc.cell? ⟨gb118, 4, none⟩ = some (.int .u64 a0_4) := (blk_cell BK118.out 4).trans rfl
              have hcz51_5 : wc.cell? ⟨gb118, 5, none⟩ = some (.int .u64 a0_5) := (blk_cell BK118.out 5).trans rfl
              have hcz51_6 : wc.cell? ⟨gb118, 6, none⟩ = some (.int .i64 a0_6) := (blk_cell BK118.out 6).trans rfl
              have hcz51_7 : wc.cell? ⟨gb118, 7, none⟩ = some (.int .i64 a0_7) := (blk_cell BK118.out 7).trans rfl
              have hfz51_0 := blk_frozen BK118.out 0
              have hfz51_1 := blk_frozen BK118.out 1
              have hfz51_2 := blk_frozen BK118.out 2
              have hfz51_3 := blk_frozen BK118.out 3
              have hfz51_4 := blk_frozen BK118.out 4
              have hfz51_5 := blk_frozen BK118.out 5
              have hfz51_6 := blk_frozen BK118.out 6
              have hfz51_7 := blk_frozen BK118.out 7
              go_wp2_with (first | ((with_reducible refine gate_callee (f := 9) rfl ?_); refine goesL_ (some 45) rfl rfl Try.func9 (by kernel_rfl) rfl #[.agg #[.bool a0_0, .bool a0_1, .int .u64 a0_2, .int .u64 a0_3, .int .u64 a0_4, .int .u64 a0_5, .int .i64 a0_6, .int .i64 a0_7]] rfl (by (try simp only [List.map_toArray, List.map_cons, List.map_nil]); first | done | rfl | (simp only [List.length_drop, List.length_take]; rfl)) ?_; (with_reducible refine (bureaulaw20_theirs.calls a0_0 a0_1 a0_2 a0_3 a0_4 a0_5 a0_6 a0_7 t122 t123 t124 t125 t126 t127 t128 t129 _ A35.out).mono ?_); rintro e w52 ⟨rfl, hb⟩; refine ⟨_, rfl, ?_⟩; have n0_ := Aside0.mk (blk_below (g := gb118) (o := .cells #[.bool a0_0, .bool a0_1, .int .u64 a0_2, .int .u64 a0_3, .int .u64 a0_4, .int .u64 a0_5, .int .i64 a0_6, .int .i64 a0_7] 25 (0, 0)) (by (with_reducible repeat (first | refine blk_drewN ?_ _ | refine blk_drew ?_ | refine blk_alloc ?_ _)); exact BK118.out) hb); have n1_ := Aside0.mk (blk_below (g := gb119) (o := .cells #[.int .u64 a1_0, .int .u64 a1_1] 35 (0, 0)) (by (with_reducible repeat (first | refine blk_drewN ?_ _ | refine blk_drew ?_ | refine blk_alloc ?_ _)); exact BK119.out) hb); have n2_ := Aside0.mk (blk_below (g := gb121) (o := .cells #[.bool a0_0, .bool a0_1, .int .u64 (Go.bits .and .u64 a0_2 a1_0), .int .u64 (Go.bits .or .u64 a0_3 a1_0), .int .u64 (Go.bits .and .u64 a0_4 a1_1), .int .u64 a0_5, .int .i64 a0_6, .int .i64 x122007_27] 25 (0, 0)) (by (with_reducible repeat (first | refine blk_drewN ?_ _ | refine blk_drew ?_ | refine blk_alloc ?_ _)); exact BK121.out) hb); have n3_ := Aside0.mk (below_step (by repeat (first | (with_reducible first | exact HB.out | apply below_alloc | apply pw_below_drewN | apply below_drew1 | refine below_set ?_ GE118.out | refine below_set ?_ GE119.out | refine below_set ?_ GE121.out) | exact HB.out)) hb); clear BK118; clear BK119; clear BK121; clear HB; have BK118 := n0_; have BK119 := n1_; have BK121 := n2_; have HB := n3_; clear n0_ n1_ n2_ n3_; (try clear hb); (try clear hb2); (try clear hk); (try clear hi)) | ((with_reducible refine gate_callee (f := 8) rfl ?_); refine goesL_ (some 46) rfl rfl Try.func8 (by kernel_rfl) rfl #[.agg #[.bool t122, .bool t123, .int .u64 t124, .int .u64 t125, .int .u64 t126, .int .u64 t127, .int .i64 t128, .int .i64 t129]] rfl (by (try simp only [List.map_toArray, List.map_cons, List.map_nil]); first | done | rfl | (simp only [List.length_drop, List.length_take]; rfl)) ?_; (with_reducible refine (gate_Decide.calls kj27 t122 t123 t124 t125 t126 t127 t128 t129 t130 _ A36.out).mono ?_); rintro e w53 ⟨rfl, hb⟩; refine ⟨_, rfl, ?_⟩; have n0_ := Aside0.mk (blk_below (g := gb118) (o := .cells #[.bool a0_0, .bool a0_1, .int .u64 a0_2, .int .u64 a0_3, .int .u64 a0_4, .int .u64 a0_5, .int .i64 a0_6, .int .i64 a0_7] 25 (0, 0)) (by (with_reducible repeat (first | refine blk_drewN ?_ _ | refine blk_drew ?_ | refine blk_alloc ?_ _)); exact BK118.out) hb); have n1_ := Aside0.mk (blk_below (g := gb119) (o := .cells #[.int .u64 a1_0, .int .u64 a1_1] 35 (0, 0)) (by (with_reducible repeat (first | refine blk_drewN ?_ _ | refine blk_drew ?_ | refine blk_alloc ?_ _)); exact BK119.out) hb); have n2_ := Aside0.mk (blk_below (g := gb121) (o := .cells #[.bool a0_0, .bool a0_1, .int .u64 (Go.bits .and .u64 a0_2 a1_0), .int .u64 (Go.bits .or .u64 a0_3 a1_0), .int .u64 (Go.bits .and .u64 a0_4 a1_1), .int .u64 a0_5, .int .i64 a0_6, .int .i64 x122007_27] 25 (0, 0)) (by (with_reducible repeat (first | refine blk_drewN ?_ _ | refine blk_drew ?_ | refine blk_alloc ?_ _)); exact BK121.out) hb); have n3_ := Aside0.mk (below_step (by repeat (first | (with_reducible first | exact HB.out | apply below_alloc | apply pw_below_drewN | apply below_drew1 | refine below_set ?_ GE118.out | refine below_set ?_ GE119.out | refine below_set ?_ GE121.out) | exact HB.out)) hb); clear BK118; clear BK119; clear BK121; clear HB; have BK118 := n0_; have BK119 := n1_; have BK121 := n2_; have HB := n3_; clear n0_ n1_ n2_ n3_; (try clear hb); (try clear hb2); (try clear hk); (try clear hi)))
              go_ret
              exact ⟨by first | rfl | (simp [errW_none, errW_some] <;> rfl) | (simp [*, errW_none, errW_some] <;> rfl), by repeat (first | (with_reducible first | exact HB.out | apply below_alloc | apply pw_below_drewN | apply below_drew1 | refine below_set ?_ GE118.out | refine below_set ?_ GE119.out | refine below_set ?_ GE121.out) | exact HB.out)⟩
  · replace c5 := Bool.eq_false_iff.mpr c5
    subst c5
    have H1 : (some false) = some r := by rw [if_neg (show ¬ (false = true) by decide)] at H; exact H
    clear H
    have H := H1
    clear H1
    obtain rfl := Option.some.inj H
    go_enter Try.func4, Try.ntmps4
    go_wp2_with (first | ((with_reducible refine gate_dst (N := 3) rfl ?_); refine box_event ?hg (N := 3) ?hd (cs := #[.bool a0_0, .bool a0_1, .int .u64 a0_2, .int .u64 a0_3, .int .u64 a0_4, .int .u64 a0_5, .int .i64 a0_6, .int .i64 a0_7]) (t := 25) ?hr ?_; (case hd => rfl); (case hg => rfl); (case hr => first | (go_simp; done) | (go_simp; rfl)); intro gb118 hg w54 hbox hb; have n0_ := Aside0.mk (below_step (by repeat (first | (with_reducible first | exact HB.out | apply below_alloc | apply pw_below_drewN | apply below_drew1) | exact HB.out)) hb); have n1_ := Aside0.mk (hbox); have n2_ := Aside0.mk ((by rw [hg]; exact (below_size (by repeat (first | (with_reducible first | exact HB.out | apply below_alloc | apply pw_below_drewN | apply below_drew1) | exact HB.out))) : w.heap.size ≤ gb118)); have n3_ := Aside0.mk ((by rw [hg]; exact (below_size (by repeat (first | (with_reducible first | exact HB.out | apply below_alloc | apply pw_below_drewN | apply below_drew1) | exact HB.out))) : w.heap.size ≤ gb118)); clear HB; have HB := n0_; have BK118 := n1_; have GW118 := n2_; have GE118 := n3_; clear n0_ n1_ n2_ n3_; clear hb hbox hg) | ((with_reducible refine gate_dst (N := 4) rfl ?_); refine box_event ?hg (N := 4) ?hd (cs := #[.int .u64 a1_0, .int .u64 a1_1]) (t := 35) ?hr ?_; (case hd => rfl); (case hg => rfl); (case hr => first | (go_simp; done) | (go_simp; rfl)); intro gb119 hg w55 hbox hb; have n0_ := Aside0.mk (blk_below (g := gb118) (o := .cells #[.bool a0_0, .bool a0_1, .int .u64 a0_2, .int .u64 a0_3, .int .u64 a0_4, .int .u64 a0_5, .int .i64 a0_6, .int .i64 a0_7] 25 (0, 0)) (by (with_reducible repeat (first | refine blk_drewN ?_ _ | refine blk_drew ?_ | refine blk_alloc ?_ _)); exact BK118.out) hb); have n1_ := Aside0.mk (below_step (by repeat (first | (with_reducible first | exact HB.out | apply below_alloc | apply pw_below_drewN | apply below_drew1 | refine below_set ?_ GE118.out) | exact HB.out)) hb); have n2_ := Aside0.mk (hbox); have n3_ := Aside0.mk ((by rw [hg]; exact (below_size (by repeat (first | (with_reducible first | exact HB.out | apply below_alloc | apply pw_below_drewN | apply below_drew1 | refine below_set ?_ GE118.out) | exact HB.out))) : w.heap.size ≤ gb119)); have n4_ := Aside0.mk ((by rw [hg]; exact (below_size (by repeat (first | (with_reducible first | exact HB.out | apply below_alloc | apply pw_below_drewN | apply below_drew1 | refine below_set ?_ GE118.out) | exact HB.out))) : w.heap.size ≤ gb119)); have n5_ := Aside0.mk ((by rw [hg]; exact Nat.ne_of_lt (blk_lt (g := gb118) (o := .cells #[.bool a0_0, .bool a0_1, .int .u64 a0_2, .int .u64 a0_3, .int .u64 a0_4, .int .u64 a0_5, .int .i64 a0_6, .int .i64 a0_7] 25 (0, 0)) (by (with_reducible repeat (first | refine blk_drewN ?_ _ | refine blk_drew ?_ | refine blk_alloc ?_ _)); exact BK118.out)) : gb118 ≠ gb119)); have n6_ := Aside0.mk ((by rw [hg]; exact Nat.ne_of_gt (blk_lt (g := gb118) (o := .cells #[.bool a0_0, .bool a0_1, .int .u64 a0_2, .int .u64 a0_3, .int .u64 a0_4, .int .u64 a0_5, .int .i64 a0_6, .int .i64 a0_7] 25 (0, 0)) (by (with_reducible repeat (first | refine blk_drewN ?_ _ | refine blk_drew ?_ | refine blk_alloc ?_ _)); exact BK118.out)) : gb119 ≠ gb118)); clear BK118; clear HB; have BK118 := n0_; have HB := n1_; have BK119 := n2_; have GW119 := n3_; have GE119 := n4_; have NB118_119 := n5_; have NB119_118 := n6_; clear n0_ n1_ n2_ n3_ n4_ n5_ n6_; clear hb hbox hg) | ((with_reducible refine gate_callee (f := 7) rfl ?_); refine goesL_ (some 8) rfl rfl Try.func7 (by kernel_rfl) rfl #[] rfl (by (try simp only [List.map_toArray, List.map_cons, List.map_nil]); first | done | rfl | (simp only [List.length_drop, List.length_take]; rfl)) ?_; (with_reducible refine (bureaulaw20_alive.calls k  false _ A4.out).mono ?_); rintro e w56 ⟨rfl, hb⟩; refine ⟨_, rfl, ?_⟩; have n0_ := Aside0.mk (blk_below (g := gb118) (o := .cells #[.bool a0_0, .bool a0_1, .int .u64 a0_2, .int .u64 a0_3, .int .u64 a0_4, .int .u64 a0_5, .int .i64 a0_6, .int .i64 a0_7] 25 (0, 0)) (by (with_reducible repeat (first | refine blk_drewN ?_ _ | refine blk_drew ?_ | refine blk_alloc ?_ _)); exact BK118.out) hb); have n1_ := Aside0.mk (blk_below (g := gb119) (o := .cells #[.int .u64 a1_0, .int .u64 a1_1] 35 (0, 0)) (by (with_reducible repeat (first | refine blk_drewN ?_ _ | refine blk_drew ?_ | refine blk_alloc ?_ _)); exact BK119.out) hb); have n2_ := Aside0.mk (below_step (by repeat (first | (with_reducible first | exact HB.out | apply below_alloc | apply pw_below_drewN | apply below_drew1 | refine below_set ?_ GE118.out | refine below_set ?_ GE119.out) | exact HB.out)) hb); clear BK118; clear BK119; clear HB; have BK118 := n0_; have BK119 := n1_; have HB := n2_; clear n0_ n1_ n2_; (try clear hb); (try clear hb2); (try clear hk); (try clear hi)))
    go_ret
    exact ⟨by first | rfl | (simp [errW_none, errW_some] <;> rfl) | (simp [*, errW_none, errW_some] <;> rfl), by repeat (first | (with_reducible first | exact HB.out | apply below_alloc | apply pw_below_drewN | apply below_drew1 | refine below_set ?_ GE118.out | refine below_set ?_ GE119.out) | exact HB.out)⟩

/-- What is to be proved of bureaulaw20_GateLower: no program in it. -/
def bureaulaw20_GateLower.Pure : Prop := ∀ (a0_0 : Bool) (a0_1 : Bool) (a0_2 : Int) (a0_3 : Int) (a0_4 : Int) (a0_5 : Int) (a0_6 : Int) (a0_7 : Int) (a1_0 : Int) (a1_1 : Int) (a2 : Int), (Lit.int .u64 a0_2).wf = true → (Lit.int .u64 a0_3).wf = true → (Lit.int .u64 a0_4).wf = true → (Lit.int .u64 a0_5).wf = true → (Lit.int .i64 a0_6).wf = true → (Lit.int .i64 a0_7).wf = true → (Lit.int .u64 a1_0).wf = true → (Lit.int .u64 a1_1).wf = true → (Lit.int .u8 a2).wf = true → ∃ k, bureaulaw20_GateLower.f k a0_0 a0_1 a0_2 a0_3 a0_4 a0_5 a0_6 a0_7 a1_0 a1_1 a2 = some true

end Go.Proofs.Ytngfmhbhdpeedaa.XGateLower
