-- Written by this session's program (wip/xprint.py) with the kit's print, for this claim.
import Derived.Test.YtecbdhampjmlaaaXCapsActsx0
import Derived.Test.YtecbdhampjmlaaaXCapsActsx3
import Derived.Test.YtecbdhampjmlaaaXCapsActsx5
namespace Go.Proofs.Ytecbdhampjmlaaa.XCapsActs
open Go.RowKit Go.Proofs.YtecbdhampjmlaaaW.PrintWords Go.Proofs.YtecbdhampjmlaaaW.PrintLast Go.Proofs.YtecbdhampjmlaaaW.PrintMore
attribute [local go_sem] max2_int min2_int max_two min_two max_three min_three max_four min_four   -- for this text's walks alone
set_option linter.unusedVariables false
set_option linter.unusedSimpArgs false

/-! ### bureauref17_Derive: function 18 -/
def bureauref17_Derive.j0 : Nat → Int → Int → Int → Bool → List (S59) → Int → Int → Int → Int → Option ((List (S59)) × Int × Int × Int × Int × Int)
  | 0, _, _, _, _, _, _, _, _, _ => none
  | k + 1, x2, x3, x4, x24, x163000, x163001, x163002, x164000, x164001 => if x24 = true then (some (x163000, x163001, x163002, 0, 0, 2)) else ((bureauref17_both.f k x3 8).bind fun t166 => ((bureauref17_Look.f k x163000 x163001 x163002 x164000 x164001 x2 t166).bind fun bt167 => (if bt167.2.2.2.2.2.2.2.2 = 0 then ((bureauref17_give.f k x163000 x163001 x163002 0 0 bt167.2.2.1 x3 x4 x164000 x164001 false).bind fun bt177 => (some (bt177.1, bt177.2.1, bt177.2.2.1, bt177.2.2.2.1, bt177.2.2.2.2.1, bt177.2.2.2.2.2))) else (some (x163000, x163001, x163002, 0, 0, bt167.2.2.2.2.2.2.2.2)))))
def bureauref17_Derive.f (k : Nat) (l0_0 : List (S59)) (a0_1 : Int) (a0_2 : Int) (a1_0 : Int) (a1_1 : Int) (a2 : Int) (a3 : Int) (a4 : Int) : Option ((List (S59)) × Int × Int × Int × Int × Int) := if a4 < 0 then (bureauref17_Derive.j0 k a2 a3 a4 true l0_0 a0_1 a0_2 a1_0 a1_1) else (if a3 < 1 then (bureauref17_Derive.j0 k a2 a3 a4 true l0_0 a0_1 a0_2 a1_0 a1_1) else (bureauref17_Derive.j0 k a2 a3 a4 (decide (a3 > 15)) l0_0 a0_1 a0_2 a1_0 a1_1))
theorem bureauref17_Derive.mono_l : ∀ k, (∀ y0 y1 y2 y3 y4 y5 y6 y7 y8, LeO (bureauref17_Derive.j0 k y0 y1 y2 y3 y4 y5 y6 y7 y8) (bureauref17_Derive.j0 (k + 1) y0 y1 y2 y3 y4 y5 y6 y7 y8))
  | 0 => fun _ _ _ _ _ _ _ _ _ r h => by simp [bureauref17_Derive.j0] at h
  | k + 1 => by
    have ih0 := bureauref17_Derive.mono_l k
    · intro y0 y1 y2 y3 y4 y5 y6 y7 y8
      unfold bureauref17_Derive.j0
      repeat' first
      | (with_reducible exact ih0 _ _ _ _ _ _ _ _ _)
      | (with_reducible exact bureauref17_Look.mono _ _ _ _ _ _ _ _)
      | (with_reducible exact bureauref17_both.mono _ _ _)
      | (with_reducible exact bureauref17_give.mono _ _ _ _ _ _ _ _ _ _ _ _)
      | (with_reducible exact LeO.refl _)
      | (with_reducible exact LeO.none _)
      | (with_reducible refine LeO.ite ?_ ?_)
      | (with_reducible refine LeO.bind ?_ (fun _ => ?_))
      | exact ih0 _ _ _ _ _ _ _ _ _
      | exact bureauref17_Look.mono _ _ _ _ _ _ _ _
      | exact bureauref17_both.mono _ _ _
      | exact bureauref17_give.mono _ _ _ _ _ _ _ _ _ _ _ _
      | exact LeO.none _
      | refine LeO.ite ?_ ?_
      | refine LeO.bind ?_ (fun _ => ?_)
theorem bureauref17_Derive.mono : ∀ a0 a1 a2 a3 a4 a5 a6 a7 k, LeO (bureauref17_Derive.f k a0 a1 a2 a3 a4 a5 a6 a7) (bureauref17_Derive.f (k + 1) a0 a1 a2 a3 a4 a5 a6 a7) := by
  intro a0 a1 a2 a3 a4 a5 a6 a7 k
  have ih0 := bureauref17_Derive.mono_l k
  unfold bureauref17_Derive.f
  repeat' first
      | (with_reducible exact ih0 _ _ _ _ _ _ _ _ _)
      | (with_reducible exact bureauref17_Look.mono _ _ _ _ _ _ _ _)
      | (with_reducible exact bureauref17_both.mono _ _ _)
      | (with_reducible exact bureauref17_give.mono _ _ _ _ _ _ _ _ _ _ _ _)
      | (with_reducible exact LeO.refl _)
      | (with_reducible exact LeO.none _)
      | (with_reducible refine LeO.ite ?_ ?_)
      | (with_reducible refine LeO.bind ?_ (fun _ => ?_))
      | exact ih0 _ _ _ _ _ _ _ _ _
      | exact bureauref17_Look.mono _ _ _ _ _ _ _ _
      | exact bureauref17_both.mono _ _ _
      | exact bureauref17_give.mono _ _ _ _ _ _ _ _ _ _ _ _
      | exact LeO.none _
      | refine LeO.ite ?_ ?_
      | refine LeO.bind ?_ (fun _ => ?_)
def bureauref17_Derive.T3 : Bool × List (List Nat × List Nat) := (true, [([], []), ([], []), ([], []), ([], []), ([3], [3]), ([0, 1, 2, 4, 4], [0, 1, 2, 4]), ([5], [5]), ([6], [6]), ([6], [6]), ([], []), ([9, 7, 5, 0, 1, 2, 3, 4, 5, 6, 7, 9], [7, 9]), ([8, 10, 0, 1, 2, 3, 4, 5, 6, 7, 8, 9, 10], [8])])
def bureauref17_Derive.B3 : List Nat := [0, 0, 0, 0, 8, 31, 63, 127, 127, 0, 767, 2047]
theorem bureauref17_Derive.tab3 : rtab .any (opsOf Try.f18 3) = bureauref17_Derive.T3 := by kernel_rfl
theorem bureauref17_Derive.bits3 : waitsOk bureauref17_Derive.T3.2 bureauref17_Derive.B3 = true := by kernel_rfl
set_option maxHeartbeats 8000000 in
set_option maxRecDepth 100000 in
theorem bureauref17_Derive.calls (k : Nat) (P0_0_ : Nat → Prop) (u9000_ : Value) (l0_0 : List (S59)) (a0_1 : Int) (a0_2 : Int) (a1_0 : Int) (a1_1 : Int) (a2 : Int) (a3 : Int) (a4 : Int) (r1 : List (S59)) (r2 : Int) (r3 : Int) (r4 : Int) (r5 : Int) (r6 : Int) (w0 w : World) (hB : Below w0.heap.size w0 w) (ho0_0 : Kd.R k59 59 w w0.heap.size P0_0_ u9000_ l0_0) (h : bureauref17_Derive.f k l0_0 a0_1 a0_2 a1_0 a1_1 a2 a3 a4 = some (r1, r2, r3, r4, r5, r6)) :
    Calls Try.prog 18 #[.agg #[u9000_, .int .i64 a0_1, .int .i64 a0_2], .agg #[.int .i64 a1_0, .int .i64 a1_1], .int .i64 a2, .int .i64 a3, .int .i64 a4] w fun e w' => ∃ v0_ : Value, e = .returned (.tuple #[.agg #[v0_, .int .i64 r2, .int .i64 r3], .agg #[.int .i64 r4, .int .i64 r5], .int .i64 r6]) ∧ Kd.R k59 59 w' w0.heap.size (fun k_ => (P0_0_ k_ ∨ w.heap.size ≤ k_)) v0_ r1 ∧ Below w0.heap.size w0 w' ∧ Kept w w' (fun k_ => P0_0_ k_) := by
  have hu49 := Try.underlying49
  have hu28 := Try.underlying28
  have hu59 := Try.underlying59
  have HO0_0 := Aside0.mk (show Kd.R k59 59 w w0.heap.size (fun k_ => (P0_0_ k_ ∨ w.heap.size ≤ k_)) u9000_ l0_0 from Kd.R_mono ho0_0 (fun k_ hk => (.inl hk)))
  have HK := Aside0.mk (Kept.refl w (fun k_ => P0_0_ k_))
  have HW0 := Aside0.mk hB.size
  have HB := Aside0.mk hB
  clear hB
  have H : (if a4 < 0 then (bureauref17_Derive.j0 k a2 a3 a4 true l0_0 a0_1 a0_2 a1_0 a1_1) else (if a3 < 1 then (bureauref17_Derive.j0 k a2 a3 a4 true l0_0 a0_1 a0_2 a1_0 a1_1) else (bureauref17_Derive.j0 k a2 a3 a4 (decide (a3 > 15)) l0_0 a0_1 a0_2 a1_0 a1_1))) = some (r1, r2, r3, r4, r5, r6) := h
  clear h
  have HC6 := Aside0.mk H
  clear H
  obtain ⟨Ao7, co7, eo7⟩ := Kd.R_slice HO0_0.out
  subst eo7
  go_enter Try.func18, Try.ntmps18
  go_upto_region 1 with (first | ((with_reducible refine gate_dst (N := 5) rfl ?_); refine box_event ?hg (N := 5) ?hd (cs := #[.slice Ao7 l0_0.length co7, .int .i64 a0_1, .int .i64 a0_2]) (t := 49) ?hr ?_; (case hd => rfl); (case hg => rfl); (case hr => first | (go_simp; done) | (go_simp; rfl)); intro gb162 hg w8 hbox hb; have n0_ := Aside0.mk (Kd.R_below (by (with_reducible repeat (first | apply Kd.R_alloc | apply Kd.R_drewN | apply Kd.R_drew)); exact HO0_0.out) hb); have n1_ := Aside0.mk (Kept.below (S := (fun k_ => P0_0_ k_)) (by repeat (first | (with_reducible first | exact HK.out | apply Kept.alloc | apply Kept.drewN | apply Kept.drew) | exact HK.out)) hb); have n2_ := Aside0.mk (below_step (by repeat (first | (with_reducible first | exact HB.out | apply below_alloc | apply pw_below_drewN | apply below_drew1) | exact HB.out)) hb); have n3_ := Aside0.mk (hbox); have n4_ := Aside0.mk ((by rw [hg]; exact (by first | exact HK.out.1 | exact (show Kept w _ (fun k_ => P0_0_ k_) from by repeat (first | (with_reducible first | exact HK.out | apply Kept.alloc | apply Kept.drewN | apply Kept.drew) | exact HK.out)).1) : w.heap.size ≤ gb162)); have n5_ := Aside0.mk ((by rw [hg]; exact (below_size (by repeat (first | (with_reducible first | exact HB.out | apply below_alloc | apply pw_below_drewN | apply below_drew1) | exact HB.out))) : w0.heap.size ≤ gb162)); clear HO0_0; clear HK; clear HB; have HO0_0 := n0_; have HK := n1_; have HB := n2_; have BK162 := n3_; have GW162 := n4_; have GE162 := n5_; clear n0_ n1_ n2_ n3_ n4_ n5_; clear hb hbox hg) | ((with_reducible refine gate_dst (N := 6) rfl ?_); refine box_event ?hg (N := 6) ?hd (cs := #[.int .i64 a1_0, .int .i64 a1_1]) (t := 28) ?hr ?_; (case hd => rfl); (case hg => rfl); (case hr => first | (go_simp; done) | (go_simp; rfl)); intro gb163 hg w9 hbox hb; have n0_ := Aside0.mk (Kd.R_below (by (with_reducible repeat (first | apply Kd.R_alloc | apply Kd.R_drewN | apply Kd.R_drew)); exact HO0_0.out) hb); have n1_ := Aside0.mk (blk_below (g := gb162) (o := .cells #[.slice Ao7 l0_0.length co7, .int .i64 a0_1, .int .i64 a0_2] 49 (0, 0)) (by (with_reducible repeat (first | refine blk_drewN ?_ _ | refine blk_drew ?_ | refine blk_alloc ?_ _)); exact BK162.out) hb); have n2_ := Aside0.mk (Kept.below (S := (fun k_ => P0_0_ k_)) (by repeat (first | (with_reducible first | exact HK.out | apply Kept.alloc | apply Kept.drewN | apply Kept.drew | refine Kept.setCell ?_ (.inr GW162.out) _) | exact HK.out)) hb); have n3_ := Aside0.mk (below_step (by repeat (first | (with_reducible first | exact HB.out | apply below_alloc | apply pw_below_drewN | apply below_drew1 | refine below_set ?_ GE162.out) | exact HB.out)) hb); have n4_ := Aside0.mk (hbox); have n5_ := Aside0.mk ((by rw [hg]; exact (by first | exact HK.out.1 | exact (show Kept w _ (fun k_ => P0_0_ k_) from by repeat (first | (with_reducible first | exact HK.out | apply Kept.alloc | apply Kept.drewN | apply Kept.drew | refine Kept.setCell ?_ (.inr GW162.out) _) | exact HK.out)).1) : w.heap.size ≤ gb163)); have n6_ := Aside0.mk ((by rw [hg]; exact (below_size (by repeat (first | (with_reducible first | exact HB.out | apply below_alloc | apply pw_below_drewN | apply below_drew1 | refine below_set ?_ GE162.out) | exact HB.out))) : w0.heap.size ≤ gb163)); have n7_ := Aside0.mk ((by rw [hg]; exact Nat.ne_of_lt (blk_lt (g := gb162) (o := .cells #[.slice Ao7 l0_0.length co7, .int .i64 a0_1, .int .i64 a0_2] 49 (0, 0)) (by (with_reducible repeat (first | refine blk_drewN ?_ _ | refine blk_drew ?_ | refine blk_alloc ?_ _)); exact BK162.out)) : gb162 ≠ gb163)); have n8_ := Aside0.mk ((by rw [hg]; exact Nat.ne_of_gt (blk_lt (g := gb162) (o := .cells #[.slice Ao7 l0_0.length co7, .int .i64 a0_1, .int .i64 a0_2] 49 (0, 0)) (by (with_reducible repeat (first | refine blk_drewN ?_ _ | refine blk_drew ?_ | refine blk_alloc ?_ _)); exact BK162.out)) : gb163 ≠ gb162)); clear HO0_0; clear BK162; clear HK; clear HB; have HO0_0 := n0_; have BK162 := n1_; have HK := n2_; have HB := n3_; have BK163 := n4_; have GW163 := n5_; have GE163 := n6_; have NB162_163 := n7_; have NB163_162 := n8_; clear n0_ n1_ n2_ n3_ n4_ n5_ n6_ n7_ n8_; clear hb hbox hg) | ((with_reducible refine gate_dst (N := 10) rfl ?_); refine box_event ?hg (N := 10) ?hd (cs := #[.slice none 0 0, .int .i64 0, .int .i64 0]) (t := 49) ?hr ?_; (case hd => rfl); (case hg => rfl); (case hr => first | (go_simp; done) | (go_simp; rfl)); intro gb164 hg w10 hbox hb; have n0_ := Aside0.mk (Kd.R_below (by (with_reducible repeat (first | apply Kd.R_alloc | apply Kd.R_drewN | apply Kd.R_drew)); exact HO0_0.out) hb); have n1_ := Aside0.mk (blk_below (g := gb162) (o := .cells #[.slice Ao7 l0_0.length co7, .int .i64 a0_1, .int .i64 a0_2] 49 (0, 0)) (by (with_reducible repeat (first | refine blk_drewN ?_ _ | refine blk_drew ?_ | refine blk_alloc ?_ _)); exact BK162.out) hb); have n2_ := Aside0.mk (blk_below (g := gb163) (o := .cells #[.int .i64 a1_0, .int .i64 a1_1] 28 (0, 0)) (by (with_reducible repeat (first | refine blk_drewN ?_ _ | refine blk_drew ?_ | refine blk_alloc ?_ _)); exact BK163.out) hb); have n3_ := Aside0.mk (Kept.below (S := (fun k_ => P0_0_ k_)) (by repeat (first | (with_reducible first | exact HK.out | apply Kept.alloc | apply Kept.drewN | apply Kept.drew | refine Kept.setCell ?_ (.inr GW162.out) _ | refine Kept.setCell ?_ (.inr GW163.out) _) | exact HK.out)) hb); have n4_ := Aside0.mk (below_step (by repeat (first | (with_reducible first | exact HB.out | apply below_alloc | apply pw_below_drewN | apply below_drew1 | refine below_set ?_ GE162.out | refine below_set ?_ GE163.out) | exact HB.out)) hb); have n5_ := Aside0.mk (hbox); have n6_ := Aside0.mk ((by rw [hg]; exact (by first | exact HK.out.1 | exact (show Kept w _ (fun k_ => P0_0_ k_) from by repeat (first | (with_reducible first | exact HK.out | apply Kept.alloc | apply Kept.drewN | apply Kept.drew | refine Kept.setCell ?_ (.inr GW162.out) _ | refine Kept.setCell ?_ (.inr GW163.out) _) | exact HK.out)).1) : w.heap.size ≤ gb164)); have n7_ := Aside0.mk ((by rw [hg]; exact (below_size (by repeat (first | (with_reducible first | exact HB.out | apply below_alloc | apply pw_below_drewN | apply below_drew1 | refine below_set ?_ GE162.out | refine below_set ?_ GE163.out) | exact HB.out))) : w0.heap.size ≤ gb164)); have n8_ := Aside0.mk ((by rw [hg]; exact Nat.ne_of_lt (blk_lt (g := gb162) (o := .cells #[.slice Ao7 l0_0.length co7, .int .i64 a0_1, .int .i64 a0_2] 49 (0, 0)) (by (with_reducible repeat (first | refine blk_drewN ?_ _ | refine blk_drew ?_ | refine blk_alloc ?_ _)); exact BK162.out)) : gb162 ≠ gb164)); have n9_ := Aside0.mk ((by rw [hg]; exact Nat.ne_of_gt (blk_lt (g := gb162) (o := .cells #[.slice Ao7 l0_0.length co7, .int .i64 a0_1, .int .i64 a0_2] 49 (0, 0)) (by (with_reducible repeat (first | refine blk_drewN ?_ _ | refine blk_drew ?_ | refine blk_alloc ?_ _)); exact BK162.out)) : gb164 ≠ gb162)); have n10_ := Aside0.mk ((by rw [hg]; exact Nat.ne_of_lt (blk_lt (g := gb163) (o := .cells #[.int .i64 a1_0, .int .i64 a1_1] 28 (0, 0)) (by (with_reducible repeat (first | refine blk_drewN ?_ _ | refine blk_drew ?_ | refine blk_alloc ?_ _)); exact BK163.out)) : gb163 ≠ gb164)); have n11_ := Aside0.mk ((by rw [hg]; exact Nat.ne_of_gt (blk_lt (g := gb163) (o := .cells #[.int .i64 a1_0, .int .i64 a1_1] 28 (0, 0)) (by (with_reducible repeat (first | refine blk_drewN ?_ _ | refine blk_drew ?_ | refine blk_alloc ?_ _)); exact BK163.out)) : gb164 ≠ gb163)); clear HO0_0; clear BK162; clear BK163; clear HK; clear HB; have HO0_0 := n0_; have BK162 := n1_; have BK163 := n2_; have HK := n3_; have HB := n4_; have BK164 := n5_; have GW164 := n6_; have GE164 := n7_; have NB162_164 := n8_; have NB164_162 := n9_; have NB163_164 := n10_; have NB164_163 := n11_; clear n0_ n1_ n2_ n3_ n4_ n5_ n6_ n7_ n8_ n9_ n10_ n11_; clear hb hbox hg) | ((with_reducible refine gate_dst (N := 11) rfl ?_); refine box_event ?hg (N := 11) ?hd (cs := #[.int .i64 0, .int .i64 0]) (t := 28) ?hr ?_; (case hd => rfl); (case hg => rfl); (case hr => first | (go_simp; done) | (go_simp; rfl)); intro gb165 hg w11 hbox hb; have n0_ := Aside0.mk (Kd.R_below (by (with_reducible repeat (first | apply Kd.R_alloc | apply Kd.R_drewN | apply Kd.R_drew)); exact HO0_0.out) hb); have n1_ := Aside0.mk (blk_below (g := gb162) (o := .cells #[.slice Ao7 l0_0.length co7, .int .i64 a0_1, .int .i64 a0_2] 49 (0, 0)) (by (with_reducible repeat (first | refine blk_drewN ?_ _ | refine blk_drew ?_ | refine blk_alloc ?_ _)); exact BK162.out) hb); have n2_ := Aside0.mk (blk_below (g := gb163) (o := .cells #[.int .i64 a1_0, .int .i64 a1_1] 28 (0, 0)) (by (with_reducible repeat (first | refine blk_drewN ?_ _ | refine blk_drew ?_ | refine blk_alloc ?_ _)); exact BK163.out) hb); have n3_ := Aside0.mk (blk_below (g := gb164) (o := .cells #[.slice none 0 0, .int .i64 0, .int .i64 0] 49 (0, 0)) (by (with_reducible repeat (first | refine blk_drewN ?_ _ | refine blk_drew ?_ | refine blk_alloc ?_ _)); exact BK164.out) hb); have n4_ := Aside0.mk (Kept.below (S := (fun k_ => P0_0_ k_)) (by repeat (first | (with_reducible first | exact HK.out | apply Kept.alloc | apply Kept.drewN | apply Kept.drew | refine Kept.setCell ?_ (.inr GW162.out) _ | refine Kept.setCell ?_ (.inr GW163.out) _ | refine Kept.setCell ?_ (.inr GW164.out) _) | exact HK.out)) hb); have n5_ := Aside0.mk (below_step (by repeat (first | (with_reducible first | exact HB.out | apply below_alloc | apply pw_below_drewN | apply below_drew1 | refine below_set ?_ GE162.out | refine below_set ?_ GE163.out | refine below_set ?_ GE164.out) | exact HB.out)) hb); have n6_ := Aside0.mk (hbox); have n7_ := Aside0.mk ((by rw [hg]; exact (by first | exact HK.out.1 | exact (show Kept w _ (fun k_ => P0_0_ k_) from by repeat (first | (with_reducible first | exact HK.out | apply Kept.alloc | apply Kept.drewN | apply Kept.drew | refine Kept.setCell ?_ (.inr GW162.out) _ | refine Kept.setCell ?_ (.inr GW163.out) _ | refine Kept.setCell ?_ (.inr GW164.out) _) | exact HK.out)).1) : w.heap.size ≤ gb165)); have n8_ := Aside0.mk ((by rw [hg]; exact (below_size (by repeat (first | (with_reducible first | exact HB.out | apply below_alloc | apply pw_below_drewN | apply below_drew1 | refine below_set ?_ GE162.out | refine below_set ?_ GE163.out | refine below_set ?_ GE164.out) | exact HB.out))) : w0.heap.size ≤ gb165)); have n9_ := Aside0.mk ((by rw [hg]; exact Nat.ne_of_lt (blk_lt (g := gb162) (o := .cells #[.slice Ao7 l0_0.length co7, .int .i64 a0_1, .int .i64 a0_2] 49 (0, 0)) (by (with_reducible repeat (first | refine blk_drewN ?_ _ | refine blk_drew ?_ | refine blk_alloc ?_ _)); exact BK162.out)) : gb162 ≠ gb165)); have n10_ := Aside0.mk ((by rw [hg]; exact Nat.ne_of_gt (blk_lt (g := gb162) (o := .cells #[.slice Ao7 l0_0.length co7, .int .i64 a0_1, .int .i64 a0_2] 49 (0, 0)) (by (with_reducible repeat (first | refine blk_drewN ?_ _ | refine blk_drew ?_ | refine blk_alloc ?_ _)); exact BK162.out)) : gb165 ≠ gb162)); have n11_ := Aside0.mk ((by rw [hg]; exact Nat.ne_of_lt (blk_lt (g := gb163) (o := .cells #[.int .i64 a1_0, .int .i64 a1_1] 28 (0, 0)) (by (with_reducible repeat (first | refine blk_drewN ?_ _ | refine blk_drew ?_ | refine blk_alloc ?_ _)); exact BK163.out)) : gb163 ≠ gb165)); have n12_ := Aside0.mk ((by rw [hg]; exact Nat.ne_of_gt (blk_lt (g := gb163) (o := .cells #[.int .i64 a1_0, .int .i64 a1_1] 28 (0, 0)) (by (with_reducible repeat (first | refine blk_drewN ?_ _ | refine blk_drew ?_ | refine blk_alloc ?_ _)); exact BK163.out)) : gb165 ≠ gb163)); have n13_ := Aside0.mk ((by rw [hg]; exact Nat.ne_of_lt (blk_lt (g := gb164) (o := .cells #[.slice none 0 0, .int .i64 0, .int .i64 0] 49 (0, 0)) (by (with_reducible repeat (first | refine blk_drewN ?_ _ | refine blk_drew ?_ | refine blk_alloc ?_ _)); exact BK164.out)) : gb164 ≠ gb165)); have n14_ := Aside0.mk ((by rw [hg]; exact Nat.ne_of_gt (blk_lt (g := gb164) (o := .cells #[.slice none 0 0, .int .i64 0, .int .i64 0] 49 (0, 0)) (by (with_reducible repeat (first | refine blk_drewN ?_ _ | refine blk_drew ?_ | refine blk_alloc ?_ _)); exact BK164.out)) : gb165 ≠ gb164)); clear HO0_0; clear BK162; clear BK163; clear BK164; clear HK; clear HB; have HO0_0 := n0_; have BK162 := n1_; have BK163 := n2_; have BK164 := n3_; have HK := n4_; have HB := n5_; have BK165 := n6_; have GW165 := n7_; have GE165 := n8_; have NB162_165 := n9_; have NB165_162 := n10_; have NB163_165 := n11_; have NB165_163 := n12_; have NB164_165 := n13_; have NB165_164 := n14_; clear n0_ n1_ n2_ n3_ n4_ n5_ n6_ n7_ n8_ n9_ n10_ n11_ n12_ n13_ n14_; clear hb hbox hg))
  (try simp only [Act.put, List.setIfInBounds_toArray, List.set_cons_zero, List.set_cons_succ])
  go_cut [24] (fun v24 wc => ∃ (kq : Nat) (x24_5 : Bool), v24 = .bool x24_5 ∧ Aside0 (bureauref17_Derive.j0 kq a2 a3 a4 x24_5 l0_0 a0_1 a0_2 a1_0 a1_1 = some (r1, r2, r3, r4, r5, r6)) ∧ Aside0 (kq ≤ k) ∧ Aside0 (Kd.R k59 59 wc w0.heap.size (fun k_ => (P0_0_ k_ ∨ w.heap.size ≤ k_)) (.slice Ao7 l0_0.length co7) l0_0) ∧ Aside0 (wc.heap[gb162]? = some (.cells #[(.slice Ao7 l0_0.length co7), .int .i64 a0_1, .int .i64 a0_2] 49 (0, 0))) ∧ Aside0 (wc.heap[gb163]? = some (.cells #[.int .i64 a1_0, .int .i64 a1_1] 28 (0, 0))) ∧ Aside0 (wc.heap[gb164]? = some (.cells #[(.slice none 0 0), .int .i64 0, .int .i64 0] 49 (0, 0))) ∧ Aside0 (wc.heap[gb165]? = some (.cells #[.int .i64 0, .int .i64 0] 28 (0, 0))) ∧ Aside0 (Kept w wc (fun k_ => P0_0_ k_)) ∧ Aside0 (Below w0.heap.size w0 wc))
  case first =>
    have H := HC6.out
    clear HC6
    by_cases c12 : a4 < 0
    · rw [if_pos c12] at H
      have c12b0 : decide (a4 < 0) = true := decide_eq_true c12
      clear c12
      (first | rw [c12b0] | (simp only [i64_w, i32_w]; rw [c12b0]) | skip)
      have H' := Aside0.mk H
      clear H
      go_wp2
      go_meet
      case rel => exact ⟨_, (true), (by first | rfl | (simp; done) | (simp [*]; done)), H', ⟨by first | omega | exact Nat.le_refl _⟩, ⟨by (with_reducible repeat (first | apply Kd.R_alloc | apply Kd.R_drewN | apply Kd.R_drew)); exact HO0_0.out⟩, ⟨by (with_reducible repeat (first | refine blk_drewN ?_ _ | refine blk_drew ?_ | refine blk_alloc ?_ _)); exact BK162.out⟩, ⟨by (with_reducible repeat (first | refine blk_drewN ?_ _ | refine blk_drew ?_ | refine blk_alloc ?_ _)); exact BK163.out⟩, ⟨by (with_reducible repeat (first | refine blk_drewN ?_ _ | refine blk_drew ?_ | refine blk_alloc ?_ _)); exact BK164.out⟩, ⟨by (with_reducible repeat (first | refine blk_drewN ?_ _ | refine blk_drew ?_ | refine blk_alloc ?_ _)); exact BK165.out⟩, ⟨by repeat (first | (with_reducible first | exact HK.out | apply Kept.alloc | apply Kept.drewN | apply Kept.drew | refine Kept.setCell ?_ (.inr GW162.out) _ | refine Kept.setCell ?_ (.inr GW163.out) _ | refine Kept.setCell ?_ (.inr GW164.out) _ | refine Kept.setCell ?_ (.inr GW165.out) _) | exact HK.out)⟩, ⟨by repeat (first | (with_reducible first | exact HB.out | apply below_alloc | apply pw_below_drewN | apply below_drew1 | refine below_set ?_ GE162.out | refine below_set ?_ GE163.out | refine below_set ?_ GE164.out | refine below_set ?_ GE165.out) | exact HB.out)⟩⟩
    · rw [if_neg c12] at H
      have c12b0 : decide (a4 < 0) = false := decide_eq_false c12
      clear c12
      (first | rw [c12b0] | (simp only [i64_w, i32_w]; rw [c12b0]) | skip)
      by_cases c13 : a3 < 1
      · rw [if_pos c13] at H
        have c13b0 : decide (a3 < 1) = true := decide_eq_true c13
        clear c13
        have H' := Aside0.mk H
        clear H
        go_wp2
        go_meet
        case rel => exact ⟨_, (true), (by first | rfl | (simp; done) | (simp [*]; done)), H', ⟨by first | omega | exact Nat.le_refl _⟩, ⟨by (with_reducible repeat (first | apply Kd.R_alloc | apply Kd.R_drewN | apply Kd.R_drew)); exact HO0_0.out⟩, ⟨by (with_reducible repeat (first | refine blk_drewN ?_ _ | refine blk_drew ?_ | refine blk_alloc ?_ _)); exact BK162.out⟩, ⟨by (with_reducible repeat (first | refine blk_drewN ?_ _ | refine blk_drew ?_ | refine blk_alloc ?_ _)); exact BK163.out⟩, ⟨by (with_reducible repeat (first | refine blk_drewN ?_ _ | refine blk_drew ?_ | refine blk_alloc ?_ _)); exact BK164.out⟩, ⟨by (with_reducible repeat (first | refine blk_drewN ?_ _ | refine blk_drew ?_ | refine blk_alloc ?_ _)); exact BK165.out⟩, ⟨by repeat (first | (with_reducible first | exact HK.out | apply Kept.alloc | apply Kept.drewN | apply Kept.drew | refine Kept.setCell ?_ (.inr GW162.out) _ | refine Kept.setCell ?_ (.inr GW163.out) _ | refine Kept.setCell ?_ (.inr GW164.out) _ | refine Kept.setCell ?_ (.inr GW165.out) _) | exact HK.out)⟩, ⟨by repeat (first | (with_reducible first | exact HB.out | apply below_alloc | apply pw_below_drewN | apply below_drew1 | refine below_set ?_ GE162.out | refine below_set ?_ GE163.out | refine below_set ?_ GE164.out | refine below_set ?_ GE165.out) | exact HB.out)⟩⟩
      · rw [if_neg c13] at H
        have c13b0 : decide (a3 < 1) = false := decide_eq_false c13
        clear c13
        have H' := Aside0.mk H
        clear H
        go_wp2
        go_meet
        case rel => exact ⟨_, (decide (a3 > 15)), (by first | rfl | (simp; done) | (simp [*]; done)), H', ⟨by first | omega | exact Nat.le_refl _⟩, ⟨by (with_reducible repeat (first | apply Kd.R_alloc | apply Kd.R_drewN | apply Kd.R_drew)); exact HO0_0.out⟩, ⟨by (with_reducible repeat (first | refine blk_drewN ?_ _ | refine blk_drew ?_ | refine blk_alloc ?_ _)); exact BK162.out⟩, ⟨by (with_reducible repeat (first | refine blk_drewN ?_ _ | refine blk_drew ?_ | refine blk_alloc ?_ _)); exact BK163.out⟩, ⟨by (with_reducible repeat (first | refine blk_drewN ?_ _ | refine blk_drew ?_ | refine blk_alloc ?_ _)); exact BK164.out⟩, ⟨by (with_reducible repeat (first | refine blk_drewN ?_ _ | refine blk_drew ?_ | refine blk_alloc ?_ _)); exact BK165.out⟩, ⟨by repeat (first | (with_reducible first | exact HK.out | apply Kept.alloc | apply Kept.drewN | apply Kept.drew | refine Kept.setCell ?_ (.inr GW162.out) _ | refine Kept.setCell ?_ (.inr GW163.out) _ | refine Kept.setCell ?_ (.inr GW164.out) _ | refine Kept.setCell ?_ (.inr GW165.out) _) | exact HK.out)⟩, ⟨by repeat (first | (with_reducible first | exact HB.out | apply below_alloc | apply pw_below_drewN | apply below_drew1 | refine below_set ?_ GE162.out | refine below_set ?_ GE163.out | refine below_set ?_ GE164.out | refine below_set ?_ GE165.out) | exact HB.out)⟩⟩
  case rest =>
    clear HC6
    try clear c1
    try clear p2
    try clear c12
    try clear c12b0
    try clear c13
    try clear c13b0
    obtain ⟨kq, x24_5, rfl, HA, HJ5, HO_163000, BK162, BK163, BK164, BK165, HK, HB⟩ := hcut
    cases kq with
    | zero => exact absurd HA.out (by simp [bureauref17_Derive.j0])
    | succ kj5 =>
      have H := HA.out
      clear HA
      simp only [bureauref17_Derive.j0] at H
      by_cases c14 : x24_5 = true
      · subst c14
        have H1 : (some (l0_0, a0_1, a0_2, 0, 0, 2)) = some (r1, r2, r3, r4, r5, r6) := by rw [if_pos rfl] at H; exact H
        clear H
        have H := H1
        clear H1
        simp only [Option.some.injEq, Prod.mk.injEq] at H
        obtain ⟨rfl, rfl, rfl, rfl, rfl, rfl⟩ := H
        have hnb15 := NB162_163.out
        have hnc15 := NB163_162.out
        have hnb16 := NB162_164.out
        have hnc16 := NB164_162.out
        have hnb17 := NB162_165.out
        have hnc17 := NB165_162.out
        have hcz18_0 : wc.cell? ⟨gb162, 0, none⟩ = some (.slice Ao7 l0_0.length co7) := (blk_cell BK162.out 0).trans rfl
        have hcz18_1 : wc.cell? ⟨gb162, 1, none⟩ = some (.int .i64 a0_1) := (blk_cell BK162.out 1).trans rfl
        have hcz18_2 : wc.cell? ⟨gb162, 2, none⟩ = some (.int .i64 a0_2) := (blk_cell BK162.out 2).trans rfl
        have hfz18_0 := blk_frozen BK162.out 0
        have hfz18_1 := blk_frozen BK162.out 1
        have hfz18_2 := blk_frozen BK162.out 2
        have hnb19 := NB164_163.out
        have hnc19 := NB163_164.out
        have hnb20 := NB164_165.out
        have hnc20 := NB165_164.out
        have hcz21_0 : wc.cell? ⟨gb164, 0, none⟩ = some (.slice none 0 0) := (blk_cell BK164.out 0).trans rfl
        have hcz21_1 : wc.cell? ⟨gb164, 1, none⟩ = some (.int .i64 0) := (blk_cell BK164.out 1).trans rfl
        have hcz21_2 : wc.cell? ⟨gb164, 2, none⟩ = some (.int .i64 0) := (blk_cell BK164.out 2).trans rfl
        have hfz21_0 := blk_frozen BK164.out 0
        have hfz21_1 := blk_frozen BK164.out 1
        have hfz21_2 := blk_frozen BK164.out 2
        have hnb22 := NB165_163.out
        have hnc22 := NB163_165.out
        have hcz23_0 : wc.cell? ⟨gb165, 0, none⟩ = some (.int .i64 0) := (blk_cell BK165.out 0).trans rfl
        have hcz23_1 : wc.cell? ⟨gb165, 1, none⟩ = some (.int .i64 0) := (blk_cell BK165.out 1).trans rfl
        have hfz23_0 := blk_frozen BK165.out 0
        have hfz23_1 := blk_frozen BK165.out 1
        go_wp2
        refine bodyPost_ret (results_list (rs := [.cell 10 49, .cell 11 28, .tmp 12]) rfl (by simp) (.cell gb164 49 #[.slice Ao7 l0_0.length co7, .int .i64 a0_1, .int .i64 a0_2] (0, 0) _ rfl (by (with_reducible repeat (first | refine blk_drewN ?_ _ | refine blk_drew ?_ | refine blk_alloc ?_ _)); refine blk_far ?_ NB164_165.out _; (with_reducible repeat (first | refine blk_drewN ?_ _ | refine blk_drew ?_ | refine blk_alloc ?_ _)); refine blk_far ?_ NB164_165.out _; (with_reducible repeat (first | refine blk_drewN ?_ _ | refine blk_drew ?_ | refine blk_alloc ?_ _)); refine blk_put (cs := #[.slice Ao7 l0_0.length co7, .int .i64 a0_1, .int .i64 0]) ?_ 2 _ rfl; (with_reducible repeat (first | refine blk_drewN ?_ _ | refine blk_drew ?_ | refine blk_alloc ?_ _)); refine blk_put (cs := #[.slice Ao7 l0_0.length co7, .int .i64 0, .int .i64 0]) ?_ 1 _ rfl; (with_reducible repeat (first | refine blk_drewN ?_ _ | refine blk_drew ?_ | refine blk_alloc ?_ _)); refine blk_put (cs := #[.slice none 0 0, .int .i64 0, .int .i64 0]) ?_ 0 _ rfl; (with_reducible repeat (first | refine blk_drewN ?_ _ | refine blk_drew ?_ | refine blk_alloc ?_ _)); exact BK164.out) Try.underlying49 rfl (by kernel_rfl) (.cell gb165 28 #[.int .i64 0, .int .i64 0] (0, 0) _ rfl (by (with_reducible repeat (first | refine blk_drewN ?_ _ | refine blk_drew ?_ | refine blk_alloc ?_ _)); refine blk_put (cs := #[.int .i64 0, .int .i64 0]) ?_ 1 _ rfl; (with_reducible repeat (first | refine blk_drewN ?_ _ | refine blk_drew ?_ | refine blk_alloc ?_ _)); refine blk_put (cs := #[.int .i64 0, .int .i64 0]) ?_ 0 _ rfl; (with_reducible repeat (first | refine blk_drewN ?_ _ | refine blk_drew ?_ | refine blk_alloc ?_ _)); refine blk_far ?_ NB165_164.out _; (with_reducible repeat (first | refine blk_drewN ?_ _ | refine blk_drew ?_ | refine blk_alloc ?_ _)); refine blk_far ?_ NB165_164.out _; (with_reducible repeat (first | refine blk_drewN ?_ _ | refine blk_drew ?_ | refine blk_alloc ?_ _)); refine blk_far ?_ NB165_164.out _; (with_reducible repeat (first | refine blk_drewN ?_ _ | refine blk_drew ?_ | refine blk_alloc ?_ _)); exact BK165.out) Try.underlying28 rfl (by kernel_rfl) (.tmp .nil)))) rfl ?_
        exact ⟨_, by first | rfl | (simp [errW_none, errW_some] <;> rfl) | (simp [*, errW_none, errW_some] <;> rfl), by (with_reducible repeat (first | apply Kd.R_alloc | apply Kd.R_drewN | apply Kd.R_drew)); exact Kd.R_mono (Kd.R_far (p := ⟨gb165, 1, none⟩) (Kd.R_far (p := ⟨gb165, 0, none⟩) (Kd.R_far (p := ⟨gb164, 2, none⟩) (Kd.R_far (p := ⟨gb164, 1, none⟩) (Kd.R_far (p := ⟨gb164, 0, none⟩) (Kd.R_types (Kd.R_types HO_163000.out BK164.out (by decide)) BK165.out (by decide)) (fun _ hk => hk.1.2) (.slice Ao7 l0_0.length co7)) (fun _ hk => hk.1.2) (.int .i64 a0_1)) (fun _ hk => hk.1.2) (.int .i64 a0_2)) (fun _ hk => hk.2) (.int .i64 0)) (fun _ hk => hk.2) (.int .i64 0)) (fun _ hk => hk.1.1), by repeat (first | (with_reducible first | exact HB.out | apply below_alloc | apply pw_below_drewN | apply below_drew1 | refine below_set ?_ GE162.out | refine below_set ?_ GE163.out | refine below_set ?_ GE164.out | refine below_set ?_ GE165.out) | exact HB.out), by repeat (first | (with_reducible first | exact HK.out | apply Kept.alloc | apply Kept.drewN | apply Kept.drew | refine Kept.setCell ?_ (.inr GW162.out) _ | refine Kept.setCell ?_ (.inr GW163.out) _ | refine Kept.setCell ?_ (.inr GW164.out) _ | refine Kept.setCell ?_ (.inr GW165.out) _) | exact HK.out)⟩
      · replace c14 := Bool.eq_false_iff.mpr c14
        subst c14
        have H1 : ((bureauref17_both.f kj5 a3 8).bind fun t166 => ((bureauref17_Look.f kj5 l0_0 a0_1 a0_2 a1_0 a1_1 a2 t166).bind fun bt167 => (if bt167.2.2.2.2.2.2.2.2 = 0 then ((bureauref17_give.f kj5 l0_0 a0_1 a0_2 0 0 bt167.2.2.1 a3 a4 a1_0 a1_1 false).bind fun bt177 => (some (bt177.1, bt177.2.1, bt177.2.2.1, bt177.2.2.2.1, bt177.2.2.2.2.1, bt177.2.2.2.2.2))) else (some (l0_0, a0_1, a0_2, 0, 0, bt167.2.2.2.2.2.2.2.2))))) = some (r1, r2, r3, r4, r5, r6) := by rw [if_neg (show ¬ (false = true) by decide)] at H; exact H
        clear H
        have H := H1
        clear H1
        replace H := Option.bind_eq_some_iff.mp H
        obtain ⟨t166, A240, H⟩ := H
        replace H : ((bureauref17_Look.f kj5 l0_0 a0_1 a0_2 a1_0 a1_1 a2 t166).bind fun bt167 => (if bt167.2.2.2.2.2.2.2.2 = 0 then ((bureauref17_give.f kj5 l0_0 a0_1 a0_2 0 0 bt167.2.2.1 a3 a4 a1_0 a1_1 false).bind fun bt177 => (some (bt177.1, bt177.2.1, bt177.2.2.1, bt177.2.2.2.1, bt177.2.2.2.2.1, bt177.2.2.2.2.2))) else (some (l0_0, a0_1, a0_2, 0, 0, bt167.2.2.2.2.2.2.2.2)))) = some (r1, r2, r3, r4, r5, r6) := H
        have A24 := Aside0.mk A240
        clear A240
        replace H := Option.bind_eq_some_iff.mp H
        obtain ⟨⟨t167, t168, t169, t170, t171, t172, t173, t174, t175⟩, A250, H⟩ := H
        replace H : (if t175 = 0 then ((bureauref17_give.f kj5 l0_0 a0_1 a0_2 0 0 t169 a3 a4 a1_0 a1_1 false).bind fun bt177 => (some (bt177.1, bt177.2.1, bt177.2.2.1, bt177.2.2.2.1, bt177.2.2.2.2.1, bt177.2.2.2.2.2))) else (some (l0_0, a0_1, a0_2, 0, 0, t175))) = some (r1, r2, r3, r4, r5, r6) := H
        have A25 := Aside0.mk A250
        clear A250
        by_cases c26 : t175 = 0
        · rw [if_pos c26] at H
          have c26b0 : (t175 == 0) = true := beq_iff_eq.mpr c26
          have c26b1 : (t175 != 0) = false := bne_eq_false_iff_eq.mpr c26
          clear c26
          replace H := Option.bind_eq_some_iff.mp H
          obtain ⟨⟨t177, t180, t181, t182, t183, t184⟩, A270, H⟩ := H
          replace H : (some (t177, t180, t181, t182, t183, t184)) = some (r1, r2, r3, r4, r5, r6) := H
          have A27 := Aside0.mk A270
          clear A270
          simp only [Option.some.injEq, Prod.mk.injEq] at H
          obtain ⟨rfl, rfl, rfl, rfl, rfl, rfl⟩ := H
          try go_wp2
          have n0_ := Aside0.mk (Kd.R_drew HO_163000.out)
          have n1_ := Aside0.mk (blk_drew BK162.out)
          have n2_ := Aside0.mk (blk_drew BK163.out)
          have n3_ := Aside0.mk (blk_drew BK164.out)
          have n4_ := Aside0.mk (blk_drew BK165.out)
          have n5_ := Aside0.mk (Kept.drew HK.out)
          have n6_ := Aside0.mk (below_drew1 HB.out)
          clear HO_163000
          clear BK162
          clear BK163
          clear BK164
          clear BK165
          clear HK
          clear HB
          have HO_163000 := n0_
          have BK162 := n1_
          have BK163 := n2_
          have BK164 := n3_
          have BK165 := n4_
          have HK := n5_
          have HB := n6_
          clear n0_ n1_ n2_ n3_ n4_ n5_ n6_
          refine start_ (n := 12) (S := fun w' => w'.cell? ⟨gb162, 0, none⟩ = some (.slice Ao7 l0_0.length co7) ∧ w'.cell? ⟨gb162, 1, none⟩ = some (.int .i64 a0_1) ∧ w'.cell? ⟨gb162, 2, none⟩ = some (.int .i64 a0_2) ∧ w'.cell? ⟨gb163, 0, none⟩ = some (.int .i64 a1_0) ∧ w'.cell? ⟨gb163, 1, none⟩ = some (.int .i64 a1_1)) (ds := []) #[false, false, false, false, false, false, false, false, false, false, false, false] (by kernel_rfl) rfl rfl ⟨(blk_cell BK162.out 0).trans rfl, (blk_cell BK162.out 1).trans rfl, (blk_cell BK162.out 2).trans rfl, (blk_cell BK163.out 0).trans rfl, (blk_cell BK163.out 1).trans rfl⟩ (fun hHeld => ?_); refine with_tabW bureauref17_Derive.tab3 bureauref17_Derive.bits3 (fun HT_ HW_ => ?_)
          generalize wc.drew = w28 at HO_163000 BK162 BK163 BK164 BK165 HK HB hHeld ⊢
          refine pure_ (i := 2) (N := some 30) (v := ?_) (a' := ?_) #[false, false, true, false, false, false, false, false, false, false, false, false] rfl rfl (any_of HT_.out (by kernel_rfl)) (fun _ _ _ h => h) (Or.inl ⟨by rfl, ?_⟩) ?_ ?_
          rotate_left
          · intro w'
            go_simp
            with_reducible rfl
          rotate_left
          · simp only [Act.put, List.setIfInBounds_toArray, List.set_cons_zero, List.set_cons_succ, i64_w, i32_w]
            rfl
          refine pure_ (i := 3) (N := some 31) (v := ?_) (a' := ?_) #[false, false, true, true, false, false, false, false, false, false, false, false] rfl rfl (any_of HT_.out (by kernel_rfl)) (fun _ _ _ h => h) (Or.inl ⟨by rfl, ?_⟩) ?_ ?_
          rotate_left
          · intro w'
            go_simp
            with_reducible rfl
          rotate_left
          · simp only [Act.put, List.setIfInBounds_toArray, List.set_cons_zero, List.set_cons_succ, i64_w, i32_w]
            rfl
          refine take_ (i := 0) (N := some 28) (v := ?_) (a' := ?_) #[true, false, true, true, false, false, false, false, false, false, false, false] rfl rfl (take_ofW HT_.out HW_.out (by kernel_rfl)) (fun _ _ _ h => h) (Or.inl ⟨by rfl, ?_⟩) hHeld ?_ ?_
          rotate_left
          · rintro w' ⟨s0, s1, s2, s3, s4⟩
            go_simp
            with_reducible rfl
          rotate_left
          · simp only [Act.put, List.setIfInBounds_toArray, List.set_cons_zero, List.set_cons_succ, i64_w, i32_w]
            rfl
          refine take_ (i := 1) (N := some 29) (v := ?_) (a' := ?_) #[true, true, true, true, false, false, false, false, false, false, false, false] rfl rfl (take_ofW HT_.out HW_.out (by kernel_rfl)) (fun _ _ _ h => h) (Or.inl ⟨by rfl, ?_⟩) hHeld ?_ ?_
          rotate_left
          · rintro w' ⟨s0, s1, s2, s3, s4⟩
            go_simp
            with_reducible rfl
          rotate_left
          · simp only [Act.put, List.setIfInBounds_toArray, List.set_cons_zero, List.set_cons_succ, i64_w, i32_w]
            rfl
          refine join_ (σ := Nat) 2 #[true, true, true, true, true, true, true, true, true, true, false, false] (fun s_ => [(32, .int .i64 t166), (33, .tuple #[.agg #[.int .i64 t167, .int .i64 t168, .int .i64 t169, .int .i64 t170, .int .i64 t171, .int .i64 t172, .int .i64 t173, .bool t174], .int .i64 t175]), (13, .pointer (some ⟨s_, 0, none⟩)), (27, .tuple #[.agg #[.int .i64 t167, .int .i64 t168, .int .i64 t169, .int .i64 t170, .int .i64 t171, .int .i64 t172, .int .i64 t173, .bool t174], .int .i64 t175]), (34, .agg #[.int .i64 t167, .int .i64 t168, .int .i64 t169, .int .i64 t170, .int .i64 t171, .int .i64 t172, .int .i64 t173, .bool t174]), (35, .int .i64 t175)]) (fun s_ w' => (w'.cell? ⟨gb162, 0, none⟩ = some (.slice Ao7 l0_0.length co7) ∧ w'.cell? ⟨gb162, 1, none⟩ = some (.int .i64 a0_1) ∧ w'.cell? ⟨gb162, 2, none⟩ = some (.int .i64 a0_2) ∧ w'.cell? ⟨gb163, 0, none⟩ = some (.int .i64 a1_0) ∧ w'.cell? ⟨gb163, 1, none⟩ = some (.int .i64 a1_1)) ∧ (Kd.R k59 59 w' w0.heap.size (fun k_ => (P0_0_ k_ ∨ w.heap.size ≤ k_) ∧ k_ ≠ s_) (.slice Ao7 l0_0.length co7) l0_0) ∧ (w'.heap[gb162]? = some (.cells #[.slice Ao7 l0_0.length co7, .int .i64 a0_1, .int .i64 a0_2] 49 (0, 0))) ∧ (w'.heap[gb163]? = some (.cells #[.int .i64 a1_0, .int .i64 a1_1] 28 (0, 0))) ∧ (w'.heap[gb164]? = some (.cells #[.slice none 0 0, .int .i64 0, .int .i64 0] 49 (0, 0))) ∧ (w'.heap[gb165]? = some (.cells #[.int .i64 0, .int .i64 0] 28 (0, 0))) ∧ (w'.heap[s_]? = some (.cells #[.int .i64 0, .int .i64 0, .int .i64 0, .int .i64 0, .int .i64 0, .int .i64 0, .int .i64 0, .bool false] 59 (0, 0))) ∧ (w.heap.size ≤ s_) ∧ (w0.heap.size ≤ s_) ∧ (gb162 ≠ s_) ∧ (s_ ≠ gb162) ∧ (gb163 ≠ s_) ∧ (s_ ≠ gb163) ∧ (gb164 ≠ s_) ∧ (s_ ≠ gb164) ∧ (gb165 ≠ s_) ∧ (s_ ≠ gb165) ∧ (Kept w w' (fun k_ => P0_0_ k_)) ∧ (Below w0.heap.size w0 w')) ?_ ?_
          rotate_left
          · intro hCont
            refine two_ (i := 4) (j := 9) (Ni := some 32) (Nj := some 13) #[true, true, true, true, true, false, false, false, false, false, false, false] #[true, true, true, true, false, false, false, false, false, true, false, false] rfl rfl rfl rfl (two_of HT_.out (by kernel_rfl)) (by decide) (by decide) (fun K hK => ?_) (fun K hK => ?_)
            · skip
              refine goes_ Try.func31 (by kernel_rfl) rfl #[.int .i64 a3, .int .i64 8] (by rfl) rfl rfl (by (try simp only [List.map_toArray, List.map_cons, List.map_nil]); first | done | rfl | (simp only [List.length_drop, List.length_take]; rfl)) ?_
              with_reducible refine (bureauref17_both.calls kj5 a3 8 t166 _ A24.out).mono ?_
              rintro e w' ⟨rfl, ⟨nd, rfl⟩⟩
              refine ⟨_, rfl, ?_⟩
              refine hK.out _ _ ⟨(blk_cell BK162.out 0).trans rfl, (blk_cell BK162.out 1).trans rfl, (blk_cell BK162.out 2).trans rfl, (blk_cell BK163.out 0).trans rfl, (blk_cell BK163.out 1).trans rfl⟩ (fun hHeld => ?_)
              clear hK K
              refine norm_ (a' := ?_) ?_ ?_
              rotate_left
              · show Act.put _ (some 32) _ = _
                simp only [Act.put, List.setIfInBounds_toArray, List.set_cons_zero, List.set_cons_succ, i64_w, i32_w]
                rfl
              refine two_ (i := 5) (j := 9) (Ni := some 33) (Nj := some 13) #[true, true, true, true, true, true, false, false, false, false, false, false] #[true, true, true, true, true, false, false, false, false, true, false, false] rfl rfl rfl rfl (two_of HT_.out (by kernel_rfl)) (by decide) (by decide) (fun K hK => ?_) (fun K hK => ?_)
              · skip
                refine goes_ Try.func20 (by kernel_rfl) rfl #[.agg #[.slice Ao7 l0_0.length co7, .int .i64 a0_1, .int .i64 a0_2], .agg #[.int .i64 a1_0, .int .i64 a1_1], .int .i64 a2, .int .i64 t166] (by rfl) rfl rfl (by (try simp only [List.map_toArray, List.map_cons, List.map_nil]); first | done | rfl | (simp only [List.length_drop, List.length_take]; rfl)) ?_
                with_reducible refine (bureauref17_Look.calls kj5 _ _ l0_0 a0_1 a0_2 a1_0 a1_1 a2 t166 t167 t168 t169 t170 t171 t172 t173 t174 t175 _ ?side1 ?side2 A25.out).mono ?_
                (case side1 => repeat (first | exact (Kd.R_reads' HO_163000.out).2.2 | (with_reducible refine Kd.C_alloc ?_ _) | (with_reducible refine Kd.C_drewN ?_ _) | (with_reducible refine Kd.C_drew ?_)))
                (case side2 => exact (Kd.R_reads' HO_163000.out).2.1)
                rintro e w29 ⟨rfl, hb⟩
                refine ⟨_, rfl, ?_⟩
                have n0_ := Aside0.mk (Kd.R_below (by (with_reducible repeat (first | apply Kd.R_alloc | apply Kd.R_drewN | apply Kd.R_drew)); exact HO_163000.out) hb)
                have n1_ := Aside0.mk (blk_below (g := gb162) (o := .cells #[.slice Ao7 l0_0.length co7, .int .i64 a0_1, .int .i64 a0_2] 49 (0, 0)) (by (with_reducible repeat (first | refine blk_drewN ?_ _ | refine blk_drew ?_ | refine blk_alloc ?_ _)); exact BK162.out) hb)
                have n2_ := Aside0.mk (blk_below (g := gb163) (o := .cells #[.int .i64 a1_0, .int .i64 a1_1] 28 (0, 0)) (by (with_reducible repeat (first | refine blk_drewN ?_ _ | refine blk_drew ?_ | refine blk_alloc ?_ _)); exact BK163.out) hb)
                have n3_ := Aside0.mk (blk_below (g := gb164) (o := .cells #[.slice none 0 0, .int .i64 0, .int .i64 0] 49 (0, 0)) (by (with_reducible repeat (first | refine blk_drewN ?_ _ | refine blk_drew ?_ | refine blk_alloc ?_ _)); exact BK164.out) hb)
                have n4_ := Aside0.mk (blk_below (g := gb165) (o := .cells #[.int .i64 0, .int .i64 0] 28 (0, 0)) (by (with_reducible repeat (first | refine blk_drewN ?_ _ | refine blk_drew ?_ | refine blk_alloc ?_ _)); exact BK165.out) hb)
                have n5_ := Aside0.mk (Kept.below (S := (fun k_ => P0_0_ k_)) (by repeat (first | (with_reducible first | exact HK.out | apply Kept.alloc | apply Kept.drewN | apply Kept.drew | refine Kept.setCell ?_ (.inr GW162.out) _ | refine Kept.setCell ?_ (.inr GW163.out) _ | refine Kept.setCell ?_ (.inr GW164.out) _ | refine Kept.setCell ?_ (.inr GW165.out) _) | exact HK.out)) hb)
                have n6_ := Aside0.mk (below_step (by repeat (first | (with_reducible first | exact HB.out | apply below_alloc | apply pw_below_drewN | apply below_drew1 | refine below_set ?_ GE162.out | refine below_set ?_ GE163.out | refine below_set ?_ GE164.out | refine below_set ?_ GE165.out) | exact HB.out)) hb)
                clear HO_163000
                clear BK162
                clear BK163
                clear BK164
                clear BK165
                clear HK
                clear HB
                have HO_163000 := n0_
                have BK162 := n1_
                have BK163 := n2_
                have BK164 := n3_
                have BK165 := n4_
                have HK := n5_
                have HB := n6_
                clear n0_ n1_ n2_ n3_ n4_ n5_ n6_
                (try clear hb)
                (try clear hb2)
                (try clear hk)
                (try clear hi)
                refine hK.out _ _ ⟨(blk_cell BK162.out 0).trans rfl, (blk_cell BK162.out 1).trans rfl, (blk_cell BK162.out 2).trans rfl, (blk_cell BK163.out 0).trans rfl, (blk_cell BK163.out 1).trans rfl⟩ (fun hHeld => ?_)
                clear hK K
                refine norm_ (a' := ?_) ?_ ?_
                rotate_left
                · show Act.put _ (some 33) _ = _
                  simp only [Act.put, List.setIfInBounds_toArray, List.set_cons_zero, List.set_cons_succ, i64_w, i32_w]
                  rfl
                refine pure_ (i := 6) (N := some 27) (v := ?_) (a' := ?_) #[true, true, true, true, true, true, true, false, false, false, false, false] rfl rfl (any_of HT_.out (by kernel_rfl)) (fun _ _ _ h => h) (Or.inl ⟨by rfl, ?_⟩) ?_ ?_
                rotate_left
                · intro w'
                  go_simp
                  with_reducible rfl
                rotate_left
                · simp only [Act.put, List.setIfInBounds_toArray, List.set_cons_zero, List.set_cons_succ, i64_w, i32_w]
                  rfl
                refine pure_ (i := 7) (N := some 34) (v := ?_) (a' := ?_) #[true, true, true, true, true, true, true, true, false, false, false, false] rfl rfl (any_of HT_.out (by kernel_rfl)) (fun _ _ _ h => h) (Or.inl ⟨by rfl, ?_⟩) ?_ ?_
                rotate_left
                · intro w'
                  go_simp
                  with_reducible rfl
                rotate_left
                · simp only [Act.put, List.setIfInBounds_toArray, List.set_cons_zero, List.set_cons_succ, i64_w, i32_w]
                  rfl
                refine pure_ (i := 8) (N := some 35) (v := ?_) (a' := ?_) #[true, true, true, true, true, true, true, true, true, false, false, false] rfl rfl (any_of HT_.out (by kernel_rfl)) (fun _ _ _ h => h) (Or.inl ⟨by rfl, ?_⟩) ?_ ?_
                rotate_left
                · intro w'
                  go_simp
                  with_reducible rfl
                rotate_left
                · simp only [Act.put, List.setIfInBounds_toArray, List.set_cons_zero, List.set_cons_succ, i64_w, i32_w]
                  rfl
                refine one_ (i := 9) (N := some 13) #[true, true, true, true, true, true, true, true, true, true, false, false] rfl rfl (one_of HT_.out (by kernel_rfl)) (by decide) (fun K hK => ?_)
                refine box_step ?hg (N := 13) ?hd (cs := #[.int .i64 0, .int .i64 0, .int .i64 0, .int .i64 0, .int .i64 0, .int .i64 0, .int .i64 0, .bool false]) (t := 59) ?hr ?_; (case hd => rfl); (case hg => rfl); (case hr => first | (go_simp; done) | (go_simp; rfl))
                intro gb176 hg w30 hbox hb
                have n0_ := Aside0.mk (Kd.R_below (Kd.R_elderB (by (with_reducible repeat (first | apply Kd.R_alloc | apply Kd.R_drewN | apply Kd.R_drew)); exact HO_163000.out) gb176 (Nat.le_of_eq hg.symm)) hb)
                have n1_ := Aside0.mk (blk_below (g := gb162) (o := .cells #[.slice Ao7 l0_0.length co7, .int .i64 a0_1, .int .i64 a0_2] 49 (0, 0)) (by (with_reducible repeat (first | refine blk_drewN ?_ _ | refine blk_drew ?_ | refine blk_alloc ?_ _)); exact BK162.out) hb)
                have n2_ := Aside0.mk (blk_below (g := gb163) (o := .cells #[.int .i64 a1_0, .int .i64 a1_1] 28 (0, 0)) (by (with_reducible repeat (first | refine blk_drewN ?_ _ | refine blk_drew ?_ | refine blk_alloc ?_ _)); exact BK163.out) hb)
                have n3_ := Aside0.mk (blk_below (g := gb164) (o := .cells #[.slice none 0 0, .int .i64 0, .int .i64 0] 49 (0, 0)) (by (with_reducible repeat (first | refine blk_drewN ?_ _ | refine blk_drew ?_ | refine blk_alloc ?_ _)); exact BK164.out) hb)
                have n4_ := Aside0.mk (blk_below (g := gb165) (o := .cells #[.int .i64 0, .int .i64 0] 28 (0, 0)) (by (with_reducible repeat (first | refine blk_drewN ?_ _ | refine blk_drew ?_ | refine blk_alloc ?_ _)); exact BK165.out) hb)
                have n5_ := Aside0.mk (Kept.below (S := (fun k_ => P0_0_ k_)) (by repeat (first | (with_reducible first | exact HK.out | apply Kept.alloc | apply Kept.drewN | apply Kept.drew | refine Kept.setCell ?_ (.inr GW162.out) _ | refine Kept.setCell ?_ (.inr GW163.out) _ | refine Kept.setCell ?_ (.inr GW164.out) _ | refine Kept.setCell ?_ (.inr GW165.out) _) | exact HK.out)) hb)
                have n6_ := Aside0.mk (below_step (by repeat (first | (with_reducible first | exact HB.out | apply below_alloc | apply pw_below_drewN | apply below_drew1 | refine below_set ?_ GE162.out | refine below_set ?_ GE163.out | refine below_set ?_ GE164.out | refine below_set ?_ GE165.out) | exact HB.out)) hb)
                have n7_ := Aside0.mk (hbox)
                have n8_ := Aside0.mk ((by rw [hg]; exact (by first | exact HK.out.1 | exact (show Kept w _ (fun k_ => P0_0_ k_) from by repeat (first | (with_reducible first | exact HK.out | apply Kept.alloc | apply Kept.drewN | apply Kept.drew | refine Kept.setCell ?_ (.inr GW162.out) _ | refine Kept.setCell ?_ (.inr GW163.out) _ | refine Kept.setCell ?_ (.inr GW164.out) _ | refine Kept.setCell ?_ (.inr GW165.out) _) | exact HK.out)).1) : w.heap.size ≤ gb176))
                have n9_ := Aside0.mk ((by rw [hg]; exact (below_size (by repeat (first | (with_reducible first | exact HB.out | apply below_alloc | apply pw_below_drewN | apply below_drew1 | refine below_set ?_ GE162.out | refine below_set ?_ GE163.out | refine below_set ?_ GE164.out | refine below_set ?_ GE165.out) | exact HB.out))) : w0.heap.size ≤ gb176))
                have n10_ := Aside0.mk ((by rw [hg]; exact Nat.ne_of_lt (blk_lt (g := gb162) (o := .cells #[.slice Ao7 l0_0.length co7, .int .i64 a0_1, .int .i64 a0_2] 49 (0, 0)) (by (with_reducible repeat (first | refine blk_drewN ?_ _ | refine blk_drew ?_ | refine blk_alloc ?_ _)); exact BK162.out)) : gb162 ≠ gb176))
                have n11_ := Aside0.mk ((by rw [hg]; exact Nat.ne_of_gt (blk_lt (g := gb162) (o := .cells #[.slice Ao7 l0_0.length co7, .int .i64 a0_1, .int .i64 a0_2] 49 (0, 0)) (by (with_reducible repeat (first | refine blk_drewN ?_ _ | refine blk_drew ?_ | refine blk_alloc ?_ _)); exact BK162.out)) : gb176 ≠ gb162))
                have n12_ := Aside0.mk ((by rw [hg]; exact Nat.ne_of_lt (blk_lt (g := gb163) (o := .cells #[.int .i64 a1_0, .int .i64 a1_1] 28 (0, 0)) (by (with_reducible repeat (first | refine blk_drewN ?_ _ | refine blk_drew ?_ | refine blk_alloc ?_ _)); exact BK163.out)) : gb163 ≠ gb176))
                have n13_ := Aside0.mk ((by rw [hg]; exact Nat.ne_of_gt (blk_lt (g := gb163) (o := .cells #[.int .i64 a1_0, .int .i64 a1_1] 28 (0, 0)) (by (with_reducible repeat (first | refine blk_drewN ?_ _ | refine blk_drew ?_ | refine blk_alloc ?_ _)); exact BK163.out)) : gb176 ≠ gb163))
                have n14_ := Aside0.mk ((by rw [hg]; exact Nat.ne_of_lt (blk_lt (g := gb164) (o := .cells #[.slice none 0 0, .int .i64 0, .int .i64 0] 49 (0, 0)) (by (with_reducible repeat (first | refine blk_drewN ?_ _ | refine blk_drew ?_ | refine blk_alloc ?_ _)); exact BK164.out)) : gb164 ≠ gb176))
                have n15_ := Aside0.mk ((by rw [hg]; exact Nat.ne_of_gt (blk_lt (g := gb164) (o := .cells #[.slice none 0 0, .int .i64 0, .int .i64 0] 49 (0, 0)) (by (with_reducible repeat (first | refine blk_drewN ?_ _ | refine blk_drew ?_ | refine blk_alloc ?_ _)); exact BK164.out)) : gb176 ≠ gb164))
                have n16_ := Aside0.mk ((by rw [hg]; exact Nat.ne_of_lt (blk_lt (g := gb165) (o := .cells #[.int .i64 0, .int .i64 0] 28 (0, 0)) (by (with_reducible repeat (first | refine blk_drewN ?_ _ | refine blk_drew ?_ | refine blk_alloc ?_ _)); exact BK165.out)) : gb165 ≠ gb176))
                have n17_ := Aside0.mk ((by rw [hg]; exact Nat.ne_of_gt (blk_lt (g := gb165) (o := .cells #[.int .i64 0, .int .i64 0] 28 (0, 0)) (by (with_reducible repeat (first | refine blk_drewN ?_ _ | refine blk_drew ?_ | refine blk_alloc ?_ _)); exact BK165.out)) : gb176 ≠ gb165))
                clear HO_163000
                clear BK162
                clear BK163
                clear BK164
                clear BK165
                clear HK
                clear HB
                have HO_163000 := n0_
                have BK162 := n1_
                have BK163 := n2_
                have BK164 := n3_
                have BK165 := n4_
                have HK := n5_
                have HB := n6_
                have BK176 := n7_
                have GW176 := n8_
                have GE176 := n9_
                have NB162_176 := n10_
                have NB176_162 := n11_
                have NB163_176 := n12_
                have NB176_163 := n13_
                have NB164_176 := n14_
                have NB176_164 := n15_
                have NB165_176 := n16_
                have NB176_165 := n17_
                clear n0_ n1_ n2_ n3_ n4_ n5_ n6_ n7_ n8_ n9_ n10_ n11_ n12_ n13_ n14_ n15_ n16_ n17_
                clear hb hbox hg
                refine hK.out _ _ ⟨(blk_cell BK162.out 0).trans rfl, (blk_cell BK162.out 1).trans rfl, (blk_cell BK162.out 2).trans rfl, (blk_cell BK163.out 0).trans rfl, (blk_cell BK163.out 1).trans rfl⟩ (fun hHeld => ?_)
                clear hK K
                refine norm_ (a' := ?_) ?_ ?_
                rotate_left
                · show Act.put _ (some 13) _ = _
                  simp only [Act.put, List.setIfInBounds_toArray, List.set_cons_zero, List.set_cons_succ, i64_w, i32_w]
                  rfl
                exact norm_ (by simp only [putAll, Act.put, List.setIfInBounds_toArray, List.set_cons_zero, List.set_cons_succ]) (hCont (gb176) _ ⟨hHeld, (by (with_reducible repeat (first | apply Kd.R_alloc | apply Kd.R_drewN | apply Kd.R_drew)); exact HO_163000.out), (by (with_reducible repeat (first | refine blk_drewN ?_ _ | refine blk_drew ?_ | refine blk_alloc ?_ _)); exact BK162.out), (by (with_reducible repeat (first | refine blk_drewN ?_ _ | refine blk_drew ?_ | refine blk_alloc ?_ _)); exact BK163.out), (by (with_reducible repeat (first | refine blk_drewN ?_ _ | refine blk_drew ?_ | refine blk_alloc ?_ _)); exact BK164.out), (by (with_reducible repeat (first | refine blk_drewN ?_ _ | refine blk_drew ?_ | refine blk_alloc ?_ _)); exact BK165.out), (by (with_reducible repeat (first | refine blk_drewN ?_ _ | refine blk_drew ?_ | refine blk_alloc ?_ _)); exact BK176.out), GW176.out, GE176.out, NB162_176.out, NB176_162.out, NB163_176.out, NB176_163.out, NB164_176.out, NB176_164.out, NB165_176.out, NB176_165.out, (by repeat (first | (with_reducible first | exact HK.out | apply Kept.alloc | apply Kept.drewN | apply Kept.drew | refine Kept.setCell ?_ (.inr GW162.out) _ | refine Kept.setCell ?_ (.inr GW163.out) _ | refine Kept.setCell ?_ (.inr GW164.out) _ | refine Kept.setCell ?_ (.inr GW165.out) _ | refine Kept.setCell ?_ (.inr GW176.out) _) | exact HK.out)), (by repeat (first | (with_reducible first | exact HB.out | apply below_alloc | apply pw_below_drewN | apply below_drew1 | refine below_set ?_ GE162.out | refine below_set ?_ GE163.out | refine below_set ?_ GE164.out | refine below_set ?_ GE165.out | refine below_set ?_ GE176.out) | exact HB.out))⟩)
              · skip
                refine box_step ?hg (N := 13) ?hd (cs := #[.int .i64 0, .int .i64 0, .int .i64 0, .int .i64 0, .int .i64 0, .int .i64 0, .int .i64 0, .bool false]) (t := 59) ?hr ?_; (case hd => rfl); (case hg => rfl); (case hr => first | (go_simp; done) | (go_simp; rfl))
                intro gb176 hg w29 hbox hb
                have n0_ := Aside0.mk (Kd.R_below (Kd.R_elderB (by (with_reducible repeat (first | apply Kd.R_alloc | apply Kd.R_drewN | apply Kd.R_drew)); exact HO_163000.out) gb176 (Nat.le_of_eq hg.symm)) hb)
                have n1_ := Aside0.mk (blk_below (g := gb162) (o := .cells #[.slice Ao7 l0_0.length co7, .int .i64 a0_1, .int .i64 a0_2] 49 (0, 0)) (by (with_reducible repeat (first | refine blk_drewN ?_ _ | refine blk_drew ?_ | refine blk_alloc ?_ _)); exact BK162.out) hb)
                have n2_ := Aside0.mk (blk_below (g := gb163) (o := .cells #[.int .i64 a1_0, .int .i64 a1_1] 28 (0, 0)) (by (with_reducible repeat (first | refine blk_drewN ?_ _ | refine blk_drew ?_ | refine blk_alloc ?_ _)); exact BK163.out) hb)
                have n3_ := Aside0.mk (blk_below (g := gb164) (o := .cells #[.slice none 0 0, .int .i64 0, .int .i64 0] 49 (0, 0)) (by (with_reducible repeat (first | refine blk_drewN ?_ _ | refine blk_drew ?_ | refine blk_alloc ?_ _)); exact BK164.out) hb)
                have n4_ := Aside0.mk (blk_below (g := gb165) (o := .cells #[.int .i64 0, .int .i64 0] 28 (0, 0)) (by (with_reducible repeat (first | refine blk_drewN ?_ _ | refine blk_drew ?_ | refine blk_alloc ?_ _)); exact BK165.out) hb)
                have n5_ := Aside0.mk (Kept.below (S := (fun k_ => P0_0_ k_)) (by repeat (first | (with_reducible first | exact HK.out | apply Kept.alloc | apply Kept.drewN | apply Kept.drew | refine Kept.setCell ?_ (.inr GW162.out) _ | refine Kept.setCell ?_ (.inr GW163.out) _ | refine Kept.setCell ?_ (.inr GW164.out) _ | refine Kept.setCell ?_ (.inr GW165.out) _) | exact HK.out)) hb)
                have n6_ := Aside0.mk (below_step (by repeat (first | (with_reducible first | exact HB.out | apply below_alloc | apply pw_below_drewN | apply below_drew1 | refine below_set ?_ GE162.out | refine below_set ?_ GE163.out | refine below_set ?_ GE164.out | refine below_set ?_ GE165.out) | exact HB.out)) hb)
                have n7_ := Aside0.mk (hbox)
                have n8_ := Aside0.mk ((by rw [hg]; exact (by first | exact HK.out.1 | exact (show Kept w _ (fun k_ => P0_0_ k_) from by repeat (first | (with_reducible first | exact HK.out | apply Kept.alloc | apply Kept.drewN | apply Kept.drew | refine Kept.setCell ?_ (.inr GW162.out) _ | refine Kept.setCell ?_ (.inr GW163.out) _ | refine Kept.setCell ?_ (.inr GW164.out) _ | refine Kept.setCell ?_ (.inr GW165.out) _) | exact HK.out)).1) : w.heap.size ≤ gb176))
                have n9_ := Aside0.mk ((by rw [hg]; exact (below_size (by repeat (first | (with_reducible first | exact HB.out | apply below_alloc | apply pw_below_drewN | apply below_drew1 | refine below_set ?_ GE162.out | refine below_set ?_ GE163.out | refine below_set ?_ GE164.out | refine below_set ?_ GE165.out) | exact HB.out))) : w0.heap.size ≤ gb176))
                have n10_ := Aside0.mk ((by rw [hg]; exact Nat.ne_of_lt (blk_lt (g := gb162) (o := .cells #[.slice Ao7 l0_0.length co7, .int .i64 a0_1, .int .i64 a0_2] 49 (0, 0)) (by (with_reducible repeat (first | refine blk_drewN ?_ _ | refine blk_drew ?_ | refine blk_alloc ?_ _)); exact BK162.out)) : gb162 ≠ gb176))
                have n11_ := Aside0.mk ((by rw [hg]; exact Nat.ne_of_gt (blk_lt (g := gb162) (o := .cells #[.slice Ao7 l0_0.length co7, .int .i64 a0_1, .int .i64 a0_2] 49 (0, 0)) (by (with_reducible repeat (first | refine blk_drewN ?_ _ | refine blk_drew ?_ | refine blk_alloc ?_ _)); exact BK162.out)) : gb176 ≠ gb162))
                have n12_ := Aside0.mk ((by rw [hg]; exact Nat.ne_of_lt (blk_lt (g := gb163) (o := .cells #[.int .i64 a1_0, .int .i64 a1_1] 28 (0, 0)) (by (with_reducible repeat (first | refine blk_drewN ?_ _ | refine blk_drew ?_ | refine blk_alloc ?_ _)); exact BK163.out)) : gb163 ≠ gb176))
                have n13_ := Aside0.mk ((by rw [hg]; exact Nat.ne_of_gt (blk_lt (g := gb163) (o := .cells #[.int .i64 a1_0, .int .i64 a1_1] 28 (0, 0)) (by (with_reducible repeat (first | refine blk_drewN ?_ _ | refine blk_drew ?_ | refine blk_alloc ?_ _)); exact BK163.out)) : gb176 ≠ gb163))
                have n14_ := Aside0.mk ((by rw [hg]; exact Nat.ne_of_lt (blk_lt (g := gb164) (o := .cells #[.slice none 0 0, .int .i64 0, .int .i64 0] 49 (0, 0)) (by (with_reducible repeat (first | refine blk_drewN ?_ _ | refine blk_drew ?_ | refine blk_alloc ?_ _)); exact BK164.out)) : gb164 ≠ gb176))
                have n15_ := Aside0.mk ((by rw [hg]; exact Nat.ne_of_gt (blk_lt (g := gb164) (o := .cells #[.slice none 0 0, .int .i64 0, .int .i64 0] 49 (0, 0)) (by (with_reducible repeat (first | refine blk_drewN ?_ _ | refine blk_drew ?_ | refine blk_alloc ?_ _)); exact BK164.out)) : gb176 ≠ gb164))
                have n16_ := Aside0.mk ((by rw [hg]; exact Nat.ne_of_lt (blk_lt (g := gb165) (o := .cells #[.int .i64 0, .int .i64 0] 28 (0, 0)) (by (with_reducible repeat (first | refine blk_drewN ?_ _ | refine blk_drew ?_ | refine blk_alloc ?_ _)); exact BK165.out)) : gb165 ≠ gb176))
                have n17_ := Aside0.mk ((by rw [hg]; exact Nat.ne_of_gt (blk_lt (g := gb165) (o := .cells #[.int .i64 0, .int .i64 0] 28 (0, 0)) (by (with_reducible repeat (first | refine blk_drewN ?_ _ | refine blk_drew ?_ | refine blk_alloc ?_ _)); exact BK165.out)) : gb176 ≠ gb165))
                clear HO_163000
                clear BK162
                clear BK163
                clear BK164
                clear BK165
                clear HK
                clear HB
                have HO_163000 := n0_
                have BK162 := n1_
                have BK163 := n2_
                have BK164 := n3_
                have BK165 := n4_
                have HK := n5_
                have HB := n6_
                have BK176 := n7_
                have GW176 := n8_
                have GE176 := n9_
                have NB162_176 := n10_
                have NB176_162 := n11_
                have NB163_176 := n12_
                have NB176_163 := n13_
                have NB164_176 := n14_
                have NB176_164 := n15_
                have NB165_176 := n16_
                have NB176_165 := n17_
                clear n0_ n1_ n2_ n3_ n4_ n5_ n6_ n7_ n8_ n9_ n10_ n11_ n12_ n13_ n14_ n15_ n16_ n17_
                clear hb hbox hg
                refine hK.out _ _ ⟨(blk_cell BK162.out 0).trans rfl, (blk_cell BK162.out 1).trans rfl, (blk_cell BK162.out 2).trans rfl, (blk_cell BK163.out 0).trans rfl, (blk_cell BK163.out 1).trans rfl⟩ (fun hHeld => ?_)
                clear hK K
                refine norm_ (a' := ?_) ?_ ?_
                rotate_left
                · show Act.put _ (some 13) _ = _
                  simp only [Act.put, List.setIfInBounds_toArray, List.set_cons_zero, List.set_cons_succ, i64_w, i32_w]
                  rfl
                refine one_ (i := 5) (N := some 33) #[true, true, true, true, true, true, false, false, false, true, false, false] rfl rfl (one_of HT_.out (by kernel_rfl)) (by decide) (fun K hK => ?_)
                refine goes_ Try.func20 (by kernel_rfl) rfl #[.agg #[.slice Ao7 l0_0.length co7, .int .i64 a0_1, .int .i64 a0_2], .agg #[.int .i64 a1_0, .int .i64 a1_1], .int .i64 a2, .int .i64 t166] (by rfl) rfl rfl (by (try simp only [List.map_toArray, List.map_cons, List.map_nil]); first | done | rfl | (simp only [List.length_drop, List.length_take]; rfl)) ?_
                with_reducible refine (bureauref17_Look.calls kj5 _ _ l0_0 a0_1 a0_2 a1_0 a1_1 a2 t166 t167 t168 t169 t170 t171 t172 t173 t174 t175 _ ?side1 ?side2 A25.out).mono ?_
                (case side1 => repeat (first | exact (Kd.R_reads' HO_163000.out).2.2 | (with_reducible refine Kd.C_alloc ?_ _) | (with_reducible refine Kd.C_drewN ?_ _) | (with_reducible refine Kd.C_drew ?_)))
                (case side2 => exact (Kd.R_reads' HO_163000.out).2.1)
                rintro e w30 ⟨rfl, hb⟩
                refine ⟨_, rfl, ?_⟩
                have n0_ := Aside0.mk (Kd.R_below (by (with_reducible repeat (first | apply Kd.R_alloc | apply Kd.R_drewN | apply Kd.R_drew)); exact HO_163000.out) hb)
                have n1_ := Aside0.mk (blk_below (g := gb162) (o := .cells #[.slice Ao7 l0_0.length co7, .int .i64 a0_1, .int .i64 a0_2] 49 (0, 0)) (by (with_reducible repeat (first | refine blk_drewN ?_ _ | refine blk_drew ?_ | refine blk_alloc ?_ _)); exact BK162.out) hb)
                have n2_ := Aside0.mk (blk_below (g := gb163) (o := .cells #[.int .i64 a1_0, .int .i64 a1_1] 28 (0, 0)) (by (with_reducible repeat (first | refine blk_drewN ?_ _ | refine blk_drew ?_ | refine blk_alloc ?_ _)); exact BK163.out) hb)
                have n3_ := Aside0.mk (blk_below (g := gb164) (o := .cells #[.slice none 0 0, .int .i64 0, .int .i64 0] 49 (0, 0)) (by (with_reducible repeat (first | refine blk_drewN ?_ _ | refine blk_drew ?_ | refine blk_alloc ?_ _)); exact BK164.out) hb)
                have n4_ := Aside0.mk (blk_below (g := gb165) (o := .cells #[.int .i64 0, .int .i64 0] 28 (0, 0)) (by (with_reducible repeat (first | refine blk_drewN ?_ _ | refine blk_drew ?_ | refine blk_alloc ?_ _)); exact BK165.out) hb)
                have n5_ := Aside0.mk (blk_below (g := gb176) (o := .cells #[.int .i64 0, .int .i64 0, .int .i64 0, .int .i64 0, .int .i64 0, .int .i64 0, .int .i64 0, .bool false] 59 (0, 0)) (by (with_reducible repeat (first | refine blk_drewN ?_ _ | refine blk_drew ?_ | refine blk_alloc ?_ _)); exact BK176.out) hb)
                have n6_ := Aside0.mk (Kept.below (S := (fun k_ => P0_0_ k_)) (by repeat (first | (with_reducible first | exact HK.out | apply Kept.alloc | apply Kept.drewN | apply Kept.drew | refine Kept.setCell ?_ (.inr GW162.out) _ | refine Kept.setCell ?_ (.inr GW163.out) _ | refine Kept.setCell ?_ (.inr GW164.out) _ | refine Kept.setCell ?_ (.inr GW165.out) _ | refine Kept.setCell ?_ (.inr GW176.out) _) | exact HK.out)) hb)
                have n7_ := Aside0.mk (below_step (by repeat (first | (with_reducible first | exact HB.out | apply below_alloc | apply pw_below_drewN | apply below_drew1 | refine below_set ?_ GE162.out | refine below_set ?_ GE163.out | refine below_set ?_ GE164.out | refine below_set ?_ GE165.out | refine below_set ?_ GE176.out) | exact HB.out)) hb)
                clear HO_163000
                clear BK162
                clear BK163
                clear BK164
                clear BK165
                clear BK176
                clear HK
                clear HB
                have HO_163000 := n0_
                have BK162 := n1_
                have BK163 := n2_
                have BK164 := n3_
                have BK165 := n4_
                have BK176 := n5_
                have HK := n6_
                have HB := n7_
                clear n0_ n1_ n2_ n3_ n4_ n5_ n6_ n7_
                (try clear hb)
                (try clear hb2)
                (try clear hk)
                (try clear hi)
                refine hK.out _ _ ⟨(blk_cell BK162.out 0).trans rfl, (blk_cell BK162.out 1).trans rfl, (blk_cell BK162.out 2).trans rfl, (blk_cell BK163.out 0).trans rfl, (blk_cell BK163.out 1).trans rfl⟩ (fun hHeld => ?_)
                clear hK K
                refine norm_ (a' := ?_) ?_ ?_
                rotate_left
                · show Act.put _ (some 33) _ = _
                  simp only [Act.put, List.setIfInBounds_toArray, List.set_cons_zero, List.set_cons_succ, i64_w, i32_w]
                  rfl
                refine pure_ (i := 6) (N := some 27) (v := ?_) (a' := ?_) #[true, true, true, true, true, true, true, false, false, true, false, false] rfl rfl (any_of HT_.out (by kernel_rfl)) (fun _ _ _ h => h) (Or.inl ⟨by rfl, ?_⟩) ?_ ?_
                rotate_left
                · intro w'
                  go_simp
                  with_reducible rfl
                rotate_left
                · simp only [Act.put, List.setIfInBounds_toArray, List.set_cons_zero, List.set_cons_succ, i64_w, i32_w]
                  rfl
                refine pure_ (i := 7) (N := some 34) (v := ?_) (a' := ?_) #[true, true, true, true, true, true, true, true, false, true, false, false] rfl rfl (any_of HT_.out (by kernel_rfl)) (fun _ _ _ h => h) (Or.inl ⟨by rfl, ?_⟩) ?_ ?_
                rotate_left
                · intro w'
                  go_simp
                  with_reducible rfl
                rotate_left
                · simp only [Act.put, List.setIfInBounds_toArray, List.set_cons_zero, List.set_cons_succ, i64_w, i32_w]
                  rfl
                refine pure_ (i := 8) (N := some 35) (v := ?_) (a' := ?_) #[true, true, true, true, true, true, true, true, true, true, false, false] rfl rfl (any_of HT_.out (by kernel_rfl)) (fun _ _ _ h => h) (Or.inl ⟨by rfl, ?_⟩) ?_ ?_
                rotate_left
                · intro w'
                  go_simp
                  with_reducible rfl
                rotate_left
                · simp only [Act.put, List.setIfInBounds_toArray, List.set_cons_zero, List.set_cons_succ, i64_w, i32_w]
                  rfl
                exact norm_ (by simp only [putAll, Act.put, List.setIfInBounds_toArray, List.set_cons_zero, List.set_cons_succ]) (hCont (gb176) _ ⟨hHeld, (by (with_reducible repeat (first | apply Kd.R_alloc | apply Kd.R_drewN | apply Kd.R_drew)); exact HO_163000.out), (by (with_reducible repeat (first | refine blk_drewN ?_ _ | refine blk_drew ?_ | refine blk_alloc ?_ _)); exact BK162.out), (by (with_reducible repeat (first | refine blk_drewN ?_ _ | refine blk_drew ?_ | refine blk_alloc ?_ _)); exact BK163.out), (by (with_reducible repeat (first | refine blk_drewN ?_ _ | refine blk_drew ?_ | refine blk_alloc ?_ _)); exact BK164.out), (by (with_reducible repeat (first | refine blk_drewN ?_ _ | refine blk_drew ?_ | refine blk_alloc ?_ _)); exact BK165.out), (by (with_reducible repeat (first | refine blk_drewN ?_ _ | refine blk_drew ?_ | refine blk_alloc ?_ _)); exact BK176.out), GW176.out, GE176.out, NB162_176.out, NB176_162.out, NB163_176.out, NB176_163.out, NB164_176.out, NB176_164.out, NB165_176.out, NB176_165.out, (by repeat (first | (with_reducible first | exact HK.out | apply Kept.alloc | apply Kept.drewN | apply Kept.drew | refine Kept.setCell ?_ (.inr GW162.out) _ | refine Kept.setCell ?_ (.inr GW163.out) _ | refine Kept.setCell ?_ (.inr GW164.out) _ | refine Kept.setCell ?_ (.inr GW165.out) _ | refine Kept.setCell ?_ (.inr GW176.out) _) | exact HK.out)), (by repeat (first | (with_reducible first | exact HB.out | apply below_alloc | apply pw_below_drewN | apply below_drew1 | refine below_set ?_ GE162.out | refine below_set ?_ GE163.out | refine below_set ?_ GE164.out | refine below_set ?_ GE165.out | refine below_set ?_ GE176.out) | exact HB.out))⟩)
            · skip
              refine box_step ?hg (N := 13) ?hd (cs := #[.int .i64 0, .int .i64 0, .int .i64 0, .int .i64 0, .int .i64 0, .int .i64 0, .int .i64 0, .bool false]) (t := 59) ?hr ?_; (case hd => rfl); (case hg => rfl); (case hr => first | (go_simp; done) | (go_simp; rfl))
              intro gb176 hg w29 hbox hb
              have n0_ := Aside0.mk (Kd.R_below (Kd.R_elderB (by (with_reducible repeat (first | apply Kd.R_alloc | apply Kd.R_drewN | apply Kd.R_drew)); exact HO_163000.out) gb176 (Nat.le_of_eq hg.symm)) hb)
              have n1_ := Aside0.mk (blk_below (g := gb162) (o := .cells #[.slice Ao7 l0_0.length co7, .int .i64 a0_1, .int .i64 a0_2] 49 (0, 0)) (by (with_reducible repeat (first | refine blk_drewN ?_ _ | refine blk_drew ?_ | refine blk_alloc ?_ _)); exact BK162.out) hb)
              have n2_ := Aside0.mk (blk_below (g := gb163) (o := .cells #[.int .i64 a1_0, .int .i64 a1_1] 28 (0, 0)) (by (with_reducible repeat (first | refine blk_drewN ?_ _ | refine blk_drew ?_ | refine blk_alloc ?_ _)); exact BK163.out) hb)
              have n3_ := Aside0.mk (blk_below (g := gb164) (o := .cells #[.slice none 0 0, .int .i64 0, .int .i64 0] 49 (0, 0)) (by (with_reducible repeat (first | refine blk_drewN ?_ _ | refine blk_drew ?_ | refine blk_alloc ?_ _)); exact BK164.out) hb)
              have n4_ := Aside0.mk (blk_below (g := gb165) (o := .cells #[.int .i64 0, .int .i64 0] 28 (0, 0)) (by (with_reducible repeat (first | refine blk_drewN ?_ _ | refine blk_drew ?_ | refine blk_alloc ?_ _)); exact BK165.out) hb)
              have n5_ := Aside0.mk (Kept.below (S := (fun k_ => P0_0_ k_)) (by repeat (first | (with_reducible first | exact HK.out | apply Kept.alloc | apply Kept.drewN | apply Kept.drew | refine Kept.setCell ?_ (.inr GW162.out) _ | refine Kept.setCell ?_ (.inr GW163.out) _ | refine Kept.setCell ?_ (.inr GW164.out) _ | refine Kept.setCell ?_ (.inr GW165.out) _) | exact HK.out)) hb)
              have n6_ := Aside0.mk (below_step (by repeat (first | (with_reducible first | exact HB.out | apply below_alloc | apply pw_below_drewN | apply below_drew1 | refine below_set ?_ GE162.out | refine below_set ?_ GE163.out | refine below_set ?_ GE164.out | refine below_set ?_ GE165.out) | exact HB.out)) hb)
              have n7_ := Aside0.mk (hbox)
              have n8_ := Aside0.mk ((by rw [hg]; exact (by first | exact HK.out.1 | exact (show Kept w _ (fun k_ => P0_0_ k_) from by repeat (first | (with_reducible first | exact HK.out | apply Kept.alloc | apply Kept.drewN | apply Kept.drew | refine Kept.setCell ?_ (.inr GW162.out) _ | refine Kept.setCell ?_ (.inr GW163.out) _ | refine Kept.setCell ?_ (.inr GW164.out) _ | refine Kept.setCell ?_ (.inr GW165.out) _) | exact HK.out)).1) : w.heap.size ≤ gb176))
              have n9_ := Aside0.mk ((by rw [hg]; exact (below_size (by repeat (first | (with_reducible first | exact HB.out | apply below_alloc | apply pw_below_drewN | apply below_drew1 | refine below_set ?_ GE162.out | refine below_set ?_ GE163.out | refine below_set ?_ GE164.out | refine below_set ?_ GE165.out) | exact HB.out))) : w0.heap.size ≤ gb176))
              have n10_ := Aside0.mk ((by rw [hg]; exact Nat.ne_of_lt (blk_lt (g := gb162) (o := .cells #[.slice Ao7 l0_0.length co7, .int .i64 a0_1, .int .i64 a0_2] 49 (0, 0)) (by (with_reducible repeat (first | refine blk_drewN ?_ _ | refine blk_drew ?_ | refine blk_alloc ?_ _)); exact BK162.out)) : gb162 ≠ gb176))
              have n11_ := Aside0.mk ((by rw [hg]; exact Nat.ne_of_gt (blk_lt (g := gb162) (o := .cells #[.slice Ao7 l0_0.length co7, .int .i64 a0_1, .int .i64 a0_2] 49 (0, 0)) (by (with_reducible repeat (first | refine blk_drewN ?_ _ | refine blk_drew ?_ | refine blk_alloc ?_ _)); exact BK162.out)) : gb176 ≠ gb162))
              have n12_ := Aside0.mk ((by rw [hg]; exact Nat.ne_of_lt (blk_lt (g := gb163) (o := .cells #[.int .i64 a1_0, .int .i64 a1_1] 28 (0, 0)) (by (with_reducible repeat (first | refine blk_drewN ?_ _ | refine blk_drew ?_ | refine blk_alloc ?_ _)); exact BK163.out)) : gb163 ≠ gb176))
              have n13_ := Aside0.mk ((by rw [hg]; exact Nat.ne_of_gt (blk_lt (g := gb163) (o := .cells #[.int .i64 a1_0, .int .i64 a1_1] 28 (0, 0)) (by (with_reducible repeat (first | refine blk_drewN ?_ _ | refine blk_drew ?_ | refine blk_alloc ?_ _)); exact BK163.out)) : gb176 ≠ gb163))
              have n14_ := Aside0.mk ((by rw [hg]; exact Nat.ne_of_lt (blk_lt (g := gb164) (o := .cells #[.slice none 0 0, .int .i64 0, .int .i64 0] 49 (0, 0)) (by (with_reducible repeat (first | refine blk_drewN ?_ _ | refine blk_drew ?_ | refine blk_alloc ?_ _)); exact BK164.out)) : gb164 ≠ gb176))
              have n15_ := Aside0.mk ((by rw [hg]; exact Nat.ne_of_gt (blk_lt (g := gb164) (o := .cells #[.slice none 0 0, .int .i64 0, .int .i64 0] 49 (0, 0)) (by (with_reducible repeat (first | refine blk_drewN ?_ _ | refine blk_drew ?_ | refine blk_alloc ?_ _)); exact BK164.out)) : gb176 ≠ gb164))
              have n16_ := Aside0.mk ((by rw [hg]; exact Nat.ne_of_lt (blk_lt (g := gb165) (o := .cells #[.int .i64 0, .int .i64 0] 28 (0, 0)) (by (with_reducible repeat (first | refine blk_drewN ?_ _ | refine blk_drew ?_ | refine blk_alloc ?_ _)); exact BK165.out)) : gb165 ≠ gb176))
              have n17_ := Aside0.mk ((by rw [hg]; exact Nat.ne_of_gt (blk_lt (g := gb165) (o := .cells #[.int .i64 0, .int .i64 0] 28 (0, 0)) (by (with_reducible repeat (first | refine blk_drewN ?_ _ | refine blk_drew ?_ | refine blk_alloc ?_ _)); exact BK165.out)) : gb176 ≠ gb165))
              clear HO_163000
              clear BK162
              clear BK163
              clear BK164
              clear BK165
              clear HK
              clear HB
              have HO_163000 := n0_
              have BK162 := n1_
              have BK163 := n2_
              have BK164 := n3_
              have BK165 := n4_
              have HK := n5_
              have HB := n6_
              have BK176 := n7_
              have GW176 := n8_
              have GE176 := n9_
              have NB162_176 := n10_
              have NB176_162 := n11_
              have NB163_176 := n12_
              have NB176_163 := n13_
              have NB164_176 := n14_
              have NB176_164 := n15_
              have NB165_176 := n16_
              have NB176_165 := n17_
              clear n0_ n1_ n2_ n3_ n4_ n5_ n6_ n7_ n8_ n9_ n10_ n11_ n12_ n13_ n14_ n15_ n16_ n17_
              clear hb hbox hg
              refine hK.out _ _ ⟨(blk_cell BK162.out 0).trans rfl, (blk_cell BK162.out 1).trans rfl, (blk_cell BK162.out 2).trans rfl, (blk_cell BK163.out 0).trans rfl, (blk_cell BK163.out 1).trans rfl⟩ (fun hHeld => ?_)
              clear hK K
              refine norm_ (a' := ?_) ?_ ?_
              rotate_left
              · show Act.put _ (some 13) _ = _
                simp only [Act.put, List.setIfInBounds_toArray, List.set_cons_zero, List.set_cons_succ, i64_w, i32_w]
                rfl
              refine one_ (i := 4) (N := some 32) #[true, true, true, true, true, false, false, false, false, true, false, false] rfl rfl (one_of HT_.out (by kernel_rfl)) (by decide) (fun K hK => ?_)
              refine goes_ Try.func31 (by kernel_rfl) rfl #[.int .i64 a3, .int .i64 8] (by rfl) rfl rfl (by (try simp only [List.map_toArray, List.map_cons, List.map_nil]); first | done | rfl | (simp only [List.length_drop, List.length_take]; rfl)) ?_
              with_reducible refine (bureauref17_both.calls kj5 a3 8 t166 _ A24.out).mono ?_
              rintro e w' ⟨rfl, ⟨nd, rfl⟩⟩
              refine ⟨_, rfl, ?_⟩
              refine hK.out _ _ ⟨(blk_cell BK162.out 0).trans rfl, (blk_cell BK162.out 1).trans rfl, (blk_cell BK162.out 2).trans rfl, (blk_cell BK163.out 0).trans rfl, (blk_cell BK163.out 1).trans rfl⟩ (fun hHeld => ?_)
              clear hK K
              refine norm_ (a' := ?_) ?_ ?_
              rotate_left
              · show Act.put _ (some 32) _ = _
                simp only [Act.put, List.setIfInBounds_toArray, List.set_cons_zero, List.set_cons_succ, i64_w, i32_w]
                rfl
              refine one_ (i := 5) (N := some 33) #[true, true, true, true, true, true, false, false, false, true, false, false] rfl rfl (one_of HT_.out (by kernel_rfl)) (by decide) (fun K hK => ?_)
              refine goes_ Try.func20 (by kernel_rfl) rfl #[.agg #[.slice Ao7 l0_0.length co7, .int .i64 a0_1, .int .i64 a0_2], .agg #[.int .i64 a1_0, .int .i64 a1_1], .int .i64 a2, .int .i64 t166] (by rfl) rfl rfl (by (try simp only [List.map_toArray, List.map_cons, List.map_nil]); first | done | rfl | (simp only [List.length_drop, List.length_take]; rfl)) ?_
              with_reducible refine (bureauref17_Look.calls kj5 _ _ l0_0 a0_1 a0_2 a1_0 a1_1 a2 t166 t167 t168 t169 t170 t171 t172 t173 t174 t175 _ ?side1 ?side2 A25.out).mono ?_
              (case side1 => repeat (first | exact (Kd.R_reads' HO_163000.out).2.2 | (with_reducible refine Kd.C_alloc ?_ _) | (with_reducible refine Kd.C_drewN ?_ _) | (with_reducible refine Kd.C_drew ?_)))
              (case side2 => exact (Kd.R_reads' HO_163000.out).2.1)
              rintro e w30 ⟨rfl, hb⟩
              refine ⟨_, rfl, ?_⟩
              have n0_ := Aside0.mk (Kd.R_below (by (with_reducible repeat (first | apply Kd.R_alloc | apply Kd.R_drewN | apply Kd.R_drew)); exact HO_163000.out) hb)
              have n1_ := Aside0.mk (blk_below (g := gb162) (o := .cells #[.slice Ao7 l0_0.length co7, .int .i64 a0_1, .int .i64 a0_2] 49 (0, 0)) (by (with_reducible repeat (first | refine blk_drewN ?_ _ | refine blk_drew ?_ | refine blk_alloc ?_ _)); exact BK162.out) hb)
              have n2_ := Aside0.mk (blk_below (g := gb163) (o := .cells #[.int .i64 a1_0, .int .i64 a1_1] 28 (0, 0)) (by (with_reducible repeat (first | refine blk_drewN ?_ _ | refine blk_drew ?_ | refine blk_alloc ?_ _)); exact BK163.out) hb)
              have n3_ := Aside0.mk (blk_below (g := gb164) (o := .cells #[.slice none 0 0, .int .i64 0, .int .i64 0] 49 (0, 0)) (by (with_reducible repeat (first | refine blk_drewN ?_ _ | refine blk_drew ?_ | refine blk_alloc ?_ _)); exact BK164.out) hb)
              have n4_ := Aside0.mk (blk_below (g := gb165) (o := .cells #[.int .i64 0, .int .i64 0] 28 (0, 0)) (by (with_reducible repeat (first | refine blk_drewN ?_ _ | refine blk_drew ?_ | refine blk_alloc ?_ _)); exact BK165.out) hb)
              have n5_ := Aside0.mk (blk_below (g := gb176) (o := .cells #[.int .i64 0, .int .i64 0, .int .i64 0, .int .i64 0, .int .i64 0, .int .i64 0, .int .i64 0, .bool false] 59 (0, 0)) (by (with_reducible repeat (first | refine blk_drewN ?_ _ | refine blk_drew ?_ | refine blk_alloc ?_ _)); exact BK176.out) hb)
              have n6_ := Aside0.mk (Kept.below (S := (fun k_ => P0_0_ k_)) (by repeat (first | (with_reducible first | exact HK.out | apply Kept.alloc | apply Kept.drewN | apply Kept.drew | refine Kept.setCell ?_ (.inr GW162.out) _ | refine Kept.setCell ?_ (.inr GW163.out) _ | refine Kept.setCell ?_ (.inr GW164.out) _ | refine Kept.setCell ?_ (.inr GW165.out) _ | refine Kept.setCell ?_ (.inr GW176.out) _) | exact HK.out)) hb)
              have n7_ := Aside0.mk (below_step (by repeat (first | (with_reducible first | exact HB.out | apply below_alloc | apply pw_below_drewN | apply below_drew1 | refine below_set ?_ GE162.out | refine below_set ?_ GE163.out | refine below_set ?_ GE164.out | refine below_set ?_ GE165.out | refine below_set ?_ GE176.out) | exact HB.out)) hb)
              clear HO_163000
              clear BK162
              clear BK163
              clear BK164
              clear BK165
              clear BK176
              clear HK
              clear HB
              have HO_163000 := n0_
              have BK162 := n1_
              have BK163 := n2_
              have BK164 := n3_
              have BK165 := n4_
              have BK176 := n5_
              have HK := n6_
              have HB := n7_
              clear n0_ n1_ n2_ n3_ n4_ n5_ n6_ n7_
              (try clear hb)
              (try clear hb2)
              (try clear hk)
              (try clear hi)
              refine hK.out _ _ ⟨(blk_cell BK162.out 0).trans rfl, (blk_cell BK162.out 1).trans rfl, (blk_cell BK162.out 2).trans rfl, (blk_cell BK163.out 0).trans rfl, (blk_cell BK163.out 1).trans rfl⟩ (fun hHeld => ?_)
              clear hK K
              refine norm_ (a' := ?_) ?_ ?_
              rotate_left
              · show Act.put _ (some 33) _ = _
                simp only [Act.put, List.setIfInBounds_toArray, List.set_cons_zero, List.set_cons_succ, i64_w, i32_w]
                rfl
              refine pure_ (i := 6) (N := some 27) (v := ?_) (a' := ?_) #[true, true, true, true, true, true, true, false, false, true, false, false] rfl rfl (any_of HT_.out (by kernel_rfl)) (fun _ _ _ h => h) (Or.inl ⟨by rfl, ?_⟩) ?_ ?_
              rotate_left
              · intro w'
                go_simp
                with_reducible rfl
              rotate_left
              · simp only [Act.put, List.setIfInBounds_toArray, List.set_cons_zero, List.set_cons_succ, i64_w, i32_w]
                rfl
              refine pure_ (i := 7) (N := some 34) (v := ?_) (a' := ?_) #[true, true, true, true, true, true, true, true, false, true, false, false] rfl rfl (any_of HT_.out (by kernel_rfl)) (fun _ _ _ h => h) (Or.inl ⟨by rfl, ?_⟩) ?_ ?_
              rotate_left
              · intro w'
                go_simp
                with_reducible rfl
              rotate_left
              · simp only [Act.put, List.setIfInBounds_toArray, List.set_cons_zero, List.set_cons_succ, i64_w, i32_w]
                rfl
              refine pure_ (i := 8) (N := some 35) (v := ?_) (a' := ?_) #[true, true, true, true, true, true, true, true, true, true, false, false] rfl rfl (any_of HT_.out (by kernel_rfl)) (fun _ _ _ h => h) (Or.inl ⟨by rfl, ?_⟩) ?_ ?_
              rotate_left
              · intro w'
                go_simp
                with_reducible rfl
              rotate_left
              · simp only [Act.put, List.setIfInBounds_toArray, List.set_cons_zero, List.set_cons_succ, i64_w, i32_w]
                rfl
              exact norm_ (by simp only [putAll, Act.put, List.setIfInBounds_toArray, List.set_cons_zero, List.set_cons_succ]) (hCont (gb176) _ ⟨hHeld, (by (with_reducible repeat (first | apply Kd.R_alloc | apply Kd.R_drewN | apply Kd.R_drew)); exact HO_163000.out), (by (with_reducible repeat (first | refine blk_drewN ?_ _ | refine blk_drew ?_ | refine blk_alloc ?_ _)); exact BK162.out), (by (with_reducible repeat (first | refine blk_drewN ?_ _ | refine blk_drew ?_ | refine blk_alloc ?_ _)); exact BK163.out), (by (with_reducible repeat (first | refine blk_drewN ?_ _ | refine blk_drew ?_ | refine blk_alloc ?_ _)); exact BK164.out), (by (with_reducible repeat (first | refine blk_drewN ?_ _ | refine blk_drew ?_ | refine blk_alloc ?_ _)); exact BK165.out), (by (with_reducible repeat (first | refine blk_drewN ?_ _ | refine blk_drew ?_ | refine blk_alloc ?_ _)); exact BK176.out), GW176.out, GE176.out, NB162_176.out, NB176_162.out, NB163_176.out, NB176_163.out, NB164_176.out, NB176_164.out, NB165_176.out, NB176_165.out, (by repeat (first | (with_reducible first | exact HK.out | apply Kept.alloc | apply Kept.drewN | apply Kept.drew | refine Kept.setCell ?_ (.inr GW162.out) _ | refine Kept.setCell ?_ (.inr GW163.out) _ | refine Kept.setCell ?_ (.inr GW164.out) _ | refine Kept.setCell ?_ (.inr GW165.out) _ | refine Kept.setCell ?_ (.inr GW176.out) _) | exact HK.out)), (by repeat (first | (with_reducible first | exact HB.out | apply below_alloc | apply pw_below_drewN | apply below_drew1 | refine below_set ?_ GE162.out | refine below_set ?_ GE163.out | refine below_set ?_ GE164.out | refine below_set ?_ GE165.out | refine below_set ?_ GE176.out) | exact HB.out))⟩)
          rintro gb176 w31 ⟨hS_, h0_, h1_, h2_, h3_, h4_, h5_, h6_, h7_, h8_, h9_, h10_, h11_, h12_, h13_, h14_, h15_, h16_, h17_⟩
          have n0_ : Aside0 (Kd.R k59 59 w31 w0.heap.size (fun k_ => (P0_0_ k_ ∨ w.heap.size ≤ k_) ∧ k_ ≠ gb176) (.slice Ao7 l0_0.length co7) l0_0) := ⟨h0_⟩
          have n1_ : Aside0 (w31.heap[gb162]? = some (.cells #[.slice Ao7 l0_0.length co7, .int .i64 a0_1, .int .i64 a0_2] 49 (0, 0))) := ⟨h1_⟩
          have n2_ : Aside0 (w31.heap[gb163]? = some (.cells #[.int .i64 a1_0, .int .i64 a1_1] 28 (0, 0))) := ⟨h2_⟩
          have n3_ : Aside0 (w31.heap[gb164]? = some (.cells #[.slice none 0 0, .int .i64 0, .int .i64 0] 49 (0, 0))) := ⟨h3_⟩
          have n4_ : Aside0 (w31.heap[gb165]? = some (.cells #[.int .i64 0, .int .i64 0] 28 (0, 0))) := ⟨h4_⟩
          have n5_ : Aside0 (w31.heap[gb176]? = some (.cells #[.int .i64 0, .int .i64 0, .int .i64 0, .int .i64 0, .int .i64 0, .int .i64 0, .int .i64 0, .bool false] 59 (0, 0))) := ⟨h5_⟩
          have n6_ : Aside0 (w.heap.size ≤ gb176) := ⟨h6_⟩
          have n7_ : Aside0 (w0.heap.size ≤ gb176) := ⟨h7_⟩
          have n8_ : Aside0 (gb162 ≠ gb176) := ⟨h8_⟩
          have n9_ : Aside0 (gb176 ≠ gb162) := ⟨h9_⟩
          have n10_ : Aside0 (gb163 ≠ gb176) := ⟨h10_⟩
          have n11_ : Aside0 (gb176 ≠ gb163) := ⟨h11_⟩
          have n12_ : Aside0 (gb164 ≠ gb176) := ⟨h12_⟩
          have n13_ : Aside0 (gb176 ≠ gb164) := ⟨h13_⟩
          have n14_ : Aside0 (gb165 ≠ gb176) := ⟨h14_⟩
          have n15_ : Aside0 (gb176 ≠ gb165) := ⟨h15_⟩
          have n16_ : Aside0 (Kept w w31 (fun k_ => P0_0_ k_)) := ⟨h16_⟩
          have n17_ : Aside0 (Below w0.heap.size w0 w31) := ⟨h17_⟩
          clear HO_163000
          clear BK162
          clear BK163
          clear BK164
          clear BK165
          clear HK
          clear HB
          clear h0_ h1_ h2_ h3_ h4_ h5_ h6_ h7_ h8_ h9_ h10_ h11_ h12_ h13_ h14_ h15_ h16_ h17_
          have HO_163000 := n0_
          have BK162 := n1_
          have BK163 := n2_
          have BK164 := n3_
          have BK165 := n4_
          have BK176 := n5_
          have GW176 := n6_
          have GE176 := n7_
          have NB162_176 := n8_
          have NB176_162 := n9_
          have NB163_176 := n10_
          have NB176_163 := n11_
          have NB164_176 := n12_
          have NB176_164 := n13_
          have NB165_176 := n14_
          have NB176_165 := n15_
          have HK := n16_
          have HB := n17_
          clear n0_ n1_ n2_ n3_ n4_ n5_ n6_ n7_ n8_ n9_ n10_ n11_ n12_ n13_ n14_ n15_ n16_ n17_
          have hHeld : w31.cell? ⟨gb162, 0, none⟩ = some (.slice Ao7 l0_0.length co7) ∧ w31.cell? ⟨gb162, 1, none⟩ = some (.int .i64 a0_1) ∧ w31.cell? ⟨gb162, 2, none⟩ = some (.int .i64 a0_2) ∧ w31.cell? ⟨gb163, 0, none⟩ = some (.int .i64 a1_0) ∧ w31.cell? ⟨gb163, 1, none⟩ = some (.int .i64 a1_1) := hS_
          refine norm_ (a' := ?_) ?_ ?_
          rotate_left
          · simp only [putAll, Act.put, List.setIfInBounds_toArray, List.set_cons_zero, List.set_cons_succ]
            rfl
          refine one_ (i := 10) (N := none) #[true, true, true, true, true, true, true, true, true, true, true, false] rfl rfl (one_of HT_.out (by kernel_rfl)) (by decide) (fun K hK => ?_)
          have hs32 : w31.cell? ⟨gb176, 0, none⟩ = some (.int .i64 0) := (blk_cell BK176.out 0).trans rfl
          have hfs32 := blk_frozen BK176.out 0
          have hns32_0 := NB162_176.out
          have hns32_1 := NB163_176.out
          have hns32_2 := NB164_176.out
          have hns32_3 := NB165_176.out
          have hms32_0 := NB176_162.out
          have hms32_1 := NB176_163.out
          have hms32_2 := NB176_164.out
          have hms32_3 := NB176_165.out
          have hs33 : w31.cell? ⟨gb176, 1, none⟩ = some (.int .i64 0) := (blk_cell BK176.out 1).trans rfl
          have hfs33 := blk_frozen BK176.out 1
          have hns33_0 := NB162_176.out
          have hns33_1 := NB163_176.out
          have hns33_2 := NB164_176.out
          have hns33_3 := NB165_176.out
          have hms33_0 := NB176_162.out
          have hms33_1 := NB176_163.out
          have hms33_2 := NB176_164.out
          have hms33_3 := NB176_165.out
          have hs34 : w31.cell? ⟨gb176, 2, none⟩ = some (.int .i64 0) := (blk_cell BK176.out 2).trans rfl
          have hfs34 := blk_frozen BK176.out 2
          have hns34_0 := NB162_176.out
          have hns34_1 := NB163_176.out
          have hns34_2 := NB164_176.out
          have hns34_3 := NB165_176.out
          have hms34_0 := NB176_162.out
          have hms34_1 := NB176_163.out
          have hms34_2 := NB176_164.out
          have hms34_3 := NB176_165.out
          have hs35 : w31.cell? ⟨gb176, 3, none⟩ = some (.int .i64 0) := (blk_cell BK176.out 3).trans rfl
          have hfs35 := blk_frozen BK176.out 3
          have hns35_0 := NB162_176.out
          have hns35_1 := NB163_176.out
          have hns35_2 := NB164_176.out
          have hns35_3 := NB165_176.out
          have hms35_0 := NB176_162.out
          have hms35_1 := NB176_163.out
          have hms35_2 := NB176_164.out
          have hms35_3 := NB176_165.out
          have hs36 : w31.cell? ⟨gb176, 4, none⟩ = some (.int .i64 0) := (blk_cell BK176.out 4).trans rfl
          have hfs36 := blk_frozen BK176.out 4
          have hns36_0 := NB162_176.out
          have hns36_1 := NB163_176.out
          have hns36_2 := NB164_176.out
          have hns36_3 := NB165_176.out
          have hms36_0 := NB176_162.out
          have hms36_1 := NB176_163.out
          have hms36_2 := NB176_164.out
          have hms36_3 := NB176_165.out
          have hs37 : w31.cell? ⟨gb176, 5, none⟩ = some (.int .i64 0) := (blk_cell BK176.out 5).trans rfl
          have hfs37 := blk_frozen BK176.out 5
          have hns37_0 := NB162_176.out
          have hns37_1 := NB163_176.out
          have hns37_2 := NB164_176.out
          have hns37_3 := NB165_176.out
          have hms37_0 := NB176_162.out
          have hms37_1 := NB176_163.out
          have hms37_2 := NB176_164.out
          have hms37_3 := NB176_165.out
          have hs38 : w31.cell? ⟨gb176, 6, none⟩ = some (.int .i64 0) := (blk_cell BK176.out 6).trans rfl
          have hfs38 := blk_frozen BK176.out 6
          have hns38_0 := NB162_176.out
          have hns38_1 := NB163_176.out
          have hns38_2 := NB164_176.out
          have hns38_3 := NB165_176.out
          have hms38_0 := NB176_162.out
          have hms38_1 := NB176_163.out
          have hms38_2 := NB176_164.out
          have hms38_3 := NB176_165.out
          have hs39 : w31.cell? ⟨gb176, 7, none⟩ = some (.bool false) := (blk_cell BK176.out 7).trans rfl
          have hfs39 := blk_frozen BK176.out 7
          have hns39_0 := NB162_176.out
          have hns39_1 := NB163_176.out
          have hns39_2 := NB164_176.out
          have hns39_3 := NB165_176.out
          have hms39_0 := NB176_162.out
          have hms39_1 := NB176_163.out
          have hms39_2 := NB176_164.out
          have hms39_3 := NB176_165.out
          refine skip_ (w1 := ?_) (by rfl) rfl ?_ ?_
          rotate_left
          · go_simp
            rfl
          refine hK.out _ _ ⟨((cell_far (p := ⟨gb176, _, none⟩) NB162_176.out _).trans (((cell_far (p := ⟨gb176, _, none⟩) NB162_176.out _).trans (((cell_far (p := ⟨gb176, _, none⟩) NB162_176.out _).trans (((cell_far (p := ⟨gb176, _, none⟩) NB162_176.out _).trans (((cell_far (p := ⟨gb176, _, none⟩) NB162_176.out _).trans (((cell_far (p := ⟨gb176, _, none⟩) NB162_176.out _).trans (((cell_far (p := ⟨gb176, _, none⟩) NB162_176.out _).trans (((cell_far (p := ⟨gb176, _, none⟩) NB162_176.out _).trans (hHeld.1)))))))))))))))), ((cell_far (p := ⟨gb176, _, none⟩) NB162_176.out _).trans (((cell_far (p := ⟨gb176, _, none⟩) NB162_176.out _).trans (((cell_far (p := ⟨gb176, _, none⟩) NB162_176.out _).trans (((cell_far (p := ⟨gb176, _, none⟩) NB162_176.out _).trans (((cell_far (p := ⟨gb176, _, none⟩) NB162_176.out _).trans (((cell_far (p := ⟨gb176, _, none⟩) NB162_176.out _).trans (((cell_far (p := ⟨gb176, _, none⟩) NB162_176.out _).trans (((cell_far (p := ⟨gb176, _, none⟩) NB162_176.out _).trans (hHeld.2.1)))))))))))))))), ((cell_far (p := ⟨gb176, _, none⟩) NB162_176.out _).trans (((cell_far (p := ⟨gb176, _, none⟩) NB162_176.out _).trans (((cell_far (p := ⟨gb176, _, none⟩) NB162_176.out _).trans (((cell_far (p := ⟨gb176, _, none⟩) NB162_176.out _).trans (((cell_far (p := ⟨gb176, _, none⟩) NB162_176.out _).trans (((cell_far (p := ⟨gb176, _, none⟩) NB162_176.out _).trans (((cell_far (p := ⟨gb176, _, none⟩) NB162_176.out _).trans (((cell_far (p := ⟨gb176, _, none⟩) NB162_176.out _).trans (hHeld.2.2.1)))))))))))))))), ((cell_far (p := ⟨gb176, _, none⟩) NB163_176.out _).trans (((cell_far (p := ⟨gb176, _, none⟩) NB163_176.out _).trans (((cell_far (p := ⟨gb176, _, none⟩) NB163_176.out _).trans (((cell_far (p := ⟨gb176, _, none⟩) NB163_176.out _).trans (((cell_far (p := ⟨gb176, _, none⟩) NB163_176.out _).trans (((cell_far (p := ⟨gb176, _, none⟩) NB163_176.out _).trans (((cell_far (p := ⟨gb176, _, none⟩) NB163_176.out _).trans (((cell_far (p := ⟨gb176, _, none⟩) NB163_176.out _).trans (hHeld.2.2.2.1)))))))))))))))), ((cell_far (p := ⟨gb176, _, none⟩) NB163_176.out _).trans (((cell_far (p := ⟨gb176, _, none⟩) NB163_176.out _).trans (((cell_far (p := ⟨gb176, _, none⟩) NB163_176.out _).trans (((cell_far (p := ⟨gb176, _, none⟩) NB163_176.out _).trans (((cell_far (p := ⟨gb176, _, none⟩) NB163_176.out _).trans (((cell_far (p := ⟨gb176, _, none⟩) NB163_176.out _).trans (((cell_far (p := ⟨gb176, _, none⟩) NB163_176.out _).trans (((cell_far (p := ⟨gb176, _, none⟩) NB163_176.out _).trans (hHeld.2.2.2.2))))))))))))))))⟩ (fun hHeld => ?_)
          clear hK K
          refine pure_ (i := 11) (N := some 14) (v := ?_) (a' := ?_) #[true, true, true, true, true, true, true, true, true, true, true, true] rfl rfl (any_of HT_.out (by kernel_rfl)) (fun _ _ _ h => h) (Or.inl ⟨by rfl, ?_⟩) ?_ ?_
          rotate_left
          · intro w'
            go_simp
            with_reducible rfl
          rotate_left
          · simp only [Act.put, List.setIfInBounds_toArray, List.set_cons_zero, List.set_cons_succ, i64_w, i32_w]
            rfl
          refine done_ (done_of HT_.out (by kernel_rfl)) ?_
          have n0_ : Aside0 (Kd.R k59 59 ((((((((w31.setCell ⟨gb176, 0, none⟩ (.int .i64 t167)).setCell ⟨gb176, 1, none⟩ (.int .i64 t168)).setCell ⟨gb176, 2, none⟩ (.int .i64 t169)).setCell ⟨gb176, 3, none⟩ (.int .i64 t170)).setCell ⟨gb176, 4, none⟩ (.int .i64 t171)).setCell ⟨gb176, 5, none⟩ (.int .i64 t172)).setCell ⟨gb176, 6, none⟩ (.int .i64 t173)).setCell ⟨gb176, 7, none⟩ (.bool t174)) w0.heap.size (fun k_ => (P0_0_ k_ ∨ w.heap.size ≤ k_) ∧ k_ ≠ gb176) (.slice Ao7 l0_0.length co7) l0_0) := ⟨by (with_reducible repeat (first | apply Kd.R_alloc | apply Kd.R_drewN | apply Kd.R_drew)); exact Kd.R_mono (Kd.R_far (p := ⟨gb176, 7, none⟩) (Kd.R_far (p := ⟨gb176, 6, none⟩) (Kd.R_far (p := ⟨gb176, 5, none⟩) (Kd.R_far (p := ⟨gb176, 4, none⟩) (Kd.R_far (p := ⟨gb176, 3, none⟩) (Kd.R_far (p := ⟨gb176, 2, none⟩) (Kd.R_far (p := ⟨gb176, 1, none⟩) (Kd.R_far (p := ⟨gb176, 0, none⟩) (Kd.R_mono HO_163000.out (fun k_ hk => (⟨hk, hk.2⟩ : _ ∧ k_ ≠ gb176))) (fun _ hk => hk.2) (.int .i64 t167)) (fun _ hk => hk.2) (.int .i64 t168)) (fun _ hk => hk.2) (.int .i64 t169)) (fun _ hk => hk.2) (.int .i64 t170)) (fun _ hk => hk.2) (.int .i64 t171)) (fun _ hk => hk.2) (.int .i64 t172)) (fun _ hk => hk.2) (.int .i64 t173)) (fun _ hk => hk.2) (.bool t174)) (fun _ hk => ⟨hk.1.1, hk.1.2⟩)⟩
          have n1_ : Aside0 (((((((((w31.setCell ⟨gb176, 0, none⟩ (.int .i64 t167)).setCell ⟨gb176, 1, none⟩ (.int .i64 t168)).setCell ⟨gb176, 2, none⟩ (.int .i64 t169)).setCell ⟨gb176, 3, none⟩ (.int .i64 t170)).setCell ⟨gb176, 4, none⟩ (.int .i64 t171)).setCell ⟨gb176, 5, none⟩ (.int .i64 t172)).setCell ⟨gb176, 6, none⟩ (.int .i64 t173)).setCell ⟨gb176, 7, none⟩ (.bool t174)).heap[gb162]? = some (.cells #[.slice Ao7 l0_0.length co7, .int .i64 a0_1, .int .i64 a0_2] 49 (0, 0))) := ⟨by (with_reducible repeat (first | refine blk_drewN ?_ _ | refine blk_drew ?_ | refine blk_alloc ?_ _)); refine blk_far ?_ NB162_176.out _; (with_reducible repeat (first | refine blk_drewN ?_ _ | refine blk_drew ?_ | refine blk_alloc ?_ _)); refine blk_far ?_ NB162_176.out _; (with_reducible repeat (first | refine blk_drewN ?_ _ | refine blk_drew ?_ | refine blk_alloc ?_ _)); refine blk_far ?_ NB162_176.out _; (with_reducible repeat (first | refine blk_drewN ?_ _ | refine blk_drew ?_ | refine blk_alloc ?_ _)); refine blk_far ?_ NB162_176.out _; (with_reducible repeat (first | refine blk_drewN ?_ _ | refine blk_drew ?_ | refine blk_alloc ?_ _)); refine blk_far ?_ NB162_176.out _; (with_reducible repeat (first | refine blk_drewN ?_ _ | refine blk_drew ?_ | refine blk_alloc ?_ _)); refine blk_far ?_ NB162_176.out _; (with_reducible repeat (first | refine blk_drewN ?_ _ | refine blk_drew ?_ | refine blk_alloc ?_ _)); refine blk_far ?_ NB162_176.out _; (with_reducible repeat (first | refine blk_drewN ?_ _ | refine blk_drew ?_ | refine blk_alloc ?_ _)); refine blk_far ?_ NB162_176.out _; (with_reducible repeat (first | refine blk_drewN ?_ _ | refine blk_drew ?_ | refine blk_alloc ?_ _)); exact BK162.out⟩
          have n2_ : Aside0 (((((((((w31.setCell ⟨gb176, 0, none⟩ (.int .i64 t167)).setCell ⟨gb176, 1, none⟩ (.int .i64 t168)).setCell ⟨gb176, 2, none⟩ (.int .i64 t169)).setCell ⟨gb176, 3, none⟩ (.int .i64 t170)).setCell ⟨gb176, 4, none⟩ (.int .i64 t171)).setCell ⟨gb176, 5, none⟩ (.int .i64 t172)).setCell ⟨gb176, 6, none⟩ (.int .i64 t173)).setCell ⟨gb176, 7, none⟩ (.bool t174)).heap[gb163]? = some (.cells #[.int .i64 a1_0, .int .i64 a1_1] 28 (0, 0))) := ⟨by (with_reducible repeat (first | refine blk_drewN ?_ _ | refine blk_drew ?_ | refine blk_alloc ?_ _)); refine blk_far ?_ NB163_176.out _; (with_reducible repeat (first | refine blk_drewN ?_ _ | refine blk_drew ?_ | refine blk_alloc ?_ _)); refine blk_far ?_ NB163_176.out _; (with_reducible repeat (first | refine blk_drewN ?_ _ | refine blk_drew ?_ | refine blk_alloc ?_ _)); refine blk_far ?_ NB163_176.out _; (with_reducible repeat (first | refine blk_drewN ?_ _ | refine blk_drew ?_ | refine blk_alloc ?_ _)); refine blk_far ?_ NB163_176.out _; (with_reducible repeat (first | refine blk_drewN ?_ _ | refine blk_drew ?_ | refine blk_alloc ?_ _)); refine blk_far ?_ NB163_176.out _; (with_reducible repeat (first | refine blk_drewN ?_ _ | refine blk_drew ?_ | refine blk_alloc ?_ _)); refine blk_far ?_ NB163_176.out _; (with_reducible repeat (first | refine blk_drewN ?_ _ | refine blk_drew ?_ | refine blk_alloc ?_ _)); refine blk_far ?_ NB163_176.out _; (with_reducible repeat (first | refine blk_drewN ?_ _ | refine blk_drew ?_ | refine blk_alloc ?_ _)); refine blk_far ?_ NB163_176.out _; (with_reducible repeat (first | refine blk_drewN ?_ _ | refine blk_drew ?_ | refine blk_alloc ?_ _)); exact BK163.out⟩
          have n3_ : Aside0 (((((((((w31.setCell ⟨gb176, 0, none⟩ (.int .i64 t167)).setCell ⟨gb176, 1, none⟩ (.int .i64 t168)).setCell ⟨gb176, 2, none⟩ (.int .i64 t169)).setCell ⟨gb176, 3, none⟩ (.int .i64 t170)).setCell ⟨gb176, 4, none⟩ (.int .i64 t171)).setCell ⟨gb176, 5, none⟩ (.int .i64 t172)).setCell ⟨gb176, 6, none⟩ (.int .i64 t173)).setCell ⟨gb176, 7, none⟩ (.bool t174)).heap[gb164]? = some (.cells #[.slice none 0 0, .int .i64 0, .int .i64 0] 49 (0, 0))) := ⟨by (with_reducible repeat (first | refine blk_drewN ?_ _ | refine blk_drew ?_ | refine blk_alloc ?_ _)); refine blk_far ?_ NB164_176.out _; (with_reducible repeat (first | refine blk_drewN ?_ _ | refine blk_drew ?_ | refine blk_alloc ?_ _)); refine blk_far ?_ NB164_176.out _; (with_reducible repeat (first | refine blk_drewN ?_ _ | refine blk_drew ?_ | refine blk_alloc ?_ _)); refine blk_far ?_ NB164_176.out _; (with_reducible repeat (first | refine blk_drewN ?_ _ | refine blk_drew ?_ | refine blk_alloc ?_ _)); refine blk_far ?_ NB164_176.out _; (with_reducible repeat (first | refine blk_drewN ?_ _ | refine blk_drew ?_ | refine blk_alloc ?_ _)); refine blk_far ?_ NB164_176.out _; (with_reducible repeat (first | refine blk_drewN ?_ _ | refine blk_drew ?_ | refine blk_alloc ?_ _)); refine blk_far ?_ NB164_176.out _; (with_reducible repeat (first | refine blk_drewN ?_ _ | refine blk_drew ?_ | refine blk_alloc ?_ _)); refine blk_far ?_ NB164_176.out _; (with_reducible repeat (first | refine blk_drewN ?_ _ | refine blk_drew ?_ | refine blk_alloc ?_ _)); refine blk_far ?_ NB164_176.out _; (with_reducible repeat (first | refine blk_drewN ?_ _ | refine blk_drew ?_ | refine blk_alloc ?_ _)); exact BK164.out⟩
          have n4_ : Aside0 (((((((((w31.setCell ⟨gb176, 0, none⟩ (.int .i64 t167)).setCell ⟨gb176, 1, none⟩ (.int .i64 t168)).setCell ⟨gb176, 2, none⟩ (.int .i64 t169)).setCell ⟨gb176, 3, none⟩ (.int .i64 t170)).setCell ⟨gb176, 4, none⟩ (.int .i64 t171)).setCell ⟨gb176, 5, none⟩ (.int .i64 t172)).setCell ⟨gb176, 6, none⟩ (.int .i64 t173)).setCell ⟨gb176, 7, none⟩ (.bool t174)).heap[gb165]? = some (.cells #[.int .i64 0, .int .i64 0] 28 (0, 0))) := ⟨by (with_reducible repeat (first | refine blk_drewN ?_ _ | refine blk_drew ?_ | refine blk_alloc ?_ _)); refine blk_far ?_ NB165_176.out _; (with_reducible repeat (first | refine blk_drewN ?_ _ | refine blk_drew ?_ | refine blk_alloc ?_ _)); refine blk_far ?_ NB165_176.out _; (with_reducible repeat (first | refine blk_drewN ?_ _ | refine blk_drew ?_ | refine blk_alloc ?_ _)); refine blk_far ?_ NB165_176.out _; (with_reducible repeat (first | refine blk_drewN ?_ _ | refine blk_drew ?_ | refine blk_alloc ?_ _)); refine blk_far ?_ NB165_176.out _; (with_reducible repeat (first | refine blk_drewN ?_ _ | refine blk_drew ?_ | refine blk_alloc ?_ _)); refine blk_far ?_ NB165_176.out _; (with_reducible repeat (first | refine blk_drewN ?_ _ | refine blk_drew ?_ | refine blk_alloc ?_ _)); refine blk_far ?_ NB165_176.out _; (with_reducible repeat (first | refine blk_drewN ?_ _ | refine blk_drew ?_ | refine blk_alloc ?_ _)); refine blk_far ?_ NB165_176.out _; (with_reducible repeat (first | refine blk_drewN ?_ _ | refine blk_drew ?_ | refine blk_alloc ?_ _)); refine blk_far ?_ NB165_176.out _; (with_reducible repeat (first | refine blk_drewN ?_ _ | refine blk_drew ?_ | refine blk_alloc ?_ _)); exact BK165.out⟩
          have n5_ : Aside0 (((((((((w31.setCell ⟨gb176, 0, none⟩ (.int .i64 t167)).setCell ⟨gb176, 1, none⟩ (.int .i64 t168)).setCell ⟨gb176, 2, none⟩ (.int .i64 t169)).setCell ⟨gb176, 3, none⟩ (.int .i64 t170)).setCell ⟨gb176, 4, none⟩ (.int .i64 t171)).setCell ⟨gb176, 5, none⟩ (.int .i64 t172)).setCell ⟨gb176, 6, none⟩ (.int .i64 t173)).setCell ⟨gb176, 7, none⟩ (.bool t174)).heap[gb176]? = some (.cells #[.int .i64 t167, .int .i64 t168, .int .i64 t169, .int .i64 t170, .int .i64 t171, .int .i64 t172, .int .i64 t173, .bool t174] 59 (0, 0))) := ⟨by (with_reducible repeat (first | refine blk_drewN ?_ _ | refine blk_drew ?_ | refine blk_alloc ?_ _)); refine blk_put (cs := #[.int .i64 t167, .int .i64 t168, .int .i64 t169, .int .i64 t170, .int .i64 t171, .int .i64 t172, .int .i64 t173, .bool false]) ?_ 7 _ rfl; (with_reducible repeat (first | refine blk_drewN ?_ _ | refine blk_drew ?_ | refine blk_alloc ?_ _)); refine blk_put (cs := #[.int .i64 t167, .int .i64 t168, .int .i64 t169, .int .i64 t170, .int .i64 t171, .int .i64 t172, .int .i64 0, .bool false]) ?_ 6 _ rfl; (with_reducible repeat (first | refine blk_drewN ?_ _ | refine blk_drew ?_ | refine blk_alloc ?_ _)); refine blk_put (cs := #[.int .i64 t167, .int .i64 t168, .int .i64 t169, .int .i64 t170, .int .i64 t171, .int .i64 0, .int .i64 0, .bool false]) ?_ 5 _ rfl; (with_reducible repeat (first | refine blk_drewN ?_ _ | refine blk_drew ?_ | refine blk_alloc ?_ _)); refine blk_put (cs := #[.int .i64 t167, .int .i64 t168, .int .i64 t169, .int .i64 t170, .int .i64 0, .int .i64 0, .int .i64 0, .bool false]) ?_ 4 _ rfl; (with_reducible repeat (first | refine blk_drewN ?_ _ | refine blk_drew ?_ | refine blk_alloc ?_ _)); refine blk_put (cs := #[.int .i64 t167, .int .i64 t168, .int .i64 t169, .int .i64 0, .int .i64 0, .int .i64 0, .int .i64 0, .bool false]) ?_ 3 _ rfl; (with_reducible repeat (first | refine blk_drewN ?_ _ | refine blk_drew ?_ | refine blk_alloc ?_ _)); refine blk_put (cs := #[.int .i64 t167, .int .i64 t168, .int .i64 0, .int .i64 0, .int .i64 0, .int .i64 0, .int .i64 0, .bool false]) ?_ 2 _ rfl; (with_reducible repeat (first | refine blk_drewN ?_ _ | refine blk_drew ?_ | refine blk_alloc ?_ _)); refine blk_put (cs := #[.int .i64 t167, .int .i64 0, .int .i64 0, .int .i64 0, .int .i64 0, .int .i64 0, .int .i64 0, .bool false]) ?_ 1 _ rfl; (with_reducible repeat (first | refine blk_drewN ?_ _ | refine blk_drew ?_ | refine blk_alloc ?_ _)); refine blk_put (cs := #[.int .i64 0, .int .i64 0, .int .i64 0, .int .i64 0, .int .i64 0, .int .i64 0, .int .i64 0, .bool false]) ?_ 0 _ rfl; (with_reducible repeat (first | refine blk_drewN ?_ _ | refine blk_drew ?_ | refine blk_alloc ?_ _)); exact BK176.out⟩
          have n6_ : Aside0 (Kept w ((((((((w31.setCell ⟨gb176, 0, none⟩ (.int .i64 t167)).setCell ⟨gb176, 1, none⟩ (.int .i64 t168)).setCell ⟨gb176, 2, none⟩ (.int .i64 t169)).setCell ⟨gb176, 3, none⟩ (.int .i64 t170)).setCell ⟨gb176, 4, none⟩ (.int .i64 t171)).setCell ⟨gb176, 5, none⟩ (.int .i64 t172)).setCell ⟨gb176, 6, none⟩ (.int .i64 t173)).setCell ⟨gb176, 7, none⟩ (.bool t174)) (fun k_ => P0_0_ k_)) := ⟨by repeat (first | (with_reducible first | exact HK.out | apply Kept.alloc | apply Kept.drewN | apply Kept.drew | refine Kept.setCell ?_ (.inr GW162.out) _ | refine Kept.setCell ?_ (.inr GW163.out) _ | refine Kept.setCell ?_ (.inr GW164.out) _ | refine Kept.setCell ?_ (.inr GW165.out) _ | refine Kept.setCell ?_ (.inr GW176.out) _) | exact HK.out)⟩
          have n7_ : Aside0 (Below w0.heap.size w0 ((((((((w31.setCell ⟨gb176, 0, none⟩ (.int .i64 t167)).setCell ⟨gb176, 1, none⟩ (.int .i64 t168)).setCell ⟨gb176, 2, none⟩ (.int .i64 t169)).setCell ⟨gb176, 3, none⟩ (.int .i64 t170)).setCell ⟨gb176, 4, none⟩ (.int .i64 t171)).setCell ⟨gb176, 5, none⟩ (.int .i64 t172)).setCell ⟨gb176, 6, none⟩ (.int .i64 t173)).setCell ⟨gb176, 7, none⟩ (.bool t174))) := ⟨by repeat (first | (with_reducible first | exact HB.out | apply below_alloc | apply pw_below_drewN | apply below_drew1 | refine below_set ?_ GE162.out | refine below_set ?_ GE163.out | refine below_set ?_ GE164.out | refine below_set ?_ GE165.out | refine below_set ?_ GE176.out) | exact HB.out)⟩
          (try clear HO_163000)
          (try clear BK162)
          (try clear BK163)
          (try clear BK164)
          (try clear BK165)
          (try clear BK176)
          (try clear HK)
          (try clear HB)
          generalize ((((((((w31.setCell ⟨gb176, 0, none⟩ (.int .i64 t167)).setCell ⟨gb176, 1, none⟩ (.int .i64 t168)).setCell ⟨gb176, 2, none⟩ (.int .i64 t169)).setCell ⟨gb176, 3, none⟩ (.int .i64 t170)).setCell ⟨gb176, 4, none⟩ (.int .i64 t171)).setCell ⟨gb176, 5, none⟩ (.int .i64 t172)).setCell ⟨gb176, 6, none⟩ (.int .i64 t173)).setCell ⟨gb176, 7, none⟩ (.bool t174)) = w40 at n0_ n1_ n2_ n3_ n4_ n5_ n6_ n7_ ⊢
          have HO_163000 := n0_
          have BK162 := n1_
          have BK163 := n2_
          have BK164 := n3_
          have BK165 := n4_
          have BK176 := n5_
          have HK := n6_
          have HB := n7_
          clear n0_ n1_ n2_ n3_ n4_ n5_ n6_ n7_
          have hnb41 := NB162_163.out
          have hnc41 := NB163_162.out
          have hnb42 := NB162_164.out
          have hnc42 := NB164_162.out
          have hnb43 := NB162_165.out
          have hnc43 := NB165_162.out
          have hnb44 := NB162_176.out
          have hnc44 := NB176_162.out
          have hcz45_0 : w40.cell? ⟨gb162, 0, none⟩ = some (.slice Ao7 l0_0.length co7) := (blk_cell BK162.out 0).trans rfl
          have hcz45_1 : w40.cell? ⟨gb162, 1, none⟩ = some (.int .i64 a0_1) := (blk_cell BK162.out 1).trans rfl
          have hcz45_2 : w40.cell? ⟨gb162, 2, none⟩ = some (.int .i64 a0_2) := (blk_cell BK162.out 2).trans rfl
          have hfz45_0 := blk_frozen BK162.out 0
          have hfz45_1 := blk_frozen BK162.out 1
          have hfz45_2 := blk_frozen BK162.out 2
          have hnb46 := NB176_163.out
          have hnc46 := NB163_176.out
          have hnb47 := NB176_164.out
          have hnc47 := NB164_176.out
          have hnb48 := NB176_165.out
          have hnc48 := NB165_176.out
          have hcz49_0 : w40.cell? ⟨gb176, 0, none⟩ = some (.int .i64 t167) := (blk_cell BK176.out 0).trans rfl
          have hcz49_1 : w40.cell? ⟨gb176, 1, none⟩ = some (.int .i64 t168) := (blk_cell BK176.out 1).trans rfl
          have hcz49_2 : w40.cell? ⟨gb176, 2, none⟩ = some (.int .i64 t169) := (blk_cell BK176.out 2).trans rfl
          have hcz49_3 : w40.cell? ⟨gb176, 3, none⟩ = some (.int .i64 t170) := (blk_cell BK176.out 3).trans rfl
          have hcz49_4 : w40.cell? ⟨gb176, 4, none⟩ = some (.int .i64 t171) := (blk_cell BK176.out 4).trans rfl
          have hcz49_5 : w40.cell? ⟨gb176, 5, none⟩ = some (.int .i64 t172) := (blk_cell BK176.out 5).trans rfl
          have hcz49_6 : w40.cell? ⟨gb176, 6, none⟩ = some (.int .i64 t173) := (blk_cell BK176.out 6).trans rfl
          have hcz49_7 : w40.cell? ⟨gb176, 7, none⟩ = some (.bool t174) := (blk_cell BK176.out 7).trans rfl
          have hfz49_0 := blk_frozen BK176.out 0
          have hfz49_1 := blk_frozen BK176.out 1
          have hfz49_2 := blk_frozen BK176.out 2
          have hfz49_3 := blk_frozen BK176.out 3
          have hfz49_4 := blk_frozen BK176.out 4
          have hfz49_5 := blk_frozen BK176.out 5
          have hfz49_6 := blk_frozen BK176.out 6
          have hfz49_7 := blk_frozen BK176.out 7
          have hnb50 := NB163_164.out
          have hnc50 := NB164_163.out
          have hnb51 := NB163_165.out
          have hnc51 := NB165_163.out
          have hcz52_0 : w40.cell? ⟨gb163, 0, none⟩ = some (.int .i64 a1_0) := (blk_cell BK163.out 0).trans rfl
          have hcz52_1 : w40.cell? ⟨gb163, 1, none⟩ = some (.int .i64 a1_1) := (blk_cell BK163.out 1).trans rfl
          have hfz52_0 := blk_frozen BK163.out 0
          have hfz52_1 := blk_frozen BK163.out 1
          try go_wp2_with (first | ((with_reducible refine gate_callee (f := 30) rfl ?_); refine goesL_ (some 48) rfl rfl Try.func30 (by kernel_rfl) rfl #[.agg #[.slice Ao7 l0_0.length co7, .int .i64 a0_1, .int .i64 a0_2], .agg #[.int .i64 0, .int .i64 0, .int .i64 t169, .int .i64 a3, .int .i64 a4, .int .i64 a1_0, .int .i64 a1_1, .bool false]] rfl (by (try simp only [List.map_toArray, List.map_cons, List.map_nil]); first | done | rfl | (simp only [List.length_drop, List.length_take]; rfl)) ?_; (with_reducible refine (bureauref17_give.calls kj5 (fun k_ => some k_ = (.slice Ao7 l0_0.length co7 : Value).ownBlock) (.slice Ao7 l0_0.length co7) l0_0 a0_1 a0_2 0 0 t169 a3 a4 a1_0 a1_1 false t177 t180 t181 t182 t183 t184 w0 _ ?side1 ?side2 A27.out).mono ?_); (case side1 => repeat (first | (with_reducible first | exact HB.out | apply below_alloc | apply pw_below_drewN | apply below_drew1 | refine below_set ?_ GE162.out | refine below_set ?_ GE163.out | refine below_set ?_ GE164.out | refine below_set ?_ GE165.out | refine below_set ?_ GE176.out) | exact HB.out)); (case side2 => exact Kd.R_tight rfl HO_163000.out); rintro e w53 ⟨v178, rfl, ho0, hb, hkp⟩; refine ⟨_, rfl, ?_⟩; have n0_ := Aside0.mk (blk_kept (by (with_reducible repeat (first | refine blk_drewN ?_ _ | refine blk_drew ?_ | refine blk_alloc ?_ _)); exact BK162.out) hkp (fun hs_ => (fun e_ => (Kd.R_ne HO_163000.out BK162.out (by decide)) e_) hs_)); have n1_ := Aside0.mk (blk_kept (by (with_reducible repeat (first | refine blk_drewN ?_ _ | refine blk_drew ?_ | refine blk_alloc ?_ _)); exact BK163.out) hkp (fun hs_ => (fun e_ => (Kd.R_ne HO_163000.out BK163.out (by decide)) e_) hs_)); have n2_ := Aside0.mk (blk_kept (by (with_reducible repeat (first | refine blk_drewN ?_ _ | refine blk_drew ?_ | refine blk_alloc ?_ _)); exact BK164.out) hkp (fun hs_ => (fun e_ => (Kd.R_ne HO_163000.out BK164.out (by decide)) e_) hs_)); have n3_ := Aside0.mk (blk_kept (by (with_reducible repeat (first | refine blk_drewN ?_ _ | refine blk_drew ?_ | refine blk_alloc ?_ _)); exact BK165.out) hkp (fun hs_ => (fun e_ => (Kd.R_ne HO_163000.out BK165.out (by decide)) e_) hs_)); have n4_ := Aside0.mk (blk_kept (by (with_reducible repeat (first | refine blk_drewN ?_ _ | refine blk_drew ?_ | refine blk_alloc ?_ _)); exact BK176.out) hkp (fun hs_ => (fun e_ => (Kd.R_away HO_163000.out (fun _ hk => hk.2)) e_) hs_)); have n5_ := Aside0.mk (Kd.R_mono (ok' := fun k_ => (P0_0_ k_ ∨ w.heap.size ≤ k_) ∧ k_ ≠ gb176) ho0 (fun k_ hk_ => ⟨Or.elim hk_ (fun hs_ => (HO_163000.out.1 k_ (hs_).symm).1) (fun hn_ => (.inr (Nat.le_trans (by first | exact HK.out.1 | exact (show Kept w _ (fun k_ => P0_0_ k_) from by repeat (first | (with_reducible first | exact HK.out | apply Kept.alloc | apply Kept.drewN | apply Kept.drew | refine Kept.setCell ?_ (.inr GW162.out) _ | refine Kept.setCell ?_ (.inr GW163.out) _ | refine Kept.setCell ?_ (.inr GW164.out) _ | refine Kept.setCell ?_ (.inr GW165.out) _ | refine Kept.setCell ?_ (.inr GW176.out) _) | exact HK.out)).1) hn_))), Or.elim hk_ (fun hs_ => fun e_ => (Kd.R_away HO_163000.out (fun _ hk => hk.2)) (by rw [← e_]; exact hs_)) (fun hn_ => (Kd.freshB (g := gb176) (o := .cells #[.int .i64 t167, .int .i64 t168, .int .i64 t169, .int .i64 t170, .int .i64 t171, .int .i64 t172, .int .i64 t173, .bool t174] 59 (0, 0)) (by (with_reducible repeat (first | refine blk_drewN ?_ _ | refine blk_drew ?_ | refine blk_alloc ?_ _)); exact BK176.out) k_ hn_))⟩)); have n6_ := Aside0.mk (Kept.then_ (S := (fun k_ => P0_0_ k_)) (by repeat (first | (with_reducible first | exact HK.out | apply Kept.alloc | apply Kept.drewN | apply Kept.drew | refine Kept.setCell ?_ (.inr GW162.out) _ | refine Kept.setCell ?_ (.inr GW163.out) _ | refine Kept.setCell ?_ (.inr GW164.out) _ | refine Kept.setCell ?_ (.inr GW165.out) _ | refine Kept.setCell ?_ (.inr GW176.out) _) | exact HK.out)) hkp (fun k_ hs_ => (fun e_ => (HO_163000.out.1 k_ e_.symm).1) hs_)); have n7_ := Aside0.mk (hb); clear BK162; clear BK163; clear BK164; clear BK165; clear BK176; clear HK; clear HB; clear HO_163000; have BK162 := n0_; have BK163 := n1_; have BK164 := n2_; have BK165 := n3_; have BK176 := n4_; have HO179 := n5_; have HK := n6_; have HB := n7_; clear n0_ n1_ n2_ n3_ n4_ n5_ n6_ n7_; (try clear hb); (try clear hkp); (try clear ho0); obtain ⟨Ao54, co54, eo54⟩ := Kd.R_slice HO179.out; subst eo54; have hnb55 := NB164_165.out; have hnc55 := NB165_164.out; have hcz56_0 : w53.cell? ⟨gb164, 0, none⟩ = some (.slice none 0 0) := (blk_cell BK164.out 0).trans rfl; have hcz56_1 : w53.cell? ⟨gb164, 1, none⟩ = some (.int .i64 0) := (blk_cell BK164.out 1).trans rfl; have hcz56_2 : w53.cell? ⟨gb164, 2, none⟩ = some (.int .i64 0) := (blk_cell BK164.out 2).trans rfl; have hfz56_0 := blk_frozen BK164.out 0; have hfz56_1 := blk_frozen BK164.out 1; have hfz56_2 := blk_frozen BK164.out 2; have hcz57_0 : w53.cell? ⟨gb165, 0, none⟩ = some (.int .i64 0) := (blk_cell BK165.out 0).trans rfl; have hcz57_1 : w53.cell? ⟨gb165, 1, none⟩ = some (.int .i64 0) := (blk_cell BK165.out 1).trans rfl; have hfz57_0 := blk_frozen BK165.out 0; have hfz57_1 := blk_frozen BK165.out 1))
          refine bodyPost_ret (results_list (rs := [.cell 10 49, .cell 11 28, .tmp 12]) rfl (by simp) (.cell gb164 49 #[.slice Ao54 t177.length co54, .int .i64 t180, .int .i64 t181] (0, 0) _ rfl (by (with_reducible repeat (first | refine blk_drewN ?_ _ | refine blk_drew ?_ | refine blk_alloc ?_ _)); refine blk_far ?_ NB164_165.out _; (with_reducible repeat (first | refine blk_drewN ?_ _ | refine blk_drew ?_ | refine blk_alloc ?_ _)); refine blk_far ?_ NB164_165.out _; (with_reducible repeat (first | refine blk_drewN ?_ _ | refine blk_drew ?_ | refine blk_alloc ?_ _)); refine blk_put (cs := #[.slice Ao54 t177.length co54, .int .i64 t180, .int .i64 0]) ?_ 2 _ rfl; (with_reducible repeat (first | refine blk_drewN ?_ _ | refine blk_drew ?_ | refine blk_alloc ?_ _)); refine blk_put (cs := #[.slice Ao54 t177.length co54, .int .i64 0, .int .i64 0]) ?_ 1 _ rfl; (with_reducible repeat (first | refine blk_drewN ?_ _ | refine blk_drew ?_ | refine blk_alloc ?_ _)); refine blk_put (cs := #[.slice none 0 0, .int .i64 0, .int .i64 0]) ?_ 0 _ rfl; (with_reducible repeat (first | refine blk_drewN ?_ _ | refine blk_drew ?_ | refine blk_alloc ?_ _)); exact BK164.out) Try.underlying49 rfl (by kernel_rfl) (.cell gb165 28 #[.int .i64 t182, .int .i64 t183] (0, 0) _ rfl (by (with_reducible repeat (first | refine blk_drewN ?_ _ | refine blk_drew ?_ | refine blk_alloc ?_ _)); refine blk_put (cs := #[.int .i64 t182, .int .i64 0]) ?_ 1 _ rfl; (with_reducible repeat (first | refine blk_drewN ?_ _ | refine blk_drew ?_ | refine blk_alloc ?_ _)); refine blk_put (cs := #[.int .i64 0, .int .i64 0]) ?_ 0 _ rfl; (with_reducible repeat (first | refine blk_drewN ?_ _ | refine blk_drew ?_ | refine blk_alloc ?_ _)); refine blk_far ?_ NB165_164.out _; (with_reducible repeat (first | refine blk_drewN ?_ _ | refine blk_drew ?_ | refine blk_alloc ?_ _)); refine blk_far ?_ NB165_164.out _; (with_reducible repeat (first | refine blk_drewN ?_ _ | refine blk_drew ?_ | refine blk_alloc ?_ _)); refine blk_far ?_ NB165_164.out _; (with_reducible repeat (first | refine blk_drewN ?_ _ | refine blk_drew ?_ | refine blk_alloc ?_ _)); exact BK165.out) Try.underlying28 rfl (by kernel_rfl) (.tmp .nil)))) rfl ?_
          exact ⟨_, by first | rfl | (simp [errW_none, errW_some] <;> rfl) | (simp [*, errW_none, errW_some] <;> rfl), by (with_reducible repeat (first | apply Kd.R_alloc | apply Kd.R_drewN | apply Kd.R_drew)); exact Kd.R_mono (Kd.R_far (p := ⟨gb165, 1, none⟩) (Kd.R_far (p := ⟨gb165, 0, none⟩) (Kd.R_far (p := ⟨gb164, 2, none⟩) (Kd.R_far (p := ⟨gb164, 1, none⟩) (Kd.R_far (p := ⟨gb164, 0, none⟩) (Kd.R_types (Kd.R_types HO179.out BK164.out (by decide)) BK165.out (by decide)) (fun _ hk => hk.1.2) (.slice Ao54 t177.length co54)) (fun _ hk => hk.1.2) (.int .i64 t180)) (fun _ hk => hk.1.2) (.int .i64 t181)) (fun _ hk => hk.2) (.int .i64 t182)) (fun _ hk => hk.2) (.int .i64 t183)) (fun _ hk => hk.1.1.1), by repeat (first | (with_reducible first | exact HB.out | apply below_alloc | apply pw_below_drewN | apply below_drew1 | refine below_set ?_ GE162.out | refine below_set ?_ GE163.out | refine below_set ?_ GE164.out | refine below_set ?_ GE165.out | refine below_set ?_ GE176.out) | exact HB.out), by repeat (first | (with_reducible first | exact HK.out | apply Kept.alloc | apply Kept.drewN | apply Kept.drew | refine Kept.setCell ?_ (.inr GW162.out) _ | refine Kept.setCell ?_ (.inr GW163.out) _ | refine Kept.setCell ?_ (.inr GW164.out) _ | refine Kept.setCell ?_ (.inr GW165.out) _ | refine Kept.setCell ?_ (.inr GW176.out) _) | exact HK.out)⟩
        · rw [if_neg c26] at H
          have c26b0 : (t175 == 0) = false := beq_eq_false_iff_ne.mpr c26
          have c26b1 : (t175 != 0) = true := bne_iff_ne.mpr c26
          simp only [Option.some.injEq, Prod.mk.injEq] at H
          obtain ⟨rfl, rfl, rfl, rfl, rfl, rfl⟩ := H
          try go_wp2
          have n0_ := Aside0.mk (Kd.R_drew HO_163000.out)
          have n1_ := Aside0.mk (blk_drew BK162.out)
          have n2_ := Aside0.mk (blk_drew BK163.out)
          have n3_ := Aside0.mk (blk_drew BK164.out)
          have n4_ := Aside0.mk (blk_drew BK165.out)
          have n5_ := Aside0.mk (Kept.drew HK.out)
          have n6_ := Aside0.mk (below_drew1 HB.out)
          clear HO_163000
          clear BK162
          clear BK163
          clear BK164
          clear BK165
          clear HK
          clear HB
          have HO_163000 := n0_
          have BK162 := n1_
          have BK163 := n2_
          have BK164 := n3_
          have BK165 := n4_
          have HK := n5_
          have HB := n6_
          clear n0_ n1_ n2_ n3_ n4_ n5_ n6_
          refine start_ (n := 12) (S := fun w' => w'.cell? ⟨gb162, 0, none⟩ = some (.slice Ao7 l0_0.length co7) ∧ w'.cell? ⟨gb162, 1, none⟩ = some (.int .i64 a0_1) ∧ w'.cell? ⟨gb162, 2, none⟩ = some (.int .i64 a0_2) ∧ w'.cell? ⟨gb163, 0, none⟩ = some (.int .i64 a1_0) ∧ w'.cell? ⟨gb163, 1, none⟩ = some (.int .i64 a1_1)) (ds := []) #[false, false, false, false, false, false, false, false, false, false, false, false] (by kernel_rfl) rfl rfl ⟨(blk_cell BK162.out 0).trans rfl, (blk_cell BK162.out 1).trans rfl, (blk_cell BK162.out 2).trans rfl, (blk_cell BK163.out 0).trans rfl, (blk_cell BK163.out 1).trans rfl⟩ (fun hHeld => ?_); refine with_tabW bureauref17_Derive.tab3 bureauref17_Derive.bits3 (fun HT_ HW_ => ?_)
          generalize wc.drew = w58 at HO_163000 BK162 BK163 BK164 BK165 HK HB hHeld ⊢
          refine pure_ (i := 2) (N := some 30) (v := ?_) (a' := ?_) #[false, false, true, false, false, false, false, false, false, false, false, false] rfl rfl (any_of HT_.out (by kernel_rfl)) (fun _ _ _ h => h) (Or.inl ⟨by rfl, ?_⟩) ?_ ?_
          rotate_left
          · intro w'
            go_simp
            with_reducible rfl
          rotate_left
          · simp only [Act.put, List.setIfInBounds_toArray, List.set_cons_zero, List.set_cons_succ, i64_w, i32_w]
            rfl
          refine pure_ (i := 3) (N := some 31) (v := ?_) (a' := ?_) #[false, false, true, true, false, false, false, false, false, false, false, false] rfl rfl (any_of HT_.out (by kernel_rfl)) (fun _ _ _ h => h) (Or.inl ⟨by rfl, ?_⟩) ?_ ?_
          rotate_left
          · intro w'
            go_simp
            with_reducible rfl
          rotate_left
          · simp only [Act.put, List.setIfInBounds_toArray, List.set_cons_zero, List.set_cons_succ, i64_w, i32_w]
            rfl
          refine take_ (i := 0) (N := some 28) (v := ?_) (a' := ?_) #[true, false, true, true, false, false, false, false, false, false, false, false] rfl rfl (take_ofW HT_.out HW_.out (by kernel_rfl)) (fun _ _ _ h => h) (Or.inl ⟨by rfl, ?_⟩) hHeld ?_ ?_
          rotate_left
          · rintro w' ⟨s0, s1, s2, s3, s4⟩
            go_simp
            with_reducible rfl
          rotate_left
          · simp only [Act.put, List.setIfInBounds_toArray, List.set_cons_zero, List.set_cons_succ, i64_w, i32_w]
            rfl
          refine take_ (i := 1) (N := some 29) (v := ?_) (a' := ?_) #[true, true, true, true, false, false, false, false, false, false, false, false] rfl rfl (take_ofW HT_.out HW_.out (by kernel_rfl)) (fun _ _ _ h => h) (Or.inl ⟨by rfl, ?_⟩) hHeld ?_ ?_
          rotate_left
          · rintro w' ⟨s0, s1, s2, s3, s4⟩
            go_simp
            with_reducible rfl
          rotate_left
          · simp only [Act.put, List.setIfInBounds_toArray, List.set_cons_zero, List.set_cons_succ, i64_w, i32_w]
            rfl
          refine join_ (σ := Nat) 2 #[true, true, true, true, true, true, true, true, true, true, false, false] (fun s_ => [(32, .int .i64 t166), (33, .tuple #[.agg #[.int .i64 t167, .int .i64 t168, .int .i64 t169, .int .i64 t170, .int .i64 t171, .int .i64 t172, .int .i64 t173, .bool t174], .int .i64 t175]), (13, .pointer (some ⟨s_, 0, none⟩)), (27, .tuple #[.agg #[.int .i64 t167, .int .i64 t168, .int .i64 t169, .int .i64 t170, .int .i64 t171, .int .i64 t172, .int .i64 t173, .bool t174], .int .i64 t175]), (34, .agg #[.int .i64 t167, .int .i64 t168, .int .i64 t169, .int .i64 t170, .int .i64 t171, .int .i64 t172, .int .i64 t173, .bool t174]), (35, .int .i64 t175)]) (fun s_ w' => (w'.cell? ⟨gb162, 0, none⟩ = some (.slice Ao7 l0_0.length co7) ∧ w'.cell? ⟨gb162, 1, none⟩ = some (.int .i64 a0_1) ∧ w'.cell? ⟨gb162, 2, none⟩ = some (.int .i64 a0_2) ∧ w'.cell? ⟨gb163, 0, none⟩ = some (.int .i64 a1_0) ∧ w'.cell? ⟨gb163, 1, none⟩ = some (.int .i64 a1_1)) ∧ (Kd.R k59 59 w' w0.heap.size (fun k_ => (P0_0_ k_ ∨ w.heap.size ≤ k_) ∧ k_ ≠ s_) (.slice Ao7 l0_0.length co7) l0_0) ∧ (w'.heap[gb162]? = some (.cells #[.slice Ao7 l0_0.length co7, .int .i64 a0_1, .int .i64 a0_2] 49 (0, 0))) ∧ (w'.heap[gb163]? = some (.cells #[.int .i64 a1_0, .int .i64 a1_1] 28 (0, 0))) ∧ (w'.heap[gb164]? = some (.cells #[.slice none 0 0, .int .i64 0, .int .i64 0] 49 (0, 0))) ∧ (w'.heap[gb165]? = some (.cells #[.int .i64 0, .int .i64 0] 28 (0, 0))) ∧ (w'.heap[s_]? = some (.cells #[.int .i64 0, .int .i64 0, .int .i64 0, .int .i64 0, .int .i64 0, .int .i64 0, .int .i64 0, .bool false] 59 (0, 0))) ∧ (w.heap.size ≤ s_) ∧ (w0.heap.size ≤ s_) ∧ (gb162 ≠ s_) ∧ (s_ ≠ gb162) ∧ (gb163 ≠ s_) ∧ (s_ ≠ gb163) ∧ (gb164 ≠ s_) ∧ (s_ ≠ gb164) ∧ (gb165 ≠ s_) ∧ (s_ ≠ gb165) ∧ (Kept w w' (fun k_ => P0_0_ k_)) ∧ (Below w0.heap.size w0 w')) ?_ ?_
          rotate_left
          · intro hCont
            refine two_ (i := 4) (j := 9) (Ni := some 32) (Nj := some 13) #[true, true, true, true, true, false, false, false, false, false, false, false] #[true, true, true, true, false, false, false, false, false, true, false, false] rfl rfl rfl rfl (two_of HT_.out (by kernel_rfl)) (by decide) (by decide) (fun K hK => ?_) (fun K hK => ?_)
            · skip
              refine goes_ Try.func31 (by kernel_rfl) rfl #[.int .i64 a3, .int .i64 8] (by rfl) rfl rfl (by (try simp only [List.map_toArray, List.map_cons, List.map_nil]); first | done | rfl | (simp only [List.length_drop, List.length_take]; rfl)) ?_
              with_reducible refine (bureauref17_both.calls kj5 a3 8 t166 _ A24.out).mono ?_
              rintro e w' ⟨rfl, ⟨nd, rfl⟩⟩
              refine ⟨_, rfl, ?_⟩
              refine hK.out _ _ ⟨(blk_cell BK162.out 0).trans rfl, (blk_cell BK162.out 1).trans rfl, (blk_cell BK162.out 2).trans rfl, (blk_cell BK163.out 0).trans rfl, (blk_cell BK163.out 1).trans rfl⟩ (fun hHeld => ?_)
              clear hK K
              refine norm_ (a' := ?_) ?_ ?_
              rotate_left
              · show Act.put _ (some 32) _ = _
                simp only [Act.put, List.setIfInBounds_toArray, List.set_cons_zero, List.set_cons_succ, i64_w, i32_w]
                rfl
              refine two_ (i := 5) (j := 9) (Ni := some 33) (Nj := some 13) #[true, true, true, true, true, true, false, false, false, false, false, false] #[true, true, true, true, true, false, false, false, false, true, false, false] rfl rfl rfl rfl (two_of HT_.out (by kernel_rfl)) (by decide) (by decide) (fun K hK => ?_) (fun K hK => ?_)
              · skip
                refine goes_ Try.func20 (by kernel_rfl) rfl #[.agg #[.slice Ao7 l0_0.length co7, .int .i64 a0_1, .int .i64 a0_2], .agg #[.int .i64 a1_0, .int .i64 a1_1], .int .i64 a2, .int .i64 t166] (by rfl) rfl rfl (by (try simp only [List.map_toArray, List.map_cons, List.map_nil]); first | done | rfl | (simp only [List.length_drop, List.length_take]; rfl)) ?_
                with_reducible refine (bureauref17_Look.calls kj5 _ _ l0_0 a0_1 a0_2 a1_0 a1_1 a2 t166 t167 t168 t169 t170 t171 t172 t173 t174 t175 _ ?side1 ?side2 A25.out).mono ?_
                (case side1 => repeat (first | exact (Kd.R_reads' HO_163000.out).2.2 | (with_reducible refine Kd.C_alloc ?_ _) | (with_reducible refine Kd.C_drewN ?_ _) | (with_reducible refine Kd.C_drew ?_)))
                (case side2 => exact (Kd.R_reads' HO_163000.out).2.1)
                rintro e w59 ⟨rfl, hb⟩
                refine ⟨_, rfl, ?_⟩
                have n0_ := Aside0.mk (Kd.R_below (by (with_reducible repeat (first | apply Kd.R_alloc | apply Kd.R_drewN | apply Kd.R_drew)); exact HO_163000.out) hb)
                have n1_ := Aside0.mk (blk_below (g := gb162) (o := .cells #[.slice Ao7 l0_0.length co7, .int .i64 a0_1, .int .i64 a0_2] 49 (0, 0)) (by (with_reducible repeat (first | refine blk_drewN ?_ _ | refine blk_drew ?_ | refine blk_alloc ?_ _)); exact BK162.out) hb)
                have n2_ := Aside0.mk (blk_below (g := gb163) (o := .cells #[.int .i64 a1_0, .int .i64 a1_1] 28 (0, 0)) (by (with_reducible repeat (first | refine blk_drewN ?_ _ | refine blk_drew ?_ | refine blk_alloc ?_ _)); exact BK163.out) hb)
                have n3_ := Aside0.mk (blk_below (g := gb164) (o := .cells #[.slice none 0 0, .int .i64 0, .int .i64 0] 49 (0, 0)) (by (with_reducible repeat (first | refine blk_drewN ?_ _ | refine blk_drew ?_ | refine blk_alloc ?_ _)); exact BK164.out) hb)
                have n4_ := Aside0.mk (blk_below (g := gb165) (o := .cells #[.int .i64 0, .int .i64 0] 28 (0, 0)) (by (with_reducible repeat (first | refine blk_drewN ?_ _ | refine blk_drew ?_ | refine blk_alloc ?_ _)); exact BK165.out) hb)
                have n5_ := Aside0.mk (Kept.below (S := (fun k_ => P0_0_ k_)) (by repeat (first | (with_reducible first | exact HK.out | apply Kept.alloc | apply Kept.drewN | apply Kept.drew | refine Kept.setCell ?_ (.inr GW162.out) _ | refine Kept.setCell ?_ (.inr GW163.out) _ | refine Kept.setCell ?_ (.inr GW164.out) _ | refine Kept.setCell ?_ (.inr GW165.out) _) | exact HK.out)) hb)
                have n6_ := Aside0.mk (below_step (by repeat (first | (with_reducible first | exact HB.out | apply below_alloc | apply pw_below_drewN | apply below_drew1 | refine below_set ?_ GE162.out | refine below_set ?_ GE163.out | refine below_set ?_ GE164.out | refine below_set ?_ GE165.out) | exact HB.out)) hb)
                clear HO_163000
                clear BK162
                clear BK163
                clear BK164
                clear BK165
                clear HK
                clear HB
                have HO_163000 := n0_
                have BK162 := n1_
                have BK163 := n2_
                have BK164 := n3_
                have BK165 := n4_
                have HK := n5_
                have HB := n6_
                clear n0_ n1_ n2_ n3_ n4_ n5_ n6_
                (try clear hb)
                (try clear hb2)
                (try clear hk)
                (try clear hi)
                refine hK.out _ _ ⟨(blk_cell BK162.out 0).trans rfl, (blk_cell BK162.out 1).trans rfl, (blk_cell BK162.out 2).trans rfl, (blk_cell BK163.out 0).trans rfl, (blk_cell BK163.out 1).trans rfl⟩ (fun hHeld => ?_)
                clear hK K
                refine norm_ (a' := ?_) ?_ ?_
                rotate_left
                · show Act.put _ (some 33) _ = _
                  simp only [Act.put, List.setIfInBounds_toArray, List.set_cons_zero, List.set_cons_succ, i64_w, i32_w]
                  rfl
                refine pure_ (i := 6) (N := some 27) (v := ?_) (a' := ?_) #[true, true, true, true, true, true, true, false, false, false, false, false] rfl rfl (any_of HT_.out (by kernel_rfl)) (fun _ _ _ h => h) (Or.inl ⟨by rfl, ?_⟩) ?_ ?_
                rotate_left
                · intro w'
                  go_simp
                  with_reducible rfl
                rotate_left
                · simp only [Act.put, List.setIfInBounds_toArray, List.set_cons_zero, List.set_cons_succ, i64_w, i32_w]
                  rfl
                refine pure_ (i := 7) (N := some 34) (v := ?_) (a' := ?_) #[true, true, true, true, true, true, true, true, false, false, false, false] rfl rfl (any_of HT_.out (by kernel_rfl)) (fun _ _ _ h => h) (Or.inl ⟨by rfl, ?_⟩) ?_ ?_
                rotate_left
                · intro w'
                  go_simp
                  with_reducible rfl
                rotate_left
                · simp only [Act.put, List.setIfInBounds_toArray, List.set_cons_zero, List.set_cons_succ, i64_w, i32_w]
                  rfl
                refine pure_ (i := 8) (N := some 35) (v := ?_) (a' := ?_) #[true, true, true, true, true, true, true, true, true, false, false, false] rfl rfl (any_of HT_.out (by kernel_rfl)) (fun _ _ _ h => h) (Or.inl ⟨by rfl, ?_⟩) ?_ ?_
                rotate_left
                · intro w'
                  go_simp
                  with_reducible rfl
                rotate_left
                · simp only [Act.put, List.setIfInBounds_toArray, List.set_cons_zero, List.set_cons_succ, i64_w, i32_w]
                  rfl
                refine one_ (i := 9) (N := some 13) #[true, true, true, true, true, true, true, true, true, true, false, false] rfl rfl (one_of HT_.out (by kernel_rfl)) (by decide) (fun K hK => ?_)
                refine box_step ?hg (N := 13) ?hd (cs := #[.int .i64 0, .int .i64 0, .int .i64 0, .int .i64 0, .int .i64 0, .int .i64 0, .int .i64 0, .bool false]) (t := 59) ?hr ?_; (case hd => rfl); (case hg => rfl); (case hr => first | (go_simp; done) | (go_simp; rfl))
                intro gb176 hg w60 hbox hb
                have n0_ := Aside0.mk (Kd.R_below (Kd.R_elderB (by (with_reducible repeat (first | apply Kd.R_alloc | apply Kd.R_drewN | apply Kd.R_drew)); exact HO_163000.out) gb176 (Nat.le_of_eq hg.symm)) hb)
                have n1_ := Aside0.mk (blk_below (g := gb162) (o := .cells #[.slice Ao7 l0_0.length co7, .int .i64 a0_1, .int .i64 a0_2] 49 (0, 0)) (by (with_reducible repeat (first | refine blk_drewN ?_ _ | refine blk_drew ?_ | refine blk_alloc ?_ _)); exact BK162.out) hb)
                have n2_ := Aside0.mk (blk_below (g := gb163) (o := .cells #[.int .i64 a1_0, .int .i64 a1_1] 28 (0, 0)) (by (with_reducible repeat (first | refine blk_drewN ?_ _ | refine blk_drew ?_ | refine blk_alloc ?_ _)); exact BK163.out) hb)
                have n3_ := Aside0.mk (blk_below (g := gb164) (o := .cells #[.slice none 0 0, .int .i64 0, .int .i64 0] 49 (0, 0)) (by (with_reducible repeat (first | refine blk_drewN ?_ _ | refine blk_drew ?_ | refine blk_alloc ?_ _)); exact BK164.out) hb)
                have n4_ := Aside0.mk (blk_below (g := gb165) (o := .cells #[.int .i64 0, .int .i64 0] 28 (0, 0)) (by (with_reducible repeat (first | refine blk_drewN ?_ _ | refine blk_drew ?_ | refine blk_alloc ?_ _)); exact BK165.out) hb)
                have n5_ := Aside0.mk (Kept.below (S := (fun k_ => P0_0_ k_)) (by repeat (first | (with_reducible first | exact HK.out | apply Kept.alloc | apply Kept.drewN | apply Kept.drew | refine Kept.setCell ?_ (.inr GW162.out) _ | refine Kept.setCell ?_ (.inr GW163.out) _ | refine Kept.setCell ?_ (.inr GW164.out) _ | refine Kept.setCell ?_ (.inr GW165.out) _) | exact HK.out)) hb)
                have n6_ := Aside0.mk (below_step (by repeat (first | (with_reducible first | exact HB.out | apply below_alloc | apply pw_below_drewN | apply below_drew1 | refine below_set ?_ GE162.out | refine below_set ?_ GE163.out | refine below_set ?_ GE164.out | refine below_set ?_ GE165.out) | exact HB.out)) hb)
                have n7_ := Aside0.mk (hbox)
                have n8_ := Aside0.mk ((by rw [hg]; exact (by first | exact HK.out.1 | exact (show Kept w _ (fun k_ => P0_0_ k_) from by repeat (first | (with_reducible first | exact HK.out | apply Kept.alloc | apply Kept.drewN | apply Kept.drew | refine Kept.setCell ?_ (.inr GW162.out) _ | refine Kept.setCell ?_ (.inr GW163.out) _ | refine Kept.setCell ?_ (.inr GW164.out) _ | refine Kept.setCell ?_ (.inr GW165.out) _) | exact HK.out)).1) : w.heap.size ≤ gb176))
                have n9_ := Aside0.mk ((by rw [hg]; exact (below_size (by repeat (first | (with_reducible first | exact HB.out | apply below_alloc | apply pw_below_drewN | apply below_drew1 | refine below_set ?_ GE162.out | refine below_set ?_ GE163.out | refine below_set ?_ GE164.out | refine below_set ?_ GE165.out) | exact HB.out))) : w0.heap.size ≤ gb176))
                have n10_ := Aside0.mk ((by rw [hg]; exact Nat.ne_of_lt (blk_lt (g := gb162) (o := .cells #[.slice Ao7 l0_0.length co7, .int .i64 a0_1, .int .i64 a0_2] 49 (0, 0)) (by (with_reducible repeat (first | refine blk_drewN ?_ _ | refine blk_drew ?_ | refine blk_alloc ?_ _)); exact BK162.out)) : gb162 ≠ gb176))
                have n11_ := Aside0.mk ((by rw [hg]; exact Nat.ne_of_gt (blk_lt (g := gb162) (o := .cells #[.slice Ao7 l0_0.length co7, .int .i64 a0_1, .int .i64 a0_2] 49 (0, 0)) (by (with_reducible repeat (first | refine blk_drewN ?_ _ | refine blk_drew ?_ | refine blk_alloc ?_ _)); exact BK162.out)) : gb176 ≠ gb162))
                have n12_ := Aside0.mk ((by rw [hg]; exact Nat.ne_of_lt (blk_lt (g := gb163) (o := .cells #[.int .i64 a1_0, .int .i64 a1_1] 28 (0, 0)) (by (with_reducible repeat (first | refine blk_drewN ?_ _ | refine blk_drew ?_ | refine blk_alloc ?_ _)); exact BK163.out)) : gb163 ≠ gb176))
                have n13_ := Aside0.mk ((by rw [hg]; exact Nat.ne_of_gt (blk_lt (g := gb163) (o := .cells #[.int .i64 a1_0, .int .i64 a1_1] 28 (0, 0)) (by (with_reducible repeat (first | refine blk_drewN ?_ _ | refine blk_drew ?_ | refine blk_alloc ?_ _)); exact BK163.out)) : gb176 ≠ gb163))
                have n14_ := Aside0.mk ((by rw [hg]; exact Nat.ne_of_lt (blk_lt (g := gb164) (o := .cells #[.slice none 0 0, .int .i64 0, .int .i64 0] 49 (0, 0)) (by (with_reducible repeat (first | refine blk_drewN ?_ _ | refine blk_drew ?_ | refine blk_alloc ?_ _)); exact BK164.out)) : gb164 ≠ gb176))
                have n15_ := Aside0.mk ((by rw [hg]; exact Nat.ne_of_gt (blk_lt (g := gb164) (o := .cells #[.slice none 0 0, .int .i64 0, .int .i64 0] 49 (0, 0)) (by (with_reducible repeat (first | refine blk_drewN ?_ _ | refine blk_drew ?_ | refine blk_alloc ?_ _)); exact BK164.out)) : gb176 ≠ gb164))
                have n16_ := Aside0.mk ((by rw [hg]; exact Nat.ne_of_lt (blk_lt (g := gb165) (o := .cells #[.int .i64 0, .int .i64 0] 28 (0, 0)) (by (with_reducible repeat (first | refine blk_drewN ?_ _ | refine blk_drew ?_ | refine blk_alloc ?_ _)); exact BK165.out)) : gb165 ≠ gb176))
                have n17_ := Aside0.mk ((by rw [hg]; exact Nat.ne_of_gt (blk_lt (g := gb165) (o := .cells #[.int .i64 0, .int .i64 0] 28 (0, 0)) (by (with_reducible repeat (first | refine blk_drewN ?_ _ | refine blk_drew ?_ | refine blk_alloc ?_ _)); exact BK165.out)) : gb176 ≠ gb165))
                clear HO_163000
                clear BK162
                clear BK163
                clear BK164
                clear BK165
                clear HK
                clear HB
                have HO_163000 := n0_
                have BK162 := n1_
                have BK163 := n2_
                have BK164 := n3_
                have BK165 := n4_
                have HK := n5_
                have HB := n6_
                have BK176 := n7_
                have GW176 := n8_
                have GE176 := n9_
                have NB162_176 := n10_
                have NB176_162 := n11_
                have NB163_176 := n12_
                have NB176_163 := n13_
                have NB164_176 := n14_
                have NB176_164 := n15_
                have NB165_176 := n16_
                have NB176_165 := n17_
                clear n0_ n1_ n2_ n3_ n4_ n5_ n6_ n7_ n8_ n9_ n10_ n11_ n12_ n13_ n14_ n15_ n16_ n17_
                clear hb hbox hg
                refine hK.out _ _ ⟨(blk_cell BK162.out 0).trans rfl, (blk_cell BK162.out 1).trans rfl, (blk_cell BK162.out 2).trans rfl, (blk_cell BK163.out 0).trans rfl, (blk_cell BK163.out 1).trans rfl⟩ (fun hHeld => ?_)
                clear hK K
                refine norm_ (a' := ?_) ?_ ?_
                rotate_left
                · show Act.put _ (some 13) _ = _
                  simp only [Act.put, List.setIfInBounds_toArray, List.set_cons_zero, List.set_cons_succ, i64_w, i32_w]
                  rfl
                exact norm_ (by simp only [putAll, Act.put, List.setIfInBounds_toArray, List.set_cons_zero, List.set_cons_succ]) (hCont (gb176) _ ⟨hHeld, (by (with_reducible repeat (first | apply Kd.R_alloc | apply Kd.R_drewN | apply Kd.R_drew)); exact HO_163000.out), (by (with_reducible repeat (first | refine blk_drewN ?_ _ | refine blk_drew ?_ | refine blk_alloc ?_ _)); exact BK162.out), (by (with_reducible repeat (first | refine blk_drewN ?_ _ | refine blk_drew ?_ | refine blk_alloc ?_ _)); exact BK163.out), (by (with_reducible repeat (first | refine blk_drewN ?_ _ | refine blk_drew ?_ | refine blk_alloc ?_ _)); exact BK164.out), (by (with_reducible repeat (first | refine blk_drewN ?_ _ | refine blk_drew ?_ | refine blk_alloc ?_ _)); exact BK165.out), (by (with_reducible repeat (first | refine blk_drewN ?_ _ | refine blk_drew ?_ | refine blk_alloc ?_ _)); exact BK176.out), GW176.out, GE176.out, NB162_176.out, NB176_162.out, NB163_176.out, NB176_163.out, NB164_176.out, NB176_164.out, NB165_176.out, NB176_165.out, (by repeat (first | (with_reducible first | exact HK.out | apply Kept.alloc | apply Kept.drewN | apply Kept.drew | refine Kept.setCell ?_ (.inr GW162.out) _ | refine Kept.setCell ?_ (.inr GW163.out) _ | refine Kept.setCell ?_ (.inr GW164.out) _ | refine Kept.setCell ?_ (.inr GW165.out) _ | refine Kept.setCell ?_ (.inr GW176.out) _) | exact HK.out)), (by repeat (first | (with_reducible first | exact HB.out | apply below_alloc | apply pw_below_drewN | apply below_drew1 | refine below_set ?_ GE162.out | refine below_set ?_ GE163.out | refine below_set ?_ GE164.out | refine below_set ?_ GE165.out | refine below_set ?_ GE176.out) | exact HB.out))⟩)
              · skip
                refine box_step ?hg (N := 13) ?hd (cs := #[.int .i64 0, .int .i64 0, .int .i64 0, .int .i64 0, .int .i64 0, .int .i64 0, .int .i64 0, .bool false]) (t := 59) ?hr ?_; (case hd => rfl); (case hg => rfl); (case hr => first | (go_simp; done) | (go_simp; rfl))
                intro gb176 hg w59 hbox hb
                have n0_ := Aside0.mk (Kd.R_below (Kd.R_elderB (by (with_reducible repeat (first | apply Kd.R_alloc | apply Kd.R_drewN | apply Kd.R_drew)); exact HO_163000.out) gb176 (Nat.le_of_eq hg.symm)) hb)
                have n1_ := Aside0.mk (blk_below (g := gb162) (o := .cells #[.slice Ao7 l0_0.length co7, .int .i64 a0_1, .int .i64 a0_2] 49 (0, 0)) (by (with_reducible repeat (first | refine blk_drewN ?_ _ | refine blk_drew ?_ | refine blk_alloc ?_ _)); exact BK162.out) hb)
                have n2_ := Aside0.mk (blk_below (g := gb163) (o := .cells #[.int .i64 a1_0, .int .i64 a1_1] 28 (0, 0)) (by (with_reducible repeat (first | refine blk_drewN ?_ _ | refine blk_drew ?_ | refine blk_alloc ?_ _)); exact BK163.out) hb)
                have n3_ := Aside0.mk (blk_below (g := gb164) (o := .cells #[.slice none 0 0, .int .i64 0, .int .i64 0] 49 (0, 0)) (by (with_reducible repeat (first | refine blk_drewN ?_ _ | refine blk_drew ?_ | refine blk_alloc ?_ _)); exact BK164.out) hb)
                have n4_ := Aside0.mk (blk_below (g := gb165) (o := .cells #[.int .i64 0, .int .i64 0] 28 (0, 0)) (by (with_reducible repeat (first | refine blk_drewN ?_ _ | refine blk_drew ?_ | refine blk_alloc ?_ _)); exact BK165.out) hb)
                have n5_ := Aside0.mk (Kept.below (S := (fun k_ => P0_0_ k_)) (by repeat (first | (with_reducible first | exact HK.out | apply Kept.alloc | apply Kept.drewN | apply Kept.drew | refine Kept.setCell ?_ (.inr GW162.out) _ | refine Kept.setCell ?_ (.inr GW163.out) _ | refine Kept.setCell ?_ (.inr GW164.out) _ | refine Kept.setCell ?_ (.inr GW165.out) _) | exact HK.out)) hb)
                have n6_ := Aside0.mk (below_step (by repeat (first | (with_reducible first | exact HB.out | apply below_alloc | apply pw_below_drewN | apply below_drew1 | refine below_set ?_ GE162.out | refine below_set ?_ GE163.out | refine below_set ?_ GE164.out | refine below_set ?_ GE165.out) | exact HB.out)) hb)
                have n7_ := Aside0.mk (hbox)
                have n8_ := Aside0.mk ((by rw [hg]; exact (by first | exact HK.out.1 | exact (show Kept w _ (fun k_ => P0_0_ k_) from by repeat (first | (with_reducible first | exact HK.out | apply Kept.alloc | apply Kept.drewN | apply Kept.drew | refine Kept.setCell ?_ (.inr GW162.out) _ | refine Kept.setCell ?_ (.inr GW163.out) _ | refine Kept.setCell ?_ (.inr GW164.out) _ | refine Kept.setCell ?_ (.inr GW165.out) _) | exact HK.out)).1) : w.heap.size ≤ gb176))
                have n9_ := Aside0.mk ((by rw [hg]; exact (below_size (by repeat (first | (with_reducible first | exact HB.out | apply below_alloc | apply pw_below_drewN | apply below_drew1 | refine below_set ?_ GE162.out | refine below_set ?_ GE163.out | refine below_set ?_ GE164.out | refine below_set ?_ GE165.out) | exact HB.out))) : w0.heap.size ≤ gb176))
                have n10_ := Aside0.mk ((by rw [hg]; exact Nat.ne_of_lt (blk_lt (g := gb162) (o := .cells #[.slice Ao7 l0_0.length co7, .int .i64 a0_1, .int .i64 a0_2] 49 (0, 0)) (by (with_reducible repeat (first | refine blk_drewN ?_ _ | refine blk_drew ?_ | refine blk_alloc ?_ _)); exact BK162.out)) : gb162 ≠ gb176))
                have n11_ := Aside0.mk ((by rw [hg]; exact Nat.ne_of_gt (blk_lt (g := gb162) (o := .cells #[.slice Ao7 l0_0.length co7, .int .i64 a0_1, .int .i64 a0_2] 49 (0, 0)) (by (with_reducible repeat (first | refine blk_drewN ?_ _ | refine blk_drew ?_ | refine blk_alloc ?_ _)); exact BK162.out)) : gb176 ≠ gb162))
                have n12_ := Aside0.mk ((by rw [hg]; exact Nat.ne_of_lt (blk_lt (g := gb163) (o := .cells #[.int .i64 a1_0, .int .i64 a1_1] 28 (0, 0)) (by (with_reducible repeat (first | refine blk_drewN ?_ _ | refine blk_drew ?_ | refine blk_alloc ?_ _)); exact BK163.out)) : gb163 ≠ gb176))
                have n13_ := Aside0.mk ((by rw [hg]; exact Nat.ne_of_gt (blk_lt (g := gb163) (o := .cells #[.int .i64 a1_0, .int .i64 a1_1] 28 (0, 0)) (by (with_reducible repeat (first | refine blk_drewN ?_ _ | refine blk_drew ?_ | refine blk_alloc ?_ _)); exact BK163.out)) : gb176 ≠ gb163))
                have n14_ := Aside0.mk ((by rw [hg]; exact Nat.ne_of_lt (blk_lt (g := gb164) (o := .cells #[.slice none 0 0, .int .i64 0, .int .i64 0] 49 (0, 0)) (by (with_reducible repeat (first | refine blk_drewN ?_ _ | refine blk_drew ?_ | refine blk_alloc ?_ _)); exact BK164.out)) : gb164 ≠ gb176))
                have n15_ := Aside0.mk ((by rw [hg]; exact Nat.ne_of_gt (blk_lt (g := gb164) (o := .cells #[.slice none 0 0, .int .i64 0, .int .i64 0] 49 (0, 0)) (by (with_reducible repeat (first | refine blk_drewN ?_ _ | refine blk_drew ?_ | refine blk_alloc ?_ _)); exact BK164.out)) : gb176 ≠ gb164))
                have n16_ := Aside0.mk ((by rw [hg]; exact Nat.ne_of_lt (blk_lt (g := gb165) (o := .cells #[.int .i64 0, .int .i64 0] 28 (0, 0)) (by (with_reducible repeat (first | refine blk_drewN ?_ _ | refine blk_drew ?_ | refine blk_alloc ?_ _)); exact BK165.out)) : gb165 ≠ gb176))
                have n17_ := Aside0.mk ((by rw [hg]; exact Nat.ne_of_gt (blk_lt (g := gb165) (o := .cells #[.int .i64 0, .int .i64 0] 28 (0, 0)) (by (with_reducible repeat (first | refine blk_drewN ?_ _ | refine blk_drew ?_ | refine blk_alloc ?_ _)); exact BK165.out)) : gb176 ≠ gb165))
                clear HO_163000
                clear BK162
                clear BK163
                clear BK164
                clear BK165
                clear HK
                clear HB
                have HO_163000 := n0_
                have BK162 := n1_
                have BK163 := n2_
                have BK164 := n3_
                have BK165 := n4_
                have HK := n5_
                have HB := n6_
                have BK176 := n7_
                have GW176 := n8_
                have GE176 := n9_
                have NB162_176 := n10_
                have NB176_162 := n11_
                have NB163_176 := n12_
                have NB176_163 := n13_
                have NB164_176 := n14_
                have NB176_164 := n15_
                have NB165_176 := n16_
                have NB176_165 := n17_
                clear n0_ n1_ n2_ n3_ n4_ n5_ n6_ n7_ n8_ n9_ n10_ n11_ n12_ n13_ n14_ n15_ n16_ n17_
                clear hb hbox hg
                refine hK.out _ _ ⟨(blk_cell BK162.out 0).trans rfl, (blk_cell BK162.out 1).trans rfl, (blk_cell BK162.out 2).trans rfl, (blk_cell BK163.out 0).trans rfl, (blk_cell BK163.out 1).trans rfl⟩ (fun hHeld => ?_)
                clear hK K
                refine norm_ (a' := ?_) ?_ ?_
                rotate_left
                · show Act.put _ (some 13) _ = _
                  simp only [Act.put, List.setIfInBounds_toArray, List.set_cons_zero, List.set_cons_succ, i64_w, i32_w]
                  rfl
                refine one_ (i := 5) (N := some 33) #[true, true, true, true, true, true, false, false, false, true, false, false] rfl rfl (one_of HT_.out (by kernel_rfl)) (by decide) (fun K hK => ?_)
                refine goes_ Try.func20 (by kernel_rfl) rfl #[.agg #[.slice Ao7 l0_0.length co7, .int .i64 a0_1, .int .i64 a0_2], .agg #[.int .i64 a1_0, .int .i64 a1_1], .int .i64 a2, .int .i64 t166] (by rfl) rfl rfl (by (try simp only [List.map_toArray, List.map_cons, List.map_nil]); first | done | rfl | (simp only [List.length_drop, List.length_take]; rfl)) ?_
                with_reducible refine (bureauref17_Look.calls kj5 _ _ l0_0 a0_1 a0_2 a1_0 a1_1 a2 t166 t167 t168 t169 t170 t171 t172 t173 t174 t175 _ ?side1 ?side2 A25.out).mono ?_
                (case side1 => repeat (first | exact (Kd.R_reads' HO_163000.out).2.2 | (with_reducible refine Kd.C_alloc ?_ _) | (with_reducible refine Kd.C_drewN ?_ _) | (with_reducible refine Kd.C_drew ?_)))
                (case side2 => exact (Kd.R_reads' HO_163000.out).2.1)
                rintro e w60 ⟨rfl, hb⟩
                refine ⟨_, rfl, ?_⟩
                have n0_ := Aside0.mk (Kd.R_below (by (with_reducible repeat (first | apply Kd.R_alloc | apply Kd.R_drewN | apply Kd.R_drew)); exact HO_163000.out) hb)
                have n1_ := Aside0.mk (blk_below (g := gb162) (o := .cells #[.slice Ao7 l0_0.length co7, .int .i64 a0_1, .int .i64 a0_2] 49 (0, 0)) (by (with_reducible repeat (first | refine blk_drewN ?_ _ | refine blk_drew ?_ | refine blk_alloc ?_ _)); exact BK162.out) hb)
                have n2_ := Aside0.mk (blk_below (g := gb163) (o := .cells #[.int .i64 a1_0, .int .i64 a1_1] 28 (0, 0)) (by (with_reducible repeat (first | refine blk_drewN ?_ _ | refine blk_drew ?_ | refine blk_alloc ?_ _)); exact BK163.out) hb)
                have n3_ := Aside0.mk (blk_below (g := gb164) (o := .cells #[.slice none 0 0, .int .i64 0, .int .i64 0] 49 (0, 0)) (by (with_reducible repeat (first | refine blk_drewN ?_ _ | refine blk_drew ?_ | refine blk_alloc ?_ _)); exact BK164.out) hb)
                have n4_ := Aside0.mk (blk_below (g := gb165) (o := .cells #[.int .i64 0, .int .i64 0] 28 (0, 0)) (by (with_reducible repeat (first | refine blk_drewN ?_ _ | refine blk_drew ?_ | refine blk_alloc ?_ _)); exact BK165.out) hb)
                have n5_ := Aside0.mk (blk_below (g := gb176) (o := .cells #[.int .i64 0, .int .i64 0, .int .i64 0, .int .i64 0, .int .i64 0, .int .i64 0, .int .i64 0, .bool false] 59 (0, 0)) (by (with_reducible repeat (first | refine blk_drewN ?_ _ | refine blk_drew ?_ | refine blk_alloc ?_ _)); exact BK176.out) hb)
                have n6_ := Aside0.mk (Kept.below (S := (fun k_ => P0_0_ k_)) (by repeat (first | (with_reducible first | exact HK.out | apply Kept.alloc | apply Kept.drewN | apply Kept.drew | refine Kept.setCell ?_ (.inr GW162.out) _ | refine Kept.setCell ?_ (.inr GW163.out) _ | refine Kept.setCell ?_ (.inr GW164.out) _ | refine Kept.setCell ?_ (.inr GW165.out) _ | refine Kept.setCell ?_ (.inr GW176.out) _) | exact HK.out)) hb)
                have n7_ := Aside0.mk (below_step (by repeat (first | (with_reducible first | exact HB.out | apply below_alloc | apply pw_below_drewN | apply below_drew1 | refine below_set ?_ GE162.out | refine below_set ?_ GE163.out | refine below_set ?_ GE164.out | refine below_set ?_ GE165.out | refine below_set ?_ GE176.out) | exact HB.out)) hb)
                clear HO_163000
                clear BK162
                clear BK163
                clear BK164
                clear BK165
                clear BK176
                clear HK
                clear HB
                have HO_163000 := n0_
                have BK162 := n1_
                have BK163 := n2_
                have BK164 := n3_
                have BK165 := n4_
                have BK176 := n5_
                have HK := n6_
                have HB := n7_
                clear n0_ n1_ n2_ n3_ n4_ n5_ n6_ n7_
                (try clear hb)
                (try clear hb2)
                (try clear hk)
                (try clear hi)
                refine hK.out _ _ ⟨(blk_cell BK162.out 0).trans rfl, (blk_cell BK162.out 1).trans rfl, (blk_cell BK162.out 2).trans rfl, (blk_cell BK163.out 0).trans rfl, (blk_cell BK163.out 1).trans rfl⟩ (fun hHeld => ?_)
                clear hK K
                refine norm_ (a' := ?_) ?_ ?_
                rotate_left
                · show Act.put _ (some 33) _ = _
                  simp only [Act.put, List.setIfInBounds_toArray, List.set_cons_zero, List.set_cons_succ, i64_w, i32_w]
                  rfl
                refine pure_ (i := 6) (N := some 27) (v := ?_) (a' := ?_) #[true, true, true, true, true, true, true, false, false, true, false, false] rfl rfl (any_of HT_.out (by kernel_rfl)) (fun _ _ _ h => h) (Or.inl ⟨by rfl, ?_⟩) ?_ ?_
                rotate_left
                · intro w'
                  go_simp
                  with_reducible rfl
                rotate_left
                · simp only [Act.put, List.setIfInBounds_toArray, List.set_cons_zero, List.set_cons_succ, i64_w, i32_w]
                  rfl
                refine pure_ (i := 7) (N := some 34) (v := ?_) (a' := ?_) #[true, true, true, true, true, true, true, true, false, true, false, false] rfl rfl (any_of HT_.out (by kernel_rfl)) (fun _ _ _ h => h) (Or.inl ⟨by rfl, ?_⟩) ?_ ?_
                rotate_left
                · intro w'
                  go_simp
                  with_reducible rfl
                rotate_left
                · simp only [Act.put, List.setIfInBounds_toArray, List.set_cons_zero, List.set_cons_succ, i64_w, i32_w]
                  rfl
                refine pure_ (i := 8) (N := some 35) (v := ?_) (a' := ?_) #[true, true, true, true, true, true, true, true, true, true, false, false] rfl rfl (any_of HT_.out (by kernel_rfl)) (fun _ _ _ h => h) (Or.inl ⟨by rfl, ?_⟩) ?_ ?_
                rotate_left
                · intro w'
                  go_simp
                  with_reducible rfl
                rotate_left
                · simp only [Act.put, List.setIfInBounds_toArray, List.set_cons_zero, List.set_cons_succ, i64_w, i32_w]
                  rfl
                exact norm_ (by simp only [putAll, Act.put, List.setIfInBounds_toArray, List.set_cons_zero, List.set_cons_succ]) (hCont (gb176) _ ⟨hHeld, (by (with_reducible repeat (first | apply Kd.R_alloc | apply Kd.R_drewN | apply Kd.R_drew)); exact HO_163000.out), (by (with_reducible repeat (first | refine blk_drewN ?_ _ | refine blk_drew ?_ | refine blk_alloc ?_ _)); exact BK162.out), (by (with_reducible repeat (first | refine blk_drewN ?_ _ | refine blk_drew ?_ | refine blk_alloc ?_ _)); exact BK163.out), (by (with_reducible repeat (first | refine blk_drewN ?_ _ | refine blk_drew ?_ | refine blk_alloc ?_ _)); exact BK164.out), (by (with_reducible repeat (first | refine blk_drewN ?_ _ | refine blk_drew ?_ | refine blk_alloc ?_ _)); exact BK165.out), (by (with_reducible repeat (first | refine blk_drewN ?_ _ | refine blk_drew ?_ | refine blk_alloc ?_ _)); exact BK176.out), GW176.out, GE176.out, NB162_176.out, NB176_162.out, NB163_176.out, NB176_163.out, NB164_176.out, NB176_164.out, NB165_176.out, NB176_165.out, (by repeat (first | (with_reducible first | exact HK.out | apply Kept.alloc | apply Kept.drewN | apply Kept.drew | refine Kept.setCell ?_ (.inr GW162.out) _ | refine Kept.setCell ?_ (.inr GW163.out) _ | refine Kept.setCell ?_ (.inr GW164.out) _ | refine Kept.setCell ?_ (.inr GW165.out) _ | refine Kept.setCell ?_ (.inr GW176.out) _) | exact HK.out)), (by repeat (first | (with_reducible first | exact HB.out | apply below_alloc | apply pw_below_drewN | apply below_drew1 | refine below_set ?_ GE162.out | refine below_set ?_ GE163.out | refine below_set ?_ GE164.out | refine below_set ?_ GE165.out | refine below_set ?_ GE176.out) | exact HB.out))⟩)
            · skip
              refine box_step ?hg (N := 13) ?hd (cs := #[.int .i64 0, .int .i64 0, .int .i64 0, .int .i64 0, .int .i64 0, .int .i64 0, .int .i64 0, .bool false]) (t := 59) ?hr ?_; (case hd => rfl); (case hg => rfl); (case hr => first | (go_simp; done) | (go_simp; rfl))
              intro gb176 hg w59 hbox hb
              have n0_ := Aside0.mk (Kd.R_below (Kd.R_elderB (by (with_reducible repeat (first | apply Kd.R_alloc | apply Kd.R_drewN | apply Kd.R_drew)); exact HO_163000.out) gb176 (Nat.le_of_eq hg.symm)) hb)
              have n1_ := Aside0.mk (blk_below (g := gb162) (o := .cells #[.slice Ao7 l0_0.length co7, .int .i64 a0_1, .int .i64 a0_2] 49 (0, 0)) (by (with_reducible repeat (first | refine blk_drewN ?_ _ | refine blk_drew ?_ | refine blk_alloc ?_ _)); exact BK162.out) hb)
              have n2_ := Aside0.mk (blk_below (g := gb163) (o := .cells #[.int .i64 a1_0, .int .i64 a1_1] 28 (0, 0)) (by (with_reducible repeat (first | refine blk_drewN ?_ _ | refine blk_drew ?_ | refine blk_alloc ?_ _)); exact BK163.out) hb)
              have n3_ := Aside0.mk (blk_below (g := gb164) (o := .cells #[.slice none 0 0, .int .i64 0, .int .i64 0] 49 (0, 0)) (by (with_reducible repeat (first | refine blk_drewN ?_ _ | refine blk_drew ?_ | refine blk_alloc ?_ _)); exact BK164.out) hb)
              have n4_ := Aside0.mk (blk_below (g := gb165) (o := .cells #[.int .i64 0, .int .i64 0] 28 (0, 0)) (by (with_reducible repeat (first | refine blk_drewN ?_ _ | refine blk_drew ?_ | refine blk_alloc ?_ _)); exact BK165.out) hb)
              have n5_ := Aside0.mk (Kept.below (S := (fun k_ => P0_0_ k_)) (by repeat (first | (with_reducible first | exact HK.out | apply Kept.alloc | apply Kept.drewN | apply Kept.drew | refine Kept.setCell ?_ (.inr GW162.out) _ | refine Kept.setCell ?_ (.inr GW163.out) _ | refine Kept.setCell ?_ (.inr GW164.out) _ | refine Kept.setCell ?_ (.inr GW165.out) _) | exact HK.out)) hb)
              have n6_ := Aside0.mk (below_step (by repeat (first | (with_reducible first | exact HB.out | apply below_alloc | apply pw_below_drewN | apply below_drew1 | refine below_set ?_ GE162.out | refine below_set ?_ GE163.out | refine below_set ?_ GE164.out | refine below_set ?_ GE165.out) | exact HB.out)) hb)
              have n7_ := Aside0.mk (hbox)
              have n8_ := Aside0.mk ((by rw [hg]; exact (by first | exact HK.out.1 | exact (show Kept w _ (fun k_ => P0_0_ k_) from by repeat (first | (with_reducible first | exact HK.out | apply Kept.alloc | apply Kept.drewN | apply Kept.drew | refine Kept.setCell ?_ (.inr GW162.out) _ | refine Kept.setCell ?_ (.inr GW163.out) _ | refine Kept.setCell ?_ (.inr GW164.out) _ | refine Kept.setCell ?_ (.inr GW165.out) _) | exact HK.out)).1) : w.heap.size ≤ gb176))
              have n9_ := Aside0.mk ((by rw [hg]; exact (below_size (by repeat (first | (with_reducible first | exact HB.out | apply below_alloc | apply pw_below_drewN | apply below_drew1 | refine below_set ?_ GE162.out | refine below_set ?_ GE163.out | refine below_set ?_ GE164.out | refine below_set ?_ GE165.out) | exact HB.out))) : w0.heap.size ≤ gb176))
              have n10_ := Aside0.mk ((by rw [hg]; exact Nat.ne_of_lt (blk_lt (g := gb162) (o := .cells #[.slice Ao7 l0_0.length co7, .int .i64 a0_1, .int .i64 a0_2] 49 (0, 0)) (by (with_reducible repeat (first | refine blk_drewN ?_ _ | refine blk_drew ?_ | refine blk_alloc ?_ _)); exact BK162.out)) : gb162 ≠ gb176))
              have n11_ := Aside0.mk ((by rw [hg]; exact Nat.ne_of_gt (blk_lt (g := gb162) (o := .cells #[.slice Ao7 l0_0.length co7, .int .i64 a0_1, .int .i64 a0_2] 49 (0, 0)) (by (with_reducible repeat (first | refine blk_drewN ?_ _ | refine blk_drew ?_ | refine blk_alloc ?_ _)); exact BK162.out)) : gb176 ≠ gb162))
              have n12_ := Aside0.mk ((by rw [hg]; exact Nat.ne_of_lt (blk_lt (g := gb163) (o := .cells #[.int .i64 a1_0, .int .i64 a1_1] 28 (0, 0)) (by (with_reducible repeat (first | refine blk_drewN ?_ _ | refine blk_drew ?_ | refine blk_alloc ?_ _)); exact BK163.out)) : gb163 ≠ gb176))
              have n13_ := Aside0.mk ((by rw [hg]; exact Nat.ne_of_gt (blk_lt (g := gb163) (o := .cells #[.int .i64 a1_0, .int .i64 a1_1] 28 (0, 0)) (by (with_reducible repeat (first | refine blk_drewN ?_ _ | refine blk_drew ?_ | refine blk_alloc ?_ _)); exact BK163.out)) : gb176 ≠ gb163))
              have n14_ := Aside0.mk ((by rw [hg]; exact Nat.ne_of_lt (blk_lt (g := gb164) (o := .cells #[.slice none 0 0, .int .i64 0, .int .i64 0] 49 (0, 0)) (by (with_reducible repeat (first | refine blk_drewN ?_ _ | refine blk_drew ?_ | refine blk_alloc ?_ _)); exact BK164.out)) : gb164 ≠ gb176))
              have n15_ := Aside0.mk ((by rw [hg]; exact Nat.ne_of_gt (blk_lt (g := gb164) (o := .cells #[.slice none 0 0, .int .i64 0, .int .i64 0] 49 (0, 0)) (by (with_reducible repeat (first | refine blk_drewN ?_ _ | refine blk_drew ?_ | refine blk_alloc ?_ _)); exact BK164.out)) : gb176 ≠ gb164))
              have n16_ := Aside0.mk ((by rw [hg]; exact Nat.ne_of_lt (blk_lt (g := gb165) (o := .cells #[.int .i64 0, .int .i64 0] 28 (0, 0)) (by (with_reducible repeat (first | refine blk_drewN ?_ _ | refine blk_drew ?_ | refine blk_alloc ?_ _)); exact BK165.out)) : gb165 ≠ gb176))
              have n17_ := Aside0.mk ((by rw [hg]; exact Nat.ne_of_gt (blk_lt (g := gb165) (o := .cells #[.int .i64 0, .int .i64 0] 28 (0, 0)) (by (with_reducible repeat (first | refine blk_drewN ?_ _ | refine blk_drew ?_ | refine blk_alloc ?_ _)); exact BK165.out)) : gb176 ≠ gb165))
              clear HO_163000
              clear BK162
              clear BK163
              clear BK164
              clear BK165
              clear HK
              clear HB
              have HO_163000 := n0_
              have BK162 := n1_
              have BK163 := n2_
              have BK164 := n3_
              have BK165 := n4_
              have HK := n5_
              have HB := n6_
              have BK176 := n7_
              have GW176 := n8_
              have GE176 := n9_
              have NB162_176 := n10_
              have NB176_162 := n11_
              have NB163_176 := n12_
              have NB176_163 := n13_
              have NB164_176 := n14_
              have NB176_164 := n15_
              have NB165_176 := n16_
              have NB176_165 := n17_
              clear n0_ n1_ n2_ n3_ n4_ n5_ n6_ n7_ n8_ n9_ n10_ n11_ n12_ n13_ n14_ n15_ n16_ n17_
              clear hb hbox hg
              refine hK.out _ _ ⟨(blk_cell BK162.out 0).trans rfl, (blk_cell BK162.out 1).trans rfl, (blk_cell BK162.out 2).trans rfl, (blk_cell BK163.out 0).trans rfl, (blk_cell BK163.out 1).trans rfl⟩ (fun hHeld => ?_)
              clear hK K
              refine norm_ (a' := ?_) ?_ ?_
              rotate_left
              · show Act.put _ (some 13) _ = _
                simp only [Act.put, List.setIfInBounds_toArray, List.set_cons_zero, List.set_cons_succ, i64_w, i32_w]
                rfl
              refine one_ (i := 4) (N := some 32) #[true, true, true, true, true, false, false, false, false, true, false, false] rfl rfl (one_of HT_.out (by kernel_rfl)) (by decide) (fun K hK => ?_)
              refine goes_ Try.func31 (by kernel_rfl) rfl #[.int .i64 a3, .int .i64 8] (by rfl) rfl rfl (by (try simp only [List.map_toArray, List.map_cons, List.map_nil]); first | done | rfl | (simp only [List.length_drop, List.length_take]; rfl)) ?_
              with_reducible refine (bureauref17_both.calls kj5 a3 8 t166 _ A24.out).mono ?_
              rintro e w' ⟨rfl, ⟨nd, rfl⟩⟩
              refine ⟨_, rfl, ?_⟩
              refine hK.out _ _ ⟨(blk_cell BK162.out 0).trans rfl, (blk_cell BK162.out 1).trans rfl, (blk_cell BK162.out 2).trans rfl, (blk_cell BK163.out 0).trans rfl, (blk_cell BK163.out 1).trans rfl⟩ (fun hHeld => ?_)
              clear hK K
              refine norm_ (a' := ?_) ?_ ?_
              rotate_left
              · show Act.put _ (some 32) _ = _
                simp only [Act.put, List.setIfInBounds_toArray, List.set_cons_zero, List.set_cons_succ, i64_w, i32_w]
                rfl
              refine one_ (i := 5) (N := some 33) #[true, true, true, true, true, true, false, false, false, true, false, false] rfl rfl (one_of HT_.out (by kernel_rfl)) (by decide) (fun K hK => ?_)
              refine goes_ Try.func20 (by kernel_rfl) rfl #[.agg #[.slice Ao7 l0_0.length co7, .int .i64 a0_1, .int .i64 a0_2], .agg #[.int .i64 a1_0, .int .i64 a1_1], .int .i64 a2, .int .i64 t166] (by rfl) rfl rfl (by (try simp only [List.map_toArray, List.map_cons, List.map_nil]); first | done | rfl | (simp only [List.length_drop, List.length_take]; rfl)) ?_
              with_reducible refine (bureauref17_Look.calls kj5 _ _ l0_0 a0_1 a0_2 a1_0 a1_1 a2 t166 t167 t168 t169 t170 t171 t172 t173 t174 t175 _ ?side1 ?side2 A25.out).mono ?_
              (case side1 => repeat (first | exact (Kd.R_reads' HO_163000.out).2.2 | (with_reducible refine Kd.C_alloc ?_ _) | (with_reducible refine Kd.C_drewN ?_ _) | (with_reducible refine Kd.C_drew ?_)))
              (case side2 => exact (Kd.R_reads' HO_163000.out).2.1)
              rintro e w60 ⟨rfl, hb⟩
              refine ⟨_, rfl, ?_⟩
              have n0_ := Aside0.mk (Kd.R_below (by (with_reducible repeat (first | apply Kd.R_alloc | apply Kd.R_drewN | apply Kd.R_drew)); exact HO_163000.out) hb)
              have n1_ := Aside0.mk (blk_below (g := gb162) (o := .cells #[.slice Ao7 l0_0.length co7, .int .i64 a0_1, .int .i64 a0_2] 49 (0, 0)) (by (with_reducible repeat (first | refine blk_drewN ?_ _ | refine blk_drew ?_ | refine blk_alloc ?_ _)); exact BK162.out) hb)
              have n2_ := Aside0.mk (blk_below (g := gb163) (o := .cells #[.int .i64 a1_0, .int .i64 a1_1] 28 (0, 0)) (by (with_reducible repeat (first | refine blk_drewN ?_ _ | refine blk_drew ?_ | refine blk_alloc ?_ _)); exact BK163.out) hb)
              have n3_ := Aside0.mk (blk_below (g := gb164) (o := .cells #[.slice none 0 0, .int .i64 0, .int .i64 0] 49 (0, 0)) (by (with_reducible repeat (first | refine blk_drewN ?_ _ | refine blk_drew ?_ | refine blk_alloc ?_ _)); exact BK164.out) hb)
              have n4_ := Aside0.mk (blk_below (g := gb165) (o := .cells #[.int .i64 0, .int .i64 0] 28 (0, 0)) (by (with_reducible repeat (first | refine blk_drewN ?_ _ | refine blk_drew ?_ | refine blk_alloc ?_ _)); exact BK165.out) hb)
              have n5_ := Aside0.mk (blk_below (g := gb176) (o := .cells #[.int .i64 0, .int .i64 0, .int .i64 0, .int .i64 0, .int .i64 0, .int .i64 0, .int .i64 0, .bool false] 59 (0, 0)) (by (with_reducible repeat (first | refine blk_drewN ?_ _ | refine blk_drew ?_ | refine blk_alloc ?_ _)); exact BK176.out) hb)
              have n6_ := Aside0.mk (Kept.below (S := (fun k_ => P0_0_ k_)) (by repeat (first | (with_reducible first | exact HK.out | apply Kept.alloc | apply Kept.drewN | apply Kept.drew | refine Kept.setCell ?_ (.inr GW162.out) _ | refine Kept.setCell ?_ (.inr GW163.out) _ | refine Kept.setCell ?_ (.inr GW164.out) _ | refine Kept.setCell ?_ (.inr GW165.out) _ | refine Kept.setCell ?_ (.inr GW176.out) _) | exact HK.out)) hb)
              have n7_ := Aside0.mk (below_step (by repeat (first | (with_reducible first | exact HB.out | apply below_alloc | apply pw_below_drewN | apply below_drew1 | refine below_set ?_ GE162.out | refine below_set ?_ GE163.out | refine below_set ?_ GE164.out | refine below_set ?_ GE165.out | refine below_set ?_ GE176.out) | exact HB.out)) hb)
              clear HO_163000
              clear BK162
              clear BK163
              clear BK164
              clear BK165
              clear BK176
              clear HK
              clear HB
              have HO_163000 := n0_
              have BK162 := n1_
              have BK163 := n2_
              have BK164 := n3_
              have BK165 := n4_
              have BK176 := n5_
              have HK := n6_
              have HB := n7_
              clear n0_ n1_ n2_ n3_ n4_ n5_ n6_ n7_
              (try clear hb)
              (try clear hb2)
              (try clear hk)
              (try clear hi)
              refine hK.out _ _ ⟨(blk_cell BK162.out 0).trans rfl, (blk_cell BK162.out 1).trans rfl, (blk_cell BK162.out 2).trans rfl, (blk_cell BK163.out 0).trans rfl, (blk_cell BK163.out 1).trans rfl⟩ (fun hHeld => ?_)
              clear hK K
              refine norm_ (a' := ?_) ?_ ?_
              rotate_left
              · show Act.put _ (some 33) _ = _
                simp only [Act.put, List.setIfInBounds_toArray, List.set_cons_zero, List.set_cons_succ, i64_w, i32_w]
                rfl
              refine pure_ (i := 6) (N := some 27) (v := ?_) (a' := ?_) #[true, true, true, true, true, true, true, false, false, true, false, false] rfl rfl (any_of HT_.out (by kernel_rfl)) (fun _ _ _ h => h) (Or.inl ⟨by rfl, ?_⟩) ?_ ?_
              rotate_left
              · intro w'
                go_simp
                with_reducible rfl
              rotate_left
              · simp only [Act.put, List.setIfInBounds_toArray, List.set_cons_zero, List.set_cons_succ, i64_w, i32_w]
                rfl
              refine pure_ (i := 7) (N := some 34) (v := ?_) (a' := ?_) #[true, true, true, true, true, true, true, true, false, true, false, false] rfl rfl (any_of HT_.out (by kernel_rfl)) (fun _ _ _ h => h) (Or.inl ⟨by rfl, ?_⟩) ?_ ?_
              rotate_left
              · intro w'
                go_simp
                with_reducible rfl
              rotate_left
              · simp only [Act.put, List.setIfInBounds_toArray, List.set_cons_zero, List.set_cons_succ, i64_w, i32_w]
                rfl
              refine pure_ (i := 8) (N := some 35) (v := ?_) (a' := ?_) #[true, true, true, true, true, true, true, true, true, true, false, false] rfl rfl (any_of HT_.out (by kernel_rfl)) (fun _ _ _ h => h) (Or.inl ⟨by rfl, ?_⟩) ?_ ?_
              rotate_left
              · intro w'
                go_simp
                with_reducible rfl
              rotate_left
              · simp only [Act.put, List.setIfInBounds_toArray, List.set_cons_zero, List.set_cons_succ, i64_w, i32_w]
                rfl
              exact norm_ (by simp only [putAll, Act.put, List.setIfInBounds_toArray, List.set_cons_zero, List.set_cons_succ]) (hCont (gb176) _ ⟨hHeld, (by (with_reducible repeat (first | apply Kd.R_alloc | apply Kd.R_drewN | apply Kd.R_drew)); exact HO_163000.out), (by (with_reducible repeat (first | refine blk_drewN ?_ _ | refine blk_drew ?_ | refine blk_alloc ?_ _)); exact BK162.out), (by (with_reducible repeat (first | refine blk_drewN ?_ _ | refine blk_drew ?_ | refine blk_alloc ?_ _)); exact BK163.out), (by (with_reducible repeat (first | refine blk_drewN ?_ _ | refine blk_drew ?_ | refine blk_alloc ?_ _)); exact BK164.out), (by (with_reducible repeat (first | refine blk_drewN ?_ _ | refine blk_drew ?_ | refine blk_alloc ?_ _)); exact BK165.out), (by (with_reducible repeat (first | refine blk_drewN ?_ _ | refine blk_drew ?_ | refine blk_alloc ?_ _)); exact BK176.out), GW176.out, GE176.out, NB162_176.out, NB176_162.out, NB163_176.out, NB176_163.out, NB164_176.out, NB176_164.out, NB165_176.out, NB176_165.out, (by repeat (first | (with_reducible first | exact HK.out | apply Kept.alloc | apply Kept.drewN | apply Kept.drew | refine Kept.setCell ?_ (.inr GW162.out) _ | refine Kept.setCell ?_ (.inr GW163.out) _ | refine Kept.setCell ?_ (.inr GW164.out) _ | refine Kept.setCell ?_ (.inr GW165.out) _ | refine Kept.setCell ?_ (.inr GW176.out) _) | exact HK.out)), (by repeat (first | (with_reducible first | exact HB.out | apply below_alloc | apply pw_below_drewN | apply below_drew1 | refine below_set ?_ GE162.out | refine below_set ?_ GE163.out | refine below_set ?_ GE164.out | refine below_set ?_ GE165.out | refine below_set ?_ GE176.out) | exact HB.out))⟩)
          rintro gb176 w61 ⟨hS_, h0_, h1_, h2_, h3_, h4_, h5_, h6_, h7_, h8_, h9_, h10_, h11_, h12_, h13_, h14_, h15_, h16_, h17_⟩
          have n0_ : Aside0 (Kd.R k59 59 w61 w0.heap.size (fun k_ => (P0_0_ k_ ∨ w.heap.size ≤ k_) ∧ k_ ≠ gb176) (.slice Ao7 l0_0.length co7) l0_0) := ⟨h0_⟩
          have n1_ : Aside0 (w61.heap[gb162]? = some (.cells #[.slice Ao7 l0_0.length co7, .int .i64 a0_1, .int .i64 a0_2] 49 (0, 0))) := ⟨h1_⟩
          have n2_ : Aside0 (w61.heap[gb163]? = some (.cells #[.int .i64 a1_0, .int .i64 a1_1] 28 (0, 0))) := ⟨h2_⟩
          have n3_ : Aside0 (w61.heap[gb164]? = some (.cells #[.slice none 0 0, .int .i64 0, .int .i64 0] 49 (0, 0))) := ⟨h3_⟩
          have n4_ : Aside0 (w61.heap[gb165]? = some (.cells #[.int .i64 0, .int .i64 0] 28 (0, 0))) := ⟨h4_⟩
          have n5_ : Aside0 (w61.heap[gb176]? = some (.cells #[.int .i64 0, .int .i64 0, .int .i64 0, .int .i64 0, .int .i64 0, .int .i64 0, .int .i64 0, .bool false] 59 (0, 0))) := ⟨h5_⟩
          have n6_ : Aside0 (w.heap.size ≤ gb176) := ⟨h6_⟩
          have n7_ : Aside0 (w0.heap.size ≤ gb176) := ⟨h7_⟩
          have n8_ : Aside0 (gb162 ≠ gb176) := ⟨h8_⟩
          have n9_ : Aside0 (gb176 ≠ gb162) := ⟨h9_⟩
          have n10_ : Aside0 (gb163 ≠ gb176) := ⟨h10_⟩
          have n11_ : Aside0 (gb176 ≠ gb163) := ⟨h11_⟩
          have n12_ : Aside0 (gb164 ≠ gb176) := ⟨h12_⟩
          have n13_ : Aside0 (gb176 ≠ gb164) := ⟨h13_⟩
          have n14_ : Aside0 (gb165 ≠ gb176) := ⟨h14_⟩
          have n15_ : Aside0 (gb176 ≠ gb165) := ⟨h15_⟩
          have n16_ : Aside0 (Kept w w61 (fun k_ => P0_0_ k_)) := ⟨h16_⟩
          have n17_ : Aside0 (Below w0.heap.size w0 w61) := ⟨h17_⟩
          clear HO_163000
          clear BK162
          clear BK163
          clear BK164
          clear BK165
          clear HK
          clear HB
          clear h0_ h1_ h2_ h3_ h4_ h5_ h6_ h7_ h8_ h9_ h10_ h11_ h12_ h13_ h14_ h15_ h16_ h17_
          have HO_163000 := n0_
          have BK162 := n1_
          have BK163 := n2_
          have BK164 := n3_
          have BK165 := n4_
          have BK176 := n5_
          have GW176 := n6_
          have GE176 := n7_
          have NB162_176 := n8_
          have NB176_162 := n9_
          have NB163_176 := n10_
          have NB176_163 := n11_
          have NB164_176 := n12_
          have NB176_164 := n13_
          have NB165_176 := n14_
          have NB176_165 := n15_
          have HK := n16_
          have HB := n17_
          clear n0_ n1_ n2_ n3_ n4_ n5_ n6_ n7_ n8_ n9_ n10_ n11_ n12_ n13_ n14_ n15_ n16_ n17_
          have hHeld : w61.cell? ⟨gb162, 0, none⟩ = some (.slice Ao7 l0_0.length co7) ∧ w61.cell? ⟨gb162, 1, none⟩ = some (.int .i64 a0_1) ∧ w61.cell? ⟨gb162, 2, none⟩ = some (.int .i64 a0_2) ∧ w61.cell? ⟨gb163, 0, none⟩ = some (.int .i64 a1_0) ∧ w61.cell? ⟨gb163, 1, none⟩ = some (.int .i64 a1_1) := hS_
          refine norm_ (a' := ?_) ?_ ?_
          rotate_left
          · simp only [putAll, Act.put, List.setIfInBounds_toArray, List.set_cons_zero, List.set_cons_succ]
            rfl
          refine one_ (i := 10) (N := none) #[true, true, true, true, true, true, true, true, true, true, true, false] rfl rfl (one_of HT_.out (by kernel_rfl)) (by decide) (fun K hK => ?_)
          have hs62 : w61.cell? ⟨gb176, 0, none⟩ = some (.int .i64 0) := (blk_cell BK176.out 0).trans rfl
          have hfs62 := blk_frozen BK176.out 0
          have hns62_0 := NB162_176.out
          have hns62_1 := NB163_176.out
          have hns62_2 := NB164_176.out
          have hns62_3 := NB165_176.out
          have hms62_0 := NB176_162.out
          have hms62_1 := NB176_163.out
          have hms62_2 := NB176_164.out
          have hms62_3 := NB176_165.out
          have hs63 : w61.cell? ⟨gb176, 1, none⟩ = some (.int .i64 0) := (blk_cell BK176.out 1).trans rfl
          have hfs63 := blk_frozen BK176.out 1
          have hns63_0 := NB162_176.out
          have hns63_1 := NB163_176.out
          have hns63_2 := NB164_176.out
          have hns63_3 := NB165_176.out
          have hms63_0 := NB176_162.out
          have hms63_1 := NB176_163.out
          have hms63_2 := NB176_164.out
          have hms63_3 := NB176_165.out
          have hs64 : w61.cell? ⟨gb176, 2, none⟩ = some (.int .i64 0) := (blk_cell BK176.out 2).trans rfl
          have hfs64 := blk_frozen BK176.out 2
          have hns64_0 := NB162_176.out
          have hns64_1 := NB163_176.out
          have hns64_2 := NB164_176.out
          have hns64_3 := NB165_176.out
          have hms64_0 := NB176_162.out
          have hms64_1 := NB176_163.out
          have hms64_2 := NB176_164.out
          have hms64_3 := NB176_165.out
          have hs65 : w61.cell? ⟨gb176, 3, none⟩ = some (.int .i64 0) := (blk_cell BK176.out 3).trans rfl
          have hfs65 := blk_frozen BK176.out 3
          have hns65_0 := NB162_176.out
          have hns65_1 := NB163_176.out
          have hns65_2 := NB164_176.out
          have hns65_3 := NB165_176.out
          have hms65_0 := NB176_162.out
          have hms65_1 := NB176_163.out
          have hms65_2 := NB176_164.out
          have hms65_3 := NB176_165.out
          have hs66 : w61.cell? ⟨gb176, 4, none⟩ = some (.int .i64 0) := (blk_cell BK176.out 4).trans rfl
          have hfs66 := blk_frozen BK176.out 4
          have hns66_0 := NB162_176.out
          have hns66_1 := NB163_176.out
          have hns66_2 := NB164_176.out
          have hns66_3 := NB165_176.out
          have hms66_0 := NB176_162.out
          have hms66_1 := NB176_163.out
          have hms66_2 := NB176_164.out
          have hms66_3 := NB176_165.out
          have hs67 : w61.cell? ⟨gb176, 5, none⟩ = some (.int .i64 0) := (blk_cell BK176.out 5).trans rfl
          have hfs67 := blk_frozen BK176.out 5
          have hns67_0 := NB162_176.out
          have hns67_1 := NB163_176.out
          have hns67_2 := NB164_176.out
          have hns67_3 := NB165_176.out
          have hms67_0 := NB176_162.out
          have hms67_1 := NB176_163.out
          have hms67_2 := NB176_164.out
          have hms67_3 := NB176_165.out
          have hs68 : w61.cell? ⟨gb176, 6, none⟩ = some (.int .i64 0) := (blk_cell BK176.out 6).trans rfl
          have hfs68 := blk_frozen BK176.out 6
          have hns68_0 := NB162_176.out
          have hns68_1 := NB163_176.out
          have hns68_2 := NB164_176.out
          have hns68_3 := NB165_176.out
          have hms68_0 := NB176_162.out
          have hms68_1 := NB176_163.out
          have hms68_2 := NB176_164.out
          have hms68_3 := NB176_165.out
          have hs69 : w61.cell? ⟨gb176, 7, none⟩ = some (.bool false) := (blk_cell BK176.out 7).trans rfl
          have hfs69 := blk_frozen BK176.out 7
          have hns69_0 := NB162_176.out
          have hns69_1 := NB163_176.out
          have hns69_2 := NB164_176.out
          have hns69_3 := NB165_176.out
          have hms69_0 := NB176_162.out
          have hms69_1 := NB176_163.out
          have hms69_2 := NB176_164.out
          have hms69_3 := NB176_165.out
          refine skip_ (w1 := ?_) (by rfl) rfl ?_ ?_
          rotate_left
          · go_simp
            rfl
          refine hK.out _ _ ⟨((cell_far (p := ⟨gb176, _, none⟩) NB162_176.out _).trans (((cell_far (p := ⟨gb176, _, none⟩) NB162_176.out _).trans (((cell_far (p := ⟨gb176, _, none⟩) NB162_176.out _).trans (((cell_far (p := ⟨gb176, _, none⟩) NB162_176.out _).trans (((cell_far (p := ⟨gb176, _, none⟩) NB162_176.out _).trans (((cell_far (p := ⟨gb176, _, none⟩) NB162_176.out _).trans (((cell_far (p := ⟨gb176, _, none⟩) NB162_176.out _).trans (((cell_far (p := ⟨gb176, _, none⟩) NB162_176.out _).trans (hHeld.1)))))))))))))))), ((cell_far (p := ⟨gb176, _, none⟩) NB162_176.out _).trans (((cell_far (p := ⟨gb176, _, none⟩) NB162_176.out _).trans (((cell_far (p := ⟨gb176, _, none⟩) NB162_176.out _).trans (((cell_far (p := ⟨gb176, _, none⟩) NB162_176.out _).trans (((cell_far (p := ⟨gb176, _, none⟩) NB162_176.out _).trans (((cell_far (p := ⟨gb176, _, none⟩) NB162_176.out _).trans (((cell_far (p := ⟨gb176, _, none⟩) NB162_176.out _).trans (((cell_far (p := ⟨gb176, _, none⟩) NB162_176.out _).trans (hHeld.2.1)))))))))))))))), ((cell_far (p := ⟨gb176, _, none⟩) NB162_176.out _).trans (((cell_far (p := ⟨gb176, _, none⟩) NB162_176.out _).trans (((cell_far (p := ⟨gb176, _, none⟩) NB162_176.out _).trans (((cell_far (p := ⟨gb176, _, none⟩) NB162_176.out _).trans (((cell_far (p := ⟨gb176, _, none⟩) NB162_176.out _).trans (((cell_far (p := ⟨gb176, _, none⟩) NB162_176.out _).trans (((cell_far (p := ⟨gb176, _, none⟩) NB162_176.out _).trans (((cell_far (p := ⟨gb176, _, none⟩) NB162_176.out _).trans (hHeld.2.2.1)))))))))))))))), ((cell_far (p := ⟨gb176, _, none⟩) NB163_176.out _).trans (((cell_far (p := ⟨gb176, _, none⟩) NB163_176.out _).trans (((cell_far (p := ⟨gb176, _, none⟩) NB163_176.out _).trans (((cell_far (p := ⟨gb176, _, none⟩) NB163_176.out _).trans (((cell_far (p := ⟨gb176, _, none⟩) NB163_176.out _).trans (((cell_far (p := ⟨gb176, _, none⟩) NB163_176.out _).trans (((cell_far (p := ⟨gb176, _, none⟩) NB163_176.out _).trans (((cell_far (p := ⟨gb176, _, none⟩) NB163_176.out _).trans (hHeld.2.2.2.1)))))))))))))))), ((cell_far (p := ⟨gb176, _, none⟩) NB163_176.out _).trans (((cell_far (p := ⟨gb176, _, none⟩) NB163_176.out _).trans (((cell_far (p := ⟨gb176, _, none⟩) NB163_176.out _).trans (((cell_far (p := ⟨gb176, _, none⟩) NB163_176.out _).trans (((cell_far (p := ⟨gb176, _, none⟩) NB163_176.out _).trans (((cell_far (p := ⟨gb176, _, none⟩) NB163_176.out _).trans (((cell_far (p := ⟨gb176, _, none⟩) NB163_176.out _).trans (((cell_far (p := ⟨gb176, _, none⟩) NB163_176.out _).trans (hHeld.2.2.2.2))))))))))))))))⟩ (fun hHeld => ?_)
          clear hK K
          refine pure_ (i := 11) (N := some 14) (v := ?_) (a' := ?_) #[true, true, true, true, true, true, true, true, true, true, true, true] rfl rfl (any_of HT_.out (by kernel_rfl)) (fun _ _ _ h => h) (Or.inl ⟨by rfl, ?_⟩) ?_ ?_
          rotate_left
          · intro w'
            go_simp
            with_reducible rfl
          rotate_left
          · simp only [Act.put, List.setIfInBounds_toArray, List.set_cons_zero, List.set_cons_succ, i64_w, i32_w]
            rfl
          refine done_ (done_of HT_.out (by kernel_rfl)) ?_
          have hnb70 := NB162_163.out
          have hnc70 := NB163_162.out
          have hnb71 := NB162_164.out
          have hnc71 := NB164_162.out
          have hnb72 := NB162_165.out
          have hnc72 := NB165_162.out
          have hnb73 := NB162_176.out
          have hnc73 := NB176_162.out
          have hcz74_0 : w61.cell? ⟨gb162, 0, none⟩ = some (.slice Ao7 l0_0.length co7) := (blk_cell BK162.out 0).trans rfl
          have hcz74_1 : w61.cell? ⟨gb162, 1, none⟩ = some (.int .i64 a0_1) := (blk_cell BK162.out 1).trans rfl
          have hcz74_2 : w61.cell? ⟨gb162, 2, none⟩ = some (.int .i64 a0_2) := (blk_cell BK162.out 2).trans rfl
          have hfz74_0 := blk_frozen BK162.out 0
          have hfz74_1 := blk_frozen BK162.out 1
          have hfz74_2 := blk_frozen BK162.out 2
          have hnb75 := NB164_163.out
          have hnc75 := NB163_164.out
          have hnb76 := NB164_165.out
          have hnc76 := NB165_164.out
          have hnb77 := NB164_176.out
          have hnc77 := NB176_164.out
          have hcz78_0 : w61.cell? ⟨gb164, 0, none⟩ = some (.slice none 0 0) := (blk_cell BK164.out 0).trans rfl
          have hcz78_1 : w61.cell? ⟨gb164, 1, none⟩ = some (.int .i64 0) := (blk_cell BK164.out 1).trans rfl
          have hcz78_2 : w61.cell? ⟨gb164, 2, none⟩ = some (.int .i64 0) := (blk_cell BK164.out 2).trans rfl
          have hfz78_0 := blk_frozen BK164.out 0
          have hfz78_1 := blk_frozen BK164.out 1
          have hfz78_2 := blk_frozen BK164.out 2
          have hnb79 := NB165_163.out
          have hnc79 := NB163_165.out
          have hnb80 := NB165_176.out
          have hnc80 := NB176_165.out
          have hcz81_0 : w61.cell? ⟨gb165, 0, none⟩ = some (.int .i64 0) := (blk_cell BK165.out 0).trans rfl
          have hcz81_1 : w61.cell? ⟨gb165, 1, none⟩ = some (.int .i64 0) := (blk_cell BK165.out 1).trans rfl
          have hfz81_0 := blk_frozen BK165.out 0
          have hfz81_1 := blk_frozen BK165.out 1
          try go_wp2
          refine bodyPost_ret (results_list (rs := [.cell 10 49, .cell 11 28, .tmp 12]) rfl (by simp) (.cell gb164 49 #[.slice Ao7 l0_0.length co7, .int .i64 a0_1, .int .i64 a0_2] (0, 0) _ rfl (by (with_reducible repeat (first | refine blk_drewN ?_ _ | refine blk_drew ?_ | refine blk_alloc ?_ _)); refine blk_far ?_ NB164_165.out _; (with_reducible repeat (first | refine blk_drewN ?_ _ | refine blk_drew ?_ | refine blk_alloc ?_ _)); refine blk_far ?_ NB164_165.out _; (with_reducible repeat (first | refine blk_drewN ?_ _ | refine blk_drew ?_ | refine blk_alloc ?_ _)); refine blk_put (cs := #[.slice Ao7 l0_0.length co7, .int .i64 a0_1, .int .i64 0]) ?_ 2 _ rfl; (with_reducible repeat (first | refine blk_drewN ?_ _ | refine blk_drew ?_ | refine blk_alloc ?_ _)); refine blk_put (cs := #[.slice Ao7 l0_0.length co7, .int .i64 0, .int .i64 0]) ?_ 1 _ rfl; (with_reducible repeat (first | refine blk_drewN ?_ _ | refine blk_drew ?_ | refine blk_alloc ?_ _)); refine blk_put (cs := #[.slice none 0 0, .int .i64 0, .int .i64 0]) ?_ 0 _ rfl; (with_reducible repeat (first | refine blk_drewN ?_ _ | refine blk_drew ?_ | refine blk_alloc ?_ _)); refine blk_far ?_ NB164_176.out _; (with_reducible repeat (first | refine blk_drewN ?_ _ | refine blk_drew ?_ | refine blk_alloc ?_ _)); refine blk_far ?_ NB164_176.out _; (with_reducible repeat (first | refine blk_drewN ?_ _ | refine blk_drew ?_ | refine blk_alloc ?_ _)); refine blk_far ?_ NB164_176.out _; (with_reducible repeat (first | refine blk_drewN ?_ _ | refine blk_drew ?_ | refine blk_alloc ?_ _)); refine blk_far ?_ NB164_176.out _; (with_reducible repeat (first | refine blk_drewN ?_ _ | refine blk_drew ?_ | refine blk_alloc ?_ _)); refine blk_far ?_ NB164_176.out _; (with_reducible repeat (first | refine blk_drewN ?_ _ | refine blk_drew ?_ | refine blk_alloc ?_ _)); refine blk_far ?_ NB164_176.out _; (with_reducible repeat (first | refine blk_drewN ?_ _ | refine blk_drew ?_ | refine blk_alloc ?_ _)); refine blk_far ?_ NB164_176.out _; (with_reducible repeat (first | refine blk_drewN ?_ _ | refine blk_drew ?_ | refine blk_alloc ?_ _)); refine blk_far ?_ NB164_176.out _; (with_reducible repeat (first | refine blk_drewN ?_ _ | refine blk_drew ?_ | refine blk_alloc ?_ _)); exact BK164.out) Try.underlying49 rfl (by kernel_rfl) (.cell gb165 28 #[.int .i64 0, .int .i64 0] (0, 0) _ rfl (by (with_reducible repeat (first | refine blk_drewN ?_ _ | refine blk_drew ?_ | refine blk_alloc ?_ _)); refine blk_put (cs := #[.int .i64 0, .int .i64 0]) ?_ 1 _ rfl; (with_reducible repeat (first | refine blk_drewN ?_ _ | refine blk_drew ?_ | refine blk_alloc ?_ _)); refine blk_put (cs := #[.int .i64 0, .int .i64 0]) ?_ 0 _ rfl; (with_reducible repeat (first | refine blk_drewN ?_ _ | refine blk_drew ?_ | refine blk_alloc ?_ _)); refine blk_far ?_ NB165_164.out _; (with_reducible repeat (first | refine blk_drewN ?_ _ | refine blk_drew ?_ | refine blk_alloc ?_ _)); refine blk_far ?_ NB165_164.out _; (with_reducible repeat (first | refine blk_drewN ?_ _ | refine blk_drew ?_ | refine blk_alloc ?_ _)); refine blk_far ?_ NB165_164.out _; (with_reducible repeat (first | refine blk_drewN ?_ _ | refine blk_drew ?_ | refine blk_alloc ?_ _)); refine blk_far ?_ NB165_176.out _; (with_reducible repeat (first | refine blk_drewN ?_ _ | refine blk_drew ?_ | refine blk_alloc ?_ _)); refine blk_far ?_ NB165_176.out _; (with_reducible repeat (first | refine blk_drewN ?_ _ | refine blk_drew ?_ | refine blk_alloc ?_ _)); refine blk_far ?_ NB165_176.out _; (with_reducible repeat (first | refine blk_drewN ?_ _ | refine blk_drew ?_ | refine blk_alloc ?_ _)); refine blk_far ?_ NB165_176.out _; (with_reducible repeat (first | refine blk_drewN ?_ _ | refine blk_drew ?_ | refine blk_alloc ?_ _)); refine blk_far ?_ NB165_176.out _; (with_reducible repeat (first | refine blk_drewN ?_ _ | refine blk_drew ?_ | refine blk_alloc ?_ _)); refine blk_far ?_ NB165_176.out _; (with_reducible repeat (first | refine blk_drewN ?_ _ | refine blk_drew ?_ | refine blk_alloc ?_ _)); refine blk_far ?_ NB165_176.out _; (with_reducible repeat (first | refine blk_drewN ?_ _ | refine blk_drew ?_ | refine blk_alloc ?_ _)); refine blk_far ?_ NB165_176.out _; (with_reducible repeat (first | refine blk_drewN ?_ _ | refine blk_drew ?_ | refine blk_alloc ?_ _)); exact BK165.out) Try.underlying28 rfl (by kernel_rfl) (.tmp .nil)))) rfl ?_
          exact ⟨_, by first | rfl | (simp [errW_none, errW_some] <;> rfl) | (simp [*, errW_none, errW_some] <;> rfl), by (with_reducible repeat (first | apply Kd.R_alloc | apply Kd.R_drewN | apply Kd.R_drew)); exact Kd.R_mono (Kd.R_far (p := ⟨gb165, 1, none⟩) (Kd.R_far (p := ⟨gb165, 0, none⟩) (Kd.R_far (p := ⟨gb164, 2, none⟩) (Kd.R_far (p := ⟨gb164, 1, none⟩) (Kd.R_far (p := ⟨gb164, 0, none⟩) (Kd.R_far (p := ⟨gb176, 7, none⟩) (Kd.R_far (p := ⟨gb176, 6, none⟩) (Kd.R_far (p := ⟨gb176, 5, none⟩) (Kd.R_far (p := ⟨gb176, 4, none⟩) (Kd.R_far (p := ⟨gb176, 3, none⟩) (Kd.R_far (p := ⟨gb176, 2, none⟩) (Kd.R_far (p := ⟨gb176, 1, none⟩) (Kd.R_far (p := ⟨gb176, 0, none⟩) (Kd.R_types (Kd.R_types (Kd.R_mono HO_163000.out (fun k_ hk => (⟨hk, hk.2⟩ : _ ∧ k_ ≠ gb176))) BK164.out (by decide)) BK165.out (by decide)) (fun _ hk => hk.1.1.2) (.int .i64 t167)) (fun _ hk => hk.1.1.2) (.int .i64 t168)) (fun _ hk => hk.1.1.2) (.int .i64 t169)) (fun _ hk => hk.1.1.2) (.int .i64 t170)) (fun _ hk => hk.1.1.2) (.int .i64 t171)) (fun _ hk => hk.1.1.2) (.int .i64 t172)) (fun _ hk => hk.1.1.2) (.int .i64 t173)) (fun _ hk => hk.1.1.2) (.bool t174)) (fun _ hk => hk.1.2) (.slice Ao7 l0_0.length co7)) (fun _ hk => hk.1.2) (.int .i64 a0_1)) (fun _ hk => hk.1.2) (.int .i64 a0_2)) (fun _ hk => hk.2) (.int .i64 0)) (fun _ hk => hk.2) (.int .i64 0)) (fun _ hk => hk.1.1.1.1), by repeat (first | (with_reducible first | exact HB.out | apply below_alloc | apply pw_below_drewN | apply below_drew1 | refine below_set ?_ GE162.out | refine below_set ?_ GE163.out | refine below_set ?_ GE164.out | refine below_set ?_ GE165.out | refine below_set ?_ GE176.out) | exact HB.out), by repeat (first | (with_reducible first | exact HK.out | apply Kept.alloc | apply Kept.drewN | apply Kept.drew | refine Kept.setCell ?_ (.inr GW162.out) _ | refine Kept.setCell ?_ (.inr GW163.out) _ | refine Kept.setCell ?_ (.inr GW164.out) _ | refine Kept.setCell ?_ (.inr GW165.out) _ | refine Kept.setCell ?_ (.inr GW176.out) _) | exact HK.out)⟩

end Go.Proofs.Ytecbdhampjmlaaa.XCapsActs
