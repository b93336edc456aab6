-- Written by this session's program (wip/xprint.py) with the kit's print, for this claim.
import Derived.Test.YtpajakfmahfpkaaDoorXMoveFindsx0
import Derived.Test.YtpajakfmahfpkaaDoorXMoveFindsx1
import Derived.Test.YtpajakfmahfpkaaDoorXMoveFindsx2
namespace Go.Proofs.YtpajakfmahfpkaaDoor.XMoveFinds
open Go.RowKit Go.Proofs.YtpajakfmahfpkaaDoorW.PrintWords Go.Proofs.YtpajakfmahfpkaaDoorW.PrintLast Go.Proofs.YtpajakfmahfpkaaDoorW.PrintMore Go.Proofs.YtpajakfmahfpkaaDoor.Ext
attribute [local go_sem] max2_int min2_int max_two min_two max_three min_three max_four min_four   -- for this text's walks alone
set_option linter.unusedVariables false
set_option linter.unusedSimpArgs false

/-! ### bureaulaw12_MoveFinds: function 6 -/
mutual
def bureaulaw12_MoveFinds.j0 : Nat → ByteArray → Int → Bool → Int → Int → Int → Option (Bool)
  | 0, _, _, _, _, _, _ => none
  | k + 1, x0, x1, x29, x154000, x154001, x154002 => if x29 = true then (bureaulaw12_MoveFinds.j1 k x0 x1 102 x154001 x154002) else (bureaulaw12_MoveFinds.j1 k x0 x1 x154000 x154001 x154002)
def bureaulaw12_MoveFinds.j1 : Nat → ByteArray → Int → Int → Int → Int → Option (Bool)
  | 0, _, _, _, _, _ => none
  | k + 1, x0, x1, x154000, x154001, x154002 => (bureauref02_Align.f k x0 x1).bind fun t155 => ((move_To.f x0 x1 x154000 x154001 x154002).bind fun bt156 => ((bureauref02_At.f k x0 bt156.1).bind fun bt159 => (if bt156.2.2 = true then (if bt159.2 = 0 then (bureaulaw12_MoveFinds.j2 k x0 t155 bt156.1 true x154000 x154001 x154002) else (if bt159.1 = (wrap64 (x154001)) then ((bureauref06_Of.f k x0 bt156.1).bind fun t161 => ((bureauref06_Of.f k x0 t155).bind fun t162 => (if t161 = t162 then (if bt156.1 > t155 then (bureaulaw12_MoveFinds.j2 k x0 t155 bt156.1 (!(x154000 == 102)) x154000 x154001 x154002) else (bureaulaw12_MoveFinds.j2 k x0 t155 bt156.1 (x154000 == 102) x154000 x154001 x154002)) else (bureaulaw12_MoveFinds.j2 k x0 t155 bt156.1 true x154000 x154001 x154002)))) else (bureaulaw12_MoveFinds.j2 k x0 t155 bt156.1 true x154000 x154001 x154002))) else (some true))))
def bureaulaw12_MoveFinds.j2 : Nat → ByteArray → Int → Int → Bool → Int → Int → Int → Option (Bool)
  | 0, _, _, _, _, _, _, _ => none
  | k + 1, x0, x7, x8, x76, x154000, x154001, x154002 => if x76 = true then (some false) else ((bureauref02_Next.f k x0 (mn x7 x8)).bind fun t163 => (bureaulaw12_MoveFinds.l0 k x0 x7 x8 1 t163 x154000 x154001 x154002))
def bureaulaw12_MoveFinds.l0 : Nat → ByteArray → Int → Int → Int → Int → Int → Int → Int → Option (Bool)
  | 0, _, _, _, _, _, _, _, _ => none
  | k + 1, x0, x7, x8, x13, x14, x154000, x154001, x154002 => if x14 < (mx x7 x8) then ((bureauref02_At.f k x0 x14).bind fun bt164 => (if bt164.1 = (wrap64 (x154001)) then ((bureauref02_Next.f k x0 x14).bind fun t166 => (bureaulaw12_MoveFinds.l0 k x0 x7 x8 (wrap64 (x13 + 1)) t166 x154000 x154001 x154002)) else ((bureauref02_Next.f k x0 x14).bind fun t167 => (bureaulaw12_MoveFinds.l0 k x0 x7 x8 x13 t167 x154000 x154001 x154002)))) else (some (x13 == (mn (mx x154002 1) 999)))
end
def bureaulaw12_MoveFinds.f (k : Nat) (a0 : ByteArray) (a1 : Int) (a2_0 : Int) (a2_1 : Int) (a2_2 : Int) : Option (Bool) := (bureaulaw12_alive.f).bind fun t154 => (if t154 = true then (if (a0.size : Int) > 1024 then (some true) else (if a2_0 = 102 then (bureaulaw12_MoveFinds.j0 k a0 a1 false a2_0 a2_1 a2_2) else (bureaulaw12_MoveFinds.j0 k a0 a1 (a2_0 != 70) a2_0 a2_1 a2_2))) else (some false))
theorem bureaulaw12_MoveFinds.mono_l : ∀ k, (∀ y0 y1 y2 y3 y4 y5, LeO (bureaulaw12_MoveFinds.j0 k y0 y1 y2 y3 y4 y5) (bureaulaw12_MoveFinds.j0 (k + 1) y0 y1 y2 y3 y4 y5)) ∧ (∀ y0 y1 y2 y3 y4, LeO (bureaulaw12_MoveFinds.j1 k y0 y1 y2 y3 y4) (bureaulaw12_MoveFinds.j1 (k + 1) y0 y1 y2 y3 y4)) ∧ (∀ y0 y1 y2 y3 y4 y5 y6, LeO (bureaulaw12_MoveFinds.j2 k y0 y1 y2 y3 y4 y5 y6) (bureaulaw12_MoveFinds.j2 (k + 1) y0 y1 y2 y3 y4 y5 y6)) ∧ (∀ y0 y1 y2 y3 y4 y5 y6 y7, LeO (bureaulaw12_MoveFinds.l0 k y0 y1 y2 y3 y4 y5 y6 y7) (bureaulaw12_MoveFinds.l0 (k + 1) y0 y1 y2 y3 y4 y5 y6 y7))
  | 0 => ⟨fun _ _ _ _ _ _ r h => by simp [bureaulaw12_MoveFinds.j0] at h, fun _ _ _ _ _ r h => by simp [bureaulaw12_MoveFinds.j1] at h, fun _ _ _ _ _ _ _ r h => by simp [bureaulaw12_MoveFinds.j2] at h, fun _ _ _ _ _ _ _ _ r h => by simp [bureaulaw12_MoveFinds.l0] at h⟩
  | k + 1 => by
    obtain ⟨ih0, ih1, ih2, ih3⟩ := bureaulaw12_MoveFinds.mono_l k
    refine ⟨?_, ?_, ?_, ?_⟩
    · intro y0 y1 y2 y3 y4 y5
      unfold bureaulaw12_MoveFinds.j0
      repeat' first
      | (with_reducible exact ih0 _ _ _ _ _ _)
      | (with_reducible exact ih1 _ _ _ _ _)
      | (with_reducible exact ih2 _ _ _ _ _ _ _)
      | (with_reducible exact ih3 _ _ _ _ _ _ _ _)
      | (with_reducible exact bureauref02_Align.mono _ _ _)
      | (with_reducible exact bureauref02_At.mono _ _ _)
      | (with_reducible exact bureauref02_Next.mono _ _ _)
      | (with_reducible exact bureauref06_Of.mono _ _ _)
      | (with_reducible exact LeO.refl _)
      | (with_reducible exact LeO.none _)
      | (with_reducible refine LeO.ite ?_ ?_)
      | (with_reducible refine LeO.bind ?_ (fun _ => ?_))
      | exact ih0 _ _ _ _ _ _
      | exact ih1 _ _ _ _ _
      | exact ih2 _ _ _ _ _ _ _
      | exact ih3 _ _ _ _ _ _ _ _
      | exact bureauref02_Align.mono _ _ _
      | exact bureauref02_At.mono _ _ _
      | exact bureauref02_Next.mono _ _ _
      | exact bureauref06_Of.mono _ _ _
      | exact LeO.none _
      | refine LeO.ite ?_ ?_
      | refine LeO.bind ?_ (fun _ => ?_)
    · intro y0 y1 y2 y3 y4
      unfold bureaulaw12_MoveFinds.j1
      repeat' first
      | (with_reducible exact ih0 _ _ _ _ _ _)
      | (with_reducible exact ih1 _ _ _ _ _)
      | (with_reducible exact ih2 _ _ _ _ _ _ _)
      | (with_reducible exact ih3 _ _ _ _ _ _ _ _)
      | (with_reducible exact bureauref02_Align.mono _ _ _)
      | (with_reducible exact bureauref02_At.mono _ _ _)
      | (with_reducible exact bureauref02_Next.mono _ _ _)
      | (with_reducible exact bureauref06_Of.mono _ _ _)
      | (with_reducible exact LeO.refl _)
      | (with_reducible exact LeO.none _)
      | (with_reducible refine LeO.ite ?_ ?_)
      | (with_reducible refine LeO.bind ?_ (fun _ => ?_))
      | exact ih0 _ _ _ _ _ _
      | exact ih1 _ _ _ _ _
      | exact ih2 _ _ _ _ _ _ _
      | exact ih3 _ _ _ _ _ _ _ _
      | exact bureauref02_Align.mono _ _ _
      | exact bureauref02_At.mono _ _ _
      | exact bureauref02_Next.mono _ _ _
      | exact bureauref06_Of.mono _ _ _
      | exact LeO.none _
      | refine LeO.ite ?_ ?_
      | refine LeO.bind ?_ (fun _ => ?_)
    · intro y0 y1 y2 y3 y4 y5 y6
      unfold bureaulaw12_MoveFinds.j2
      repeat' first
      | (with_reducible exact ih0 _ _ _ _ _ _)
      | (with_reducible exact ih1 _ _ _ _ _)
      | (with_reducible exact ih2 _ _ _ _ _ _ _)
      | (with_reducible exact ih3 _ _ _ _ _ _ _ _)
      | (with_reducible exact bureauref02_Align.mono _ _ _)
      | (with_reducible exact bureauref02_At.mono _ _ _)
      | (with_reducible exact bureauref02_Next.mono _ _ _)
      | (with_reducible exact bureauref06_Of.mono _ _ _)
      | (with_reducible exact LeO.refl _)
      | (with_reducible exact LeO.none _)
      | (with_reducible refine LeO.ite ?_ ?_)
      | (with_reducible refine LeO.bind ?_ (fun _ => ?_))
      | exact ih0 _ _ _ _ _ _
      | exact ih1 _ _ _ _ _
      | exact ih2 _ _ _ _ _ _ _
      | exact ih3 _ _ _ _ _ _ _ _
      | exact bureauref02_Align.mono _ _ _
      | exact bureauref02_At.mono _ _ _
      | exact bureauref02_Next.mono _ _ _
      | exact bureauref06_Of.mono _ _ _
      | exact LeO.none _
      | refine LeO.ite ?_ ?_
      | refine LeO.bind ?_ (fun _ => ?_)
    · intro y0 y1 y2 y3 y4 y5 y6 y7
      unfold bureaulaw12_MoveFinds.l0
      repeat' first
      | (with_reducible exact ih0 _ _ _ _ _ _)
      | (with_reducible exact ih1 _ _ _ _ _)
      | (with_reducible exact ih2 _ _ _ _ _ _ _)
      | (with_reducible exact ih3 _ _ _ _ _ _ _ _)
      | (with_reducible exact bureauref02_Align.mono _ _ _)
      | (with_reducible exact bureauref02_At.mono _ _ _)
      | (with_reducible exact bureauref02_Next.mono _ _ _)
      | (with_reducible exact bureauref06_Of.mono _ _ _)
      | (with_reducible exact LeO.refl _)
      | (with_reducible exact LeO.none _)
      | (with_reducible refine LeO.ite ?_ ?_)
      | (with_reducible refine LeO.bind ?_ (fun _ => ?_))
      | exact ih0 _ _ _ _ _ _
      | exact ih1 _ _ _ _ _
      | exact ih2 _ _ _ _ _ _ _
      | exact ih3 _ _ _ _ _ _ _ _
      | exact bureauref02_Align.mono _ _ _
      | exact bureauref02_At.mono _ _ _
      | exact bureauref02_Next.mono _ _ _
      | exact bureauref06_Of.mono _ _ _
      | exact LeO.none _
      | refine LeO.ite ?_ ?_
      | refine LeO.bind ?_ (fun _ => ?_)
theorem bureaulaw12_MoveFinds.mono : ∀ a0 a1 a2 a3 a4 k, LeO (bureaulaw12_MoveFinds.f k a0 a1 a2 a3 a4) (bureaulaw12_MoveFinds.f (k + 1) a0 a1 a2 a3 a4) := by
  intro a0 a1 a2 a3 a4 k
  obtain ⟨ih0, ih1, ih2, ih3⟩ := bureaulaw12_MoveFinds.mono_l k
  unfold bureaulaw12_MoveFinds.f
  repeat' first
      | (with_reducible exact ih0 _ _ _ _ _ _)
      | (with_reducible exact ih1 _ _ _ _ _)
      | (with_reducible exact ih2 _ _ _ _ _ _ _)
      | (with_reducible exact ih3 _ _ _ _ _ _ _ _)
      | (with_reducible exact bureauref02_Align.mono _ _ _)
      | (with_reducible exact bureauref02_At.mono _ _ _)
      | (with_reducible exact bureauref02_Next.mono _ _ _)
      | (with_reducible exact bureauref06_Of.mono _ _ _)
      | (with_reducible exact LeO.refl _)
      | (with_reducible exact LeO.none _)
      | (with_reducible refine LeO.ite ?_ ?_)
      | (with_reducible refine LeO.bind ?_ (fun _ => ?_))
      | exact ih0 _ _ _ _ _ _
      | exact ih1 _ _ _ _ _
      | exact ih2 _ _ _ _ _ _ _
      | exact ih3 _ _ _ _ _ _ _ _
      | exact bureauref02_Align.mono _ _ _
      | exact bureauref02_At.mono _ _ _
      | exact bureauref02_Next.mono _ _ _
      | exact bureauref06_Of.mono _ _ _
      | exact LeO.none _
      | refine LeO.ite ?_ ?_
      | refine LeO.bind ?_ (fun _ => ?_)
set_option maxHeartbeats 8000000 in
set_option maxRecDepth 100000 in
theorem bureaulaw12_MoveFinds.calls (k : Nat) (a0 : ByteArray) (a1 : Int) (a2_0 : Int) (a2_1 : Int) (a2_2 : Int) (r : Bool) (w : World) (h : bureaulaw12_MoveFinds.f k a0 a1 a2_0 a2_1 a2_2 = some r) (hTabs : Tabs w) :
    Calls Tryd.prog 6 #[.string a0, .int .i64 a1, .agg #[.int .i32 a2_0, .int .i32 a2_1, .int .i64 a2_2]] w fun e w' => e = .returned (.bool r) ∧ Below w.heap.size w w' := by
  have HTABS := Aside0.mk hTabs
  clear hTabs
  have hu23 := Tryd.underlying23
  have HB := Aside0.mk (Below.refl w.heap.size w)
  have H : ((bureaulaw12_alive.f).bind fun t154 => (if t154 = true then (if (a0.size : Int) > 1024 then (some true) else (if a2_0 = 102 then (bureaulaw12_MoveFinds.j0 k a0 a1 false a2_0 a2_1 a2_2) else (bureaulaw12_MoveFinds.j0 k a0 a1 (a2_0 != 70) a2_0 a2_1 a2_2))) else (some false))) = some r := h
  clear h
  replace H := Option.bind_eq_some_iff.mp H
  obtain ⟨t154, A40, H⟩ := H
  replace H : (if t154 = true then (if (a0.size : Int) > 1024 then (some true) else (if a2_0 = 102 then (bureaulaw12_MoveFinds.j0 k a0 a1 false a2_0 a2_1 a2_2) else (bureaulaw12_MoveFinds.j0 k a0 a1 (a2_0 != 70) a2_0 a2_1 a2_2))) else (some false)) = some r := H
  have A4 := Aside0.mk A40
  clear A40
  by_cases c5 : t154 = true
  · subst c5
    have H1 : (if (a0.size : Int) > 1024 then (some true) else (if a2_0 = 102 then (bureaulaw12_MoveFinds.j0 k a0 a1 false a2_0 a2_1 a2_2) else (bureaulaw12_MoveFinds.j0 k a0 a1 (a2_0 != 70) a2_0 a2_1 a2_2))) = some r := by rw [if_pos rfl] at H; exact H
    clear H
    have H := H1
    clear H1
    by_cases c6 : (a0.size : Int) > 1024
    · rw [if_pos c6] at H
      have c6b0 : decide (1024 < (a0.size : Int)) = true := decide_eq_true c6
      have c6b1 : decide (1024 < a0.size) = true := decide_eq_true (by omega)
      clear c6
      obtain rfl := Option.some.inj H
      go_enter Tryd.func6, Tryd.ntmps6
      go_wp2_with (first | ((with_reducible refine gate_dst (N := 5) rfl ?_); refine box_event ?hg (N := 5) ?hd (cs := #[.int .i32 a2_0, .int .i32 a2_1, .int .i64 a2_2]) (t := 23) ?hr ?_; (case hd => rfl); (case hg => rfl); (case hr => first | (go_simp; done) | (go_simp; rfl)); intro gb153 hg w7 hbox hb; have n0_ := Aside0.mk (below_step (by repeat (first | (with_reducible first | exact HB.out | apply below_alloc | apply pw_below_drewN | apply below_drew1) | exact HB.out)) hb); have n1_ := Aside0.mk (hbox); have n2_ := Aside0.mk ((by rw [hg]; exact (below_size (by repeat (first | (with_reducible first | exact HB.out | apply below_alloc | apply pw_below_drewN | apply below_drew1) | exact HB.out))) : w.heap.size ≤ gb153)); have n3_ := Aside0.mk ((by rw [hg]; exact (below_size (by repeat (first | (with_reducible first | exact HB.out | apply below_alloc | apply pw_below_drewN | apply below_drew1) | exact HB.out))) : w.heap.size ≤ gb153)); clear HB; have HB := n0_; have BK153 := n1_; have GW153 := n2_; have GE153 := n3_; clear n0_ n1_ n2_ n3_; clear hb hbox hg) | ((with_reducible refine gate_callee (f := 11) rfl ?_); refine goesL_ (some 17) rfl rfl Tryd.func11 (by kernel_rfl) rfl #[] rfl (by (try simp only [List.map_toArray, List.map_cons, List.map_nil]); first | done | rfl | (simp only [List.length_drop, List.length_take]; rfl)) ?_; (with_reducible refine (bureaulaw12_alive.calls  true _ A4.out ?sideT).mono ?_); (case sideT => first | exact HTABS.out | exact HTABS.out.below (by repeat (first | (with_reducible first | exact HB.out | apply below_alloc | apply pw_below_drewN | apply below_drew1) | refine below_set ?_ (Aside0.out (by assumption)) | exact HB.out)) (Nat.le_refl _) | exact HTABS.out.below (Below.drew (Below.refl _ _)) (Nat.le_refl _)); rintro e w8 ⟨rfl, hb⟩; refine ⟨_, rfl, ?_⟩; have n0_ := Aside0.mk (blk_below (g := gb153) (o := .cells #[.int .i32 a2_0, .int .i32 a2_1, .int .i64 a2_2] 23 (0, 0)) (by (with_reducible repeat (first | refine blk_drewN ?_ _ | refine blk_drew ?_ | refine blk_alloc ?_ _)); exact BK153.out) hb); have n1_ := Aside0.mk (below_step (by repeat (first | (with_reducible first | exact HB.out | apply below_alloc | apply pw_below_drewN | apply below_drew1 | refine below_set ?_ GE153.out) | exact HB.out)) hb); clear BK153; clear HB; have BK153 := n0_; have HB := n1_; clear n0_ n1_; (try clear hb); (try clear hb2); (try clear hk); (try clear hi)))
      go_ret
      exact ⟨by first | rfl | (simp [errW_none, errW_some] <;> rfl) | (simp [*, errW_none, errW_some] <;> rfl), by repeat (first | (with_reducible first | exact HB.out | apply below_alloc | apply pw_below_drewN | apply below_drew1 | refine below_set ?_ GE153.out) | exact HB.out)⟩
    · rw [if_neg c6] at H
      have c6b0 : decide (1024 < (a0.size : Int)) = false := decide_eq_false c6
      have c6b1 : decide (1024 < a0.size) = false := decide_eq_false (by omega)
      clear c6
      have HC9 := Aside0.mk H
      clear H
      go_enter Tryd.func6, Tryd.ntmps6
      go_upto_region 5 with (first | ((with_reducible refine gate_dst (N := 5) rfl ?_); refine box_event ?hg (N := 5) ?hd (cs := #[.int .i32 a2_0, .int .i32 a2_1, .int .i64 a2_2]) (t := 23) ?hr ?_; (case hd => rfl); (case hg => rfl); (case hr => first | (go_simp; done) | (go_simp; rfl)); intro gb153 hg w10 hbox hb; have n0_ := Aside0.mk (below_step (by repeat (first | (with_reducible first | exact HB.out | apply below_alloc | apply pw_below_drewN | apply below_drew1) | exact HB.out)) hb); have n1_ := Aside0.mk (hbox); have n2_ := Aside0.mk ((by rw [hg]; exact (below_size (by repeat (first | (with_reducible first | exact HB.out | apply below_alloc | apply pw_below_drewN | apply below_drew1) | exact HB.out))) : w.heap.size ≤ gb153)); have n3_ := Aside0.mk ((by rw [hg]; exact (below_size (by repeat (first | (with_reducible first | exact HB.out | apply below_alloc | apply pw_below_drewN | apply below_drew1) | exact HB.out))) : w.heap.size ≤ gb153)); clear HB; have HB := n0_; have BK153 := n1_; have GW153 := n2_; have GE153 := n3_; clear n0_ n1_ n2_ n3_; clear hb hbox hg) | ((with_reducible refine gate_callee (f := 11) rfl ?_); refine goesL_ (some 17) rfl rfl Tryd.func11 (by kernel_rfl) rfl #[] rfl (by (try simp only [List.map_toArray, List.map_cons, List.map_nil]); first | done | rfl | (simp only [List.length_drop, List.length_take]; rfl)) ?_; (with_reducible refine (bureaulaw12_alive.calls  true _ A4.out ?sideT).mono ?_); (case sideT => first | exact HTABS.out | exact HTABS.out.below (by repeat (first | (with_reducible first | exact HB.out | apply below_alloc | apply pw_below_drewN | apply below_drew1) | refine below_set ?_ (Aside0.out (by assumption)) | exact HB.out)) (Nat.le_refl _) | exact HTABS.out.below (Below.drew (Below.refl _ _)) (Nat.le_refl _)); rintro e w11 ⟨rfl, hb⟩; refine ⟨_, rfl, ?_⟩; have n0_ := Aside0.mk (blk_below (g := gb153) (o := .cells #[.int .i32 a2_0, .int .i32 a2_1, .int .i64 a2_2] 23 (0, 0)) (by (with_reducible repeat (first | refine blk_drewN ?_ _ | refine blk_drew ?_ | refine blk_alloc ?_ _)); exact BK153.out) hb); have n1_ := Aside0.mk (below_step (by repeat (first | (with_reducible first | exact HB.out | apply below_alloc | apply pw_below_drewN | apply below_drew1 | refine below_set ?_ GE153.out) | exact HB.out)) hb); clear BK153; clear HB; have BK153 := n0_; have HB := n1_; clear n0_ n1_; (try clear hb); (try clear hb2); (try clear hk); (try clear hi)))
      (try simp only [Act.put, List.setIfInBounds_toArray, List.set_cons_zero, List.set_cons_succ])
      go_cut [29] (fun v29 wc => ∃ (kq : Nat) (x29_8 : Bool), v29 = .bool x29_8 ∧ Aside0 (bureaulaw12_MoveFinds.j0 kq a0 a1 x29_8 a2_0 a2_1 a2_2 = some r) ∧ Aside0 (kq ≤ k) ∧ Aside0 (wc.heap[gb153]? = some (.cells #[.int .i32 a2_0, .int .i32 a2_1, .int .i64 a2_2] 23 (0, 0))) ∧ Aside0 (Below w.heap.size w wc))
      case first =>
        have H := HC9.out
        clear HC9
        by_cases c12 : a2_0 = 102
        · rw [if_pos c12] at H
          have c12b0 : (a2_0 == 102) = true := beq_iff_eq.mpr c12
          have c12b1 : (a2_0 != 102) = false := bne_eq_false_iff_eq.mpr c12
          clear c12
          (first | rw [c12b0] | (simp only [i64_w, i32_w]; rw [c12b0]) | skip)
          have H' := Aside0.mk H
          clear H
          have hcz13_0 : w11.cell? ⟨gb153, 0, none⟩ = some (.int .i32 a2_0) := (blk_cell BK153.out 0).trans rfl
          have hcz13_1 : w11.cell? ⟨gb153, 1, none⟩ = some (.int .i32 a2_1) := (blk_cell BK153.out 1).trans rfl
          have hcz13_2 : w11.cell? ⟨gb153, 2, none⟩ = some (.int .i64 a2_2) := (blk_cell BK153.out 2).trans rfl
          have hfz13_0 := blk_frozen BK153.out 0
          have hfz13_1 := blk_frozen BK153.out 1
          have hfz13_2 := blk_frozen BK153.out 2
          go_wp2
          go_meet
          case rel => exact ⟨_, (false), (by first | rfl | (simp; done) | (simp [*]; done)), H', ⟨by first | omega | exact Nat.le_refl _⟩, ⟨by (with_reducible repeat (first | refine blk_drewN ?_ _ | refine blk_drew ?_ | refine blk_alloc ?_ _)); exact BK153.out⟩, ⟨by repeat (first | (with_reducible first | exact HB.out | apply below_alloc | apply pw_below_drewN | apply below_drew1 | refine below_set ?_ GE153.out) | exact HB.out)⟩⟩
        · rw [if_neg c12] at H
          have c12b0 : (a2_0 == 102) = false := beq_eq_false_iff_ne.mpr c12
          have c12b1 : (a2_0 != 102) = true := bne_iff_ne.mpr c12
          (first | rw [c12b0] | (simp only [i64_w, i32_w]; rw [c12b0]) | skip)
          have H' := Aside0.mk H
          clear H
          have hcz14_0 : w11.cell? ⟨gb153, 0, none⟩ = some (.int .i32 a2_0) := (blk_cell BK153.out 0).trans rfl
          have hcz14_1 : w11.cell? ⟨gb153, 1, none⟩ = some (.int .i32 a2_1) := (blk_cell BK153.out 1).trans rfl
          have hcz14_2 : w11.cell? ⟨gb153, 2, none⟩ = some (.int .i64 a2_2) := (blk_cell BK153.out 2).trans rfl
          have hfz14_0 := blk_frozen BK153.out 0
          have hfz14_1 := blk_frozen BK153.out 1
          have hfz14_2 := blk_frozen BK153.out 2
          go_wp2
          go_meet
          case rel => exact ⟨_, ((a2_0 != 70)), (by first | rfl | (simp; done) | (simp [*]; done)), H', ⟨by first | omega | exact Nat.le_refl _⟩, ⟨by (with_reducible repeat (first | refine blk_drewN ?_ _ | refine blk_drew ?_ | refine blk_alloc ?_ _)); exact BK153.out⟩, ⟨by repeat (first | (with_reducible first | exact HB.out | apply below_alloc | apply pw_below_drewN | apply below_drew1 | refine below_set ?_ GE153.out) | exact HB.out)⟩⟩
      case rest =>
        clear HC9
        try clear c1
        try clear p2
        try clear c5
        try clear c6
        try clear c6b0
        try clear c6b1
        try clear c11
        try clear c12
        try clear c12b0
        try clear c12b1
        try clear hcz13_0
        try clear hcz13_1
        try clear hcz13_2
        try clear hcz14_0
        try clear hcz14_1
        try clear hcz14_2
        try clear hfz13_0
        try clear hfz13_1
        try clear hfz13_2
        try clear hfz14_0
        try clear hfz14_1
        try clear hfz14_2
        obtain ⟨kq, x29_8, rfl, HA, HJ8, BK153, HB⟩ := hcut
        cases kq with
        | zero => exact absurd HA.out (by simp [bureaulaw12_MoveFinds.j0])
        | succ kj8 =>
          have H := HA.out
          clear HA
          simp only [bureaulaw12_MoveFinds.j0] at H
          have HC15 := Aside0.mk H
          clear H
          go_upto_if 29 with (fail)
          go_cut [] (fun wc => ∃ (kq : Nat) (x154000_14 : Int), Aside0 (bureaulaw12_MoveFinds.j1 kq a0 a1 x154000_14 a2_1 a2_2 = some r) ∧ Aside0 (kq ≤ kj8) ∧ Aside0 (wc.heap[gb153]? = some (.cells #[.int .i32 x154000_14, .int .i32 a2_1, .int .i64 a2_2] 23 (0, 0))) ∧ Aside0 (Below w.heap.size w wc))
          case first =>
            have H := HC15.out
            clear HC15
            by_cases c16 : x29_8 = true
            · subst c16
              have H1 : (bureaulaw12_MoveFinds.j1 kj8 a0 a1 102 a2_1 a2_2) = some r := by rw [if_pos rfl] at H; exact H
              clear H
              have H := H1
              clear H1
              have H' := Aside0.mk H
              clear H
              have hcz17_0 : wc.cell? ⟨gb153, 0, none⟩ = some (.int .i32 a2_0) := (blk_cell BK153.out 0).trans rfl
              have hcz17_1 : wc.cell? ⟨gb153, 1, none⟩ = some (.int .i32 a2_1) := (blk_cell BK153.out 1).trans rfl
              have hcz17_2 : wc.cell? ⟨gb153, 2, none⟩ = some (.int .i64 a2_2) := (blk_cell BK153.out 2).trans rfl
              have hfz17_0 := blk_frozen BK153.out 0
              have hfz17_1 := blk_frozen BK153.out 1
              have hfz17_2 := blk_frozen BK153.out 2
              go_wp2
              go_meet
              case rel => exact ⟨_, (102), H', ⟨by have := HJ8.out; first | omega | exact Nat.le_refl _⟩, ⟨by (with_reducible repeat (first | refine blk_drewN ?_ _ | refine blk_drew ?_ | refine blk_alloc ?_ _)); refine blk_put (cs := #[.int .i32 a2_0, .int .i32 a2_1, .int .i64 a2_2]) ?_ 0 _ rfl; (with_reducible repeat (first | refine blk_drewN ?_ _ | refine blk_drew ?_ | refine blk_alloc ?_ _)); exact BK153.out⟩, ⟨by repeat (first | (with_reducible first | exact HB.out | apply below_alloc | apply pw_below_drewN | apply below_drew1 | refine below_set ?_ GE153.out) | exact HB.out)⟩⟩
            · replace c16 := Bool.eq_false_iff.mpr c16
              subst c16
              have H1 : (bureaulaw12_MoveFinds.j1 kj8 a0 a1 a2_0 a2_1 a2_2) = some r := by rw [if_neg (show ¬ (false = true) by decide)] at H; exact H
              clear H
              have H := H1
              clear H1
              have H' := Aside0.mk H
              clear H
              go_wp2
              go_meet
              case rel => exact ⟨_, (a2_0), H', ⟨by have := HJ8.out; first | omega | exact Nat.le_refl _⟩, ⟨by (with_reducible repeat (first | refine blk_drewN ?_ _ | refine blk_drew ?_ | refine blk_alloc ?_ _)); exact BK153.out⟩, ⟨by repeat (first | (with_reducible first | exact HB.out | apply below_alloc | apply pw_below_drewN | apply below_drew1 | refine below_set ?_ GE153.out) | exact HB.out)⟩⟩
          case rest =>
            clear HC15
            try clear c1
            try clear p2
            try clear c5
            try clear c6
            try clear c6b0
            try clear c6b1
            try clear c11
            try clear c12
            try clear c12b0
            try clear c12b1
            try clear c16
            try clear hcz13_0
            try clear hcz13_1
            try clear hcz13_2
            try clear hcz14_0
            try clear hcz14_1
            try clear hcz14_2
            try clear hcz17_0
            try clear hcz17_1
            try clear hcz17_2
            try clear hfz13_0
            try clear hfz13_1
            try clear hfz13_2
            try clear hfz14_0
            try clear hfz14_1
            try clear hfz14_2
            try clear hfz17_0
            try clear hfz17_1
            try clear hfz17_2
            try clear p2
            obtain ⟨kq, x154000_14, HA, HJ14, BK153, HB⟩ := hcut
            cases kq with
            | zero => exact absurd HA.out (by simp [bureaulaw12_MoveFinds.j1])
            | succ kj14 =>
              have H := HA.out
              clear HA
              simp only [bureaulaw12_MoveFinds.j1] at H
              replace H := Option.bind_eq_some_iff.mp H
              obtain ⟨t155, A180, H⟩ := H
              replace H : ((move_To.f a0 a1 x154000_14 a2_1 a2_2).bind fun bt156 => ((bureauref02_At.f kj14 a0 bt156.1).bind fun bt159 => (if bt156.2.2 = true then (if bt159.2 = 0 then (bureaulaw12_MoveFinds.j2 kj14 a0 t155 bt156.1 true x154000_14 a2_1 a2_2) else (if bt159.1 = (wrap64 (a2_1)) then ((bureauref06_Of.f kj14 a0 bt156.1).bind fun t161 => ((bureauref06_Of.f kj14 a0 t155).bind fun t162 => (if t161 = t162 then (if bt156.1 > t155 then (bureaulaw12_MoveFinds.j2 kj14 a0 t155 bt156.1 (!(x154000_14 == 102)) x154000_14 a2_1 a2_2) else (bureaulaw12_MoveFinds.j2 kj14 a0 t155 bt156.1 (x154000_14 == 102) x154000_14 a2_1 a2_2)) else (bureaulaw12_MoveFinds.j2 kj14 a0 t155 bt156.1 true x154000_14 a2_1 a2_2)))) else (bureaulaw12_MoveFinds.j2 kj14 a0 t155 bt156.1 true x154000_14 a2_1 a2_2))) else (some true)))) = some r := H
              have A18 := Aside0.mk A180
              clear A180
              replace H := Option.bind_eq_some_iff.mp H
              obtain ⟨⟨t156, t157, t158⟩, A190, H⟩ := H
              replace H : ((bureauref02_At.f kj14 a0 t156).bind fun bt159 => (if t158 = true then (if bt159.2 = 0 then (bureaulaw12_MoveFinds.j2 kj14 a0 t155 t156 true x154000_14 a2_1 a2_2) else (if bt159.1 = (wrap64 (a2_1)) then ((bureauref06_Of.f kj14 a0 t156).bind fun t161 => ((bureauref06_Of.f kj14 a0 t155).bind fun t162 => (if t161 = t162 then (if t156 > t155 then (bureaulaw12_MoveFinds.j2 kj14 a0 t155 t156 (!(x154000_14 == 102)) x154000_14 a2_1 a2_2) else (bureaulaw12_MoveFinds.j2 kj14 a0 t155 t156 (x154000_14 == 102) x154000_14 a2_1 a2_2)) else (bureaulaw12_MoveFinds.j2 kj14 a0 t155 t156 true x154000_14 a2_1 a2_2)))) else (bureaulaw12_MoveFinds.j2 kj14 a0 t155 t156 true x154000_14 a2_1 a2_2))) else (some true))) = some r := H
              have A19 := Aside0.mk A190
              clear A190
              replace H := Option.bind_eq_some_iff.mp H
              obtain ⟨⟨t159, t160⟩, A200, H⟩ := H
              replace H : (if t158 = true then (if t160 = 0 then (bureaulaw12_MoveFinds.j2 kj14 a0 t155 t156 true x154000_14 a2_1 a2_2) else (if t159 = (wrap64 (a2_1)) then ((bureauref06_Of.f kj14 a0 t156).bind fun t161 => ((bureauref06_Of.f kj14 a0 t155).bind fun t162 => (if t161 = t162 then (if t156 > t155 then (bureaulaw12_MoveFinds.j2 kj14 a0 t155 t156 (!(x154000_14 == 102)) x154000_14 a2_1 a2_2) else (bureaulaw12_MoveFinds.j2 kj14 a0 t155 t156 (x154000_14 == 102) x154000_14 a2_1 a2_2)) else (bureaulaw12_MoveFinds.j2 kj14 a0 t155 t156 true x154000_14 a2_1 a2_2)))) else (bureaulaw12_MoveFinds.j2 kj14 a0 t155 t156 true x154000_14 a2_1 a2_2))) else (some true)) = some r := H
              have A20 := Aside0.mk A200
              clear A200
              by_cases c21 : t158 = true
              · subst c21
                have H1 : (if t160 = 0 then (bureaulaw12_MoveFinds.j2 kj14 a0 t155 t156 true x154000_14 a2_1 a2_2) else (if t159 = (wrap64 (a2_1)) then ((bureauref06_Of.f kj14 a0 t156).bind fun t161 => ((bureauref06_Of.f kj14 a0 t155).bind fun t162 => (if t161 = t162 then (if t156 > t155 then (bureaulaw12_MoveFinds.j2 kj14 a0 t155 t156 (!(x154000_14 == 102)) x154000_14 a2_1 a2_2) else (bureaulaw12_MoveFinds.j2 kj14 a0 t155 t156 (x154000_14 == 102) x154000_14 a2_1 a2_2)) else (bureaulaw12_MoveFinds.j2 kj14 a0 t155 t156 true x154000_14 a2_1 a2_2)))) else (bureaulaw12_MoveFinds.j2 kj14 a0 t155 t156 true x154000_14 a2_1 a2_2))) = some r := by rw [if_pos rfl] at H; exact H
                clear H
                have H := H1
                clear H1
                have HC22 := Aside0.mk H
                clear H
                go_upto_region 12 with (first | ((with_reducible refine gate_callee (f := 14) rfl ?_); refine goesL_ (some 33) rfl rfl Tryd.func14 (by kernel_rfl) rfl #[.string a0, .int .i64 a1] rfl (by (try simp only [List.map_toArray, List.map_cons, List.map_nil]); first | done | rfl | (simp only [List.length_drop, List.length_take]; rfl)) ?_; (with_reducible refine (bureauref02_Align.calls kj14 a0 a1 t155 _ A18.out ?sideT).mono ?_); (case sideT => first | exact HTABS.out | exact HTABS.out.below (by repeat (first | (with_reducible first | exact HB.out | apply below_alloc | apply pw_below_drewN | apply below_drew1) | refine below_set ?_ (Aside0.out (by assumption)) | exact HB.out)) (Nat.le_refl _) | exact HTABS.out.below (Below.drew (Below.refl _ _)) (Nat.le_refl _)); rintro e w23 ⟨rfl, hb⟩; refine ⟨_, rfl, ?_⟩; have n0_ := Aside0.mk (blk_below (g := gb153) (o := .cells #[.int .i32 x154000_14, .int .i32 a2_1, .int .i64 a2_2] 23 (0, 0)) (by (with_reducible repeat (first | refine blk_drewN ?_ _ | refine blk_drew ?_ | refine blk_alloc ?_ _)); exact BK153.out) hb); have n1_ := Aside0.mk (below_step (by repeat (first | (with_reducible first | exact HB.out | apply below_alloc | apply pw_below_drewN | apply below_drew1 | refine below_set ?_ GE153.out) | exact HB.out)) hb); clear BK153; clear HB; have BK153 := n0_; have HB := n1_; clear n0_ n1_; (try clear hb); (try clear hb2); (try clear hk); (try clear hi); have hcz24_0 : w23.cell? ⟨gb153, 0, none⟩ = some (.int .i32 x154000_14) := (blk_cell BK153.out 0).trans rfl; have hcz24_1 : w23.cell? ⟨gb153, 1, none⟩ = some (.int .i32 a2_1) := (blk_cell BK153.out 1).trans rfl; have hcz24_2 : w23.cell? ⟨gb153, 2, none⟩ = some (.int .i64 a2_2) := (blk_cell BK153.out 2).trans rfl; have hfz24_0 := blk_frozen BK153.out 0; have hfz24_1 := blk_frozen BK153.out 1; have hfz24_2 := blk_frozen BK153.out 2) | ((with_reducible refine gate_callee (f := 12) rfl ?_); refine goesL_ (some 38) rfl rfl Tryd.func12 (by kernel_rfl) rfl #[.string a0, .int .i64 a1, .agg #[.int .i32 x154000_14, .int .i32 a2_1, .int .i64 a2_2]] rfl (by (try simp only [List.map_toArray, List.map_cons, List.map_nil]); first | done | rfl | (simp only [List.length_drop, List.length_take]; rfl)) ?_; (with_reducible refine (move_To.calls a0 a1 x154000_14 a2_1 a2_2 t156 t157 true _ A19.out ?sideT).mono ?_); (case sideT => first | exact HTABS.out | exact HTABS.out.below (by repeat (first | (with_reducible first | exact HB.out | apply below_alloc | apply pw_below_drewN | apply below_drew1) | refine below_set ?_ (Aside0.out (by assumption)) | exact HB.out)) (Nat.le_refl _) | exact HTABS.out.below (Below.drew (Below.refl _ _)) (Nat.le_refl _)); rintro e w25 ⟨rfl, hb⟩; refine ⟨_, rfl, ?_⟩; have n0_ := Aside0.mk (blk_below (g := gb153) (o := .cells #[.int .i32 x154000_14, .int .i32 a2_1, .int .i64 a2_2] 23 (0, 0)) (by (with_reducible repeat (first | refine blk_drewN ?_ _ | refine blk_drew ?_ | refine blk_alloc ?_ _)); exact BK153.out) hb); have n1_ := Aside0.mk (below_step (by repeat (first | (with_reducible first | exact HB.out | apply below_alloc | apply pw_below_drewN | apply below_drew1 | refine below_set ?_ GE153.out) | exact HB.out)) hb); clear BK153; clear HB; have BK153 := n0_; have HB := n1_; clear n0_ n1_; (try clear hb); (try clear hb2); (try clear hk); (try clear hi)) | ((with_reducible refine gate_callee (f := 15) rfl ?_); refine goesL_ (some 45) rfl rfl Tryd.func15 (by kernel_rfl) rfl #[.string a0, .int .i64 t156] rfl (by (try simp only [List.map_toArray, List.map_cons, List.map_nil]); first | done | rfl | (simp only [List.length_drop, List.length_take]; rfl)) ?_; (with_reducible refine (bureauref02_At.calls kj14 a0 t156 t159 t160 _ A20.out ?sideT).mono ?_); (case sideT => first | exact HTABS.out | exact HTABS.out.below (by repeat (first | (with_reducible first | exact HB.out | apply below_alloc | apply pw_below_drewN | apply below_drew1) | refine below_set ?_ (Aside0.out (by assumption)) | exact HB.out)) (Nat.le_refl _) | exact HTABS.out.below (Below.drew (Below.refl _ _)) (Nat.le_refl _)); rintro e w26 ⟨rfl, hb⟩; refine ⟨_, rfl, ?_⟩; have n0_ := Aside0.mk (blk_below (g := gb153) (o := .cells #[.int .i32 x154000_14, .int .i32 a2_1, .int .i64 a2_2] 23 (0, 0)) (by (with_reducible repeat (first | refine blk_drewN ?_ _ | refine blk_drew ?_ | refine blk_alloc ?_ _)); exact BK153.out) hb); have n1_ := Aside0.mk (below_step (by repeat (first | (with_reducible first | exact HB.out | apply below_alloc | apply pw_below_drewN | apply below_drew1 | refine below_set ?_ GE153.out) | exact HB.out)) hb); clear BK153; clear HB; have BK153 := n0_; have HB := n1_; clear n0_ n1_; (try clear hb); (try clear hb2); (try clear hk); (try clear hi)))
                (try simp only [Act.put, List.setIfInBounds_toArray, List.set_cons_zero, List.set_cons_succ])
                go_cut [76] (fun v76 wc => ∃ (kq : Nat) (x76_21 : Bool), v76 = .bool x76_21 ∧ Aside0 (bureaulaw12_MoveFinds.j2 kq a0 t155 t156 x76_21 x154000_14 a2_1 a2_2 = some r) ∧ Aside0 (kq ≤ kj14) ∧ Aside0 (wc.heap[gb153]? = some (.cells #[.int .i32 x154000_14, .int .i32 a2_1, .int .i64 a2_2] 23 (0, 0))) ∧ Aside0 (Below w.heap.size w wc))
                case first =>
                  have H := HC22.out
                  clear HC22
                  by_cases c27 : t160 = 0
                  · rw [if_pos c27] at H
                    have c27b0 : (t160 == 0) = true := beq_iff_eq.mpr c27
                    have c27b1 : (t160 != 0) = false := bne_eq_false_iff_eq.mpr c27
                    clear c27
                    (first | rw [c27b0] | (simp only [i64_w, i32_w]; rw [c27b0]) | skip)
                    have H' := Aside0.mk H
                    clear H
                    go_wp2
                    go_meet
                    case rel => exact ⟨_, (true), (by first | rfl | (simp; done) | (simp [*]; done)), H', ⟨by have := HJ8.out; have := HJ14.out; first | omega | exact Nat.le_refl _⟩, ⟨by (with_reducible repeat (first | refine blk_drewN ?_ _ | refine blk_drew ?_ | refine blk_alloc ?_ _)); exact BK153.out⟩, ⟨by repeat (first | (with_reducible first | exact HB.out | apply below_alloc | apply pw_below_drewN | apply below_drew1 | refine below_set ?_ GE153.out) | exact HB.out)⟩⟩
                  · rw [if_neg c27] at H
                    have c27b0 : (t160 == 0) = false := beq_eq_false_iff_ne.mpr c27
                    have c27b1 : (t160 != 0) = true := bne_iff_ne.mpr c27
                    (first | rw [c27b0] | (simp only [i64_w, i32_w]; rw [c27b0]) | skip)
                    by_cases c28 : t159 = (wrap64 (a2_1))
                    · rw [if_pos c28] at H
                      have c28b0 : (t159 == (wrap64 (a2_1))) = true := beq_iff_eq.mpr c28
                      have c28b1 : (t159 != (wrap64 (a2_1))) = false := bne_eq_false_iff_eq.mpr c28
                      clear c28
                      replace H := Option.bind_eq_some_iff.mp H
                      obtain ⟨t161, A290, H⟩ := H
                      replace H : ((bureauref06_Of.f kj14 a0 t155).bind fun t162 => (if t161 = t162 then (if t156 > t155 then (bureaulaw12_MoveFinds.j2 kj14 a0 t155 t156 (!(x154000_14 == 102)) x154000_14 a2_1 a2_2) else (bureaulaw12_MoveFinds.j2 kj14 a0 t155 t156 (x154000_14 == 102) x154000_14 a2_1 a2_2)) else (bureaulaw12_MoveFinds.j2 kj14 a0 t155 t156 true x154000_14 a2_1 a2_2))) = some r := H
                      have A29 := Aside0.mk A290
                      clear A290
                      replace H := Option.bind_eq_some_iff.mp H
                      obtain ⟨t162, A300, H⟩ := H
                      replace H : (if t161 = t162 then (if t156 > t155 then (bureaulaw12_MoveFinds.j2 kj14 a0 t155 t156 (!(x154000_14 == 102)) x154000_14 a2_1 a2_2) else (bureaulaw12_MoveFinds.j2 kj14 a0 t155 t156 (x154000_14 == 102) x154000_14 a2_1 a2_2)) else (bureaulaw12_MoveFinds.j2 kj14 a0 t155 t156 true x154000_14 a2_1 a2_2)) = some r := H
                      have A30 := Aside0.mk A300
                      clear A300
                      by_cases c31 : t161 = t162
                      · rw [if_pos c31] at H
                        have c31b0 : (t161 == t162) = true := beq_iff_eq.mpr c31
                        have c31b1 : (t161 != t162) = false := bne_eq_false_iff_eq.mpr c31
                        clear c31
                        by_cases c32 : t156 > t155
                        · rw [if_pos c32] at H
                          have c32b0 : decide (t155 < t156) = true := decide_eq_true c32
                          clear c32
                          have H' := Aside0.mk H
                          clear H
                          have hcz33_0 : w26.cell? ⟨gb153, 0, none⟩ = some (.int .i32 x154000_14) := (blk_cell BK153.out 0).trans rfl
                          have hcz33_1 : w26.cell? ⟨gb153, 1, none⟩ = some (.int .i32 a2_1) := (blk_cell BK153.out 1).trans rfl
                          have hcz33_2 : w26.cell? ⟨gb153, 2, none⟩ = some (.int .i64 a2_2) := (blk_cell BK153.out 2).trans rfl
                          have hfz33_0 := blk_frozen BK153.out 0
                          have hfz33_1 := blk_frozen BK153.out 1
                          have hfz33_2 := blk_frozen BK153.out 2
                          go_wp2_with (first | (go_at_call 16; (with_reducible refine (bureauref06_Of.calls kj14 a0 t156 t161 _ A29.out ?sideT).mono ?_); (case sideT => first | exact HTABS.out | exact HTABS.out.below (by repeat (first | (with_reducible first | exact HB.out | apply below_alloc | apply pw_below_drewN | apply below_drew1) | refine below_set ?_ (Aside0.out (by assumption)) | exact HB.out)) (Nat.le_refl _) | exact HTABS.out.below (Below.drew (Below.refl _ _)) (Nat.le_refl _)); rintro e w' ⟨rfl, ⟨nd, rfl⟩⟩) | (go_at_call 16; (with_reducible refine (bureauref06_Of.calls kj14 a0 t155 t162 _ A30.out ?sideT).mono ?_); (case sideT => first | exact HTABS.out | exact HTABS.out.below (by repeat (first | (with_reducible first | exact HB.out | apply below_alloc | apply pw_below_drewN | apply below_drew1) | refine below_set ?_ (Aside0.out (by assumption)) | exact HB.out)) (Nat.le_refl _) | exact HTABS.out.below (Below.drew (Below.refl _ _)) (Nat.le_refl _)); rintro e w' ⟨rfl, ⟨nd, rfl⟩⟩))
                          go_meet
                          case rel => exact ⟨_, (!(x154000_14 == 102)), (by first | rfl | (simp; done) | (simp [*]; done)), H', ⟨by have := HJ8.out; have := HJ14.out; first | omega | exact Nat.le_refl _⟩, ⟨by (with_reducible repeat (first | refine blk_drewN ?_ _ | refine blk_drew ?_ | refine blk_alloc ?_ _)); exact BK153.out⟩, ⟨by repeat (first | (with_reducible first | exact HB.out | apply below_alloc | apply pw_below_drewN | apply below_drew1 | refine below_set ?_ GE153.out) | exact HB.out)⟩⟩
                        · rw [if_neg c32] at H
                          have c32b0 : decide (t155 < t156) = false := decide_eq_false c32
                          clear c32
                          have H' := Aside0.mk H
                          clear H
                          have hcz34_0 : w26.cell? ⟨gb153, 0, none⟩ = some (.int .i32 x154000_14) := (blk_cell BK153.out 0).trans rfl
                          have hcz34_1 : w26.cell? ⟨gb153, 1, none⟩ = some (.int .i32 a2_1) := (blk_cell BK153.out 1).trans rfl
                          have hcz34_2 : w26.cell? ⟨gb153, 2, none⟩ = some (.int .i64 a2_2) := (blk_cell BK153.out 2).trans rfl
                          have hfz34_0 := blk_frozen BK153.out 0
                          have hfz34_1 := blk_frozen BK153.out 1
                          have hfz34_2 := blk_frozen BK153.out 2
                          go_wp2_with (first | (go_at_call 16; (with_reducible refine (bureauref06_Of.calls kj14 a0 t156 t161 _ A29.out ?sideT).mono ?_); (case sideT => first | exact HTABS.out | exact HTABS.out.below (by repeat (first | (with_reducible first | exact HB.out | apply below_alloc | apply pw_below_drewN | apply below_drew1) | refine below_set ?_ (Aside0.out (by assumption)) | exact HB.out)) (Nat.le_refl _) | exact HTABS.out.below (Below.drew (Below.refl _ _)) (Nat.le_refl _)); rintro e w' ⟨rfl, ⟨nd, rfl⟩⟩) | (go_at_call 16; (with_reducible refine (bureauref06_Of.calls kj14 a0 t155 t162 _ A30.out ?sideT).mono ?_); (case sideT => first | exact HTABS.out | exact HTABS.out.below (by repeat (first | (with_reducible first | exact HB.out | apply below_alloc | apply pw_below_drewN | apply below_drew1) | refine below_set ?_ (Aside0.out (by assumption)) | exact HB.out)) (Nat.le_refl _) | exact HTABS.out.below (Below.drew (Below.refl _ _)) (Nat.le_refl _)); rintro e w' ⟨rfl, ⟨nd, rfl⟩⟩))
                          go_meet
                          case rel => exact ⟨_, ((x154000_14 == 102)), (by first | rfl | (simp; done) | (simp [*]; done)), H', ⟨by have := HJ8.out; have := HJ14.out; first | omega | exact Nat.le_refl _⟩, ⟨by (with_reducible repeat (first | refine blk_drewN ?_ _ | refine blk_drew ?_ | refine blk_alloc ?_ _)); exact BK153.out⟩, ⟨by repeat (first | (with_reducible first | exact HB.out | apply below_alloc | apply pw_below_drewN | apply below_drew1 | refine below_set ?_ GE153.out) | exact HB.out)⟩⟩
                      · rw [if_neg c31] at H
                        have c31b0 : (t161 == t162) = false := beq_eq_false_iff_ne.mpr c31
                        have c31b1 : (t161 != t162) = true := bne_iff_ne.mpr c31
                        have H' := Aside0.mk H
                        clear H
                        have hcz35_0 : w26.cell? ⟨gb153, 0, none⟩ = some (.int .i32 x154000_14) := (blk_cell BK153.out 0).trans rfl
                        have hcz35_1 : w26.cell? ⟨gb153, 1, none⟩ = some (.int .i32 a2_1) := (blk_cell BK153.out 1).trans rfl
                        have hcz35_2 : w26.cell? ⟨gb153, 2, none⟩ = some (.int .i64 a2_2) := (blk_cell BK153.out 2).trans rfl
                        have hfz35_0 := blk_frozen BK153.out 0
                        have hfz35_1 := blk_frozen BK153.out 1
                        have hfz35_2 := blk_frozen BK153.out 2
                        go_wp2_with (first | (go_at_call 16; (with_reducible refine (bureauref06_Of.calls kj14 a0 t156 t161 _ A29.out ?sideT).mono ?_); (case sideT => first | exact HTABS.out | exact HTABS.out.below (by repeat (first | (with_reducible first | exact HB.out | apply below_alloc | apply pw_below_drewN | apply below_drew1) | refine below_set ?_ (Aside0.out (by assumption)) | exact HB.out)) (Nat.le_refl _) | exact HTABS.out.below (Below.drew (Below.refl _ _)) (Nat.le_refl _)); rintro e w' ⟨rfl, ⟨nd, rfl⟩⟩) | (go_at_call 16; (with_reducible refine (bureauref06_Of.calls kj14 a0 t155 t162 _ A30.out ?sideT).mono ?_); (case sideT => first | exact HTABS.out | exact HTABS.out.below (by repeat (first | (with_reducible first | exact HB.out | apply below_alloc | apply pw_below_drewN | apply below_drew1) | refine below_set ?_ (Aside0.out (by assumption)) | exact HB.out)) (Nat.le_refl _) | exact HTABS.out.below (Below.drew (Below.refl _ _)) (Nat.le_refl _)); rintro e w' ⟨rfl, ⟨nd, rfl⟩⟩))
                        go_meet
                        case rel => exact ⟨_, (true), (by first | rfl | (simp; done) | (simp [*]; done)), H', ⟨by have := HJ8.out; have := HJ14.out; first | omega | exact Nat.le_refl _⟩, ⟨by (with_reducible repeat (first | refine blk_drewN ?_ _ | refine blk_drew ?_ | refine blk_alloc ?_ _)); exact BK153.out⟩, ⟨by repeat (first | (with_reducible first | exact HB.out | apply below_alloc | apply pw_below_drewN | apply below_drew1 | refine below_set ?_ GE153.out) | exact HB.out)⟩⟩
                    · rw [if_neg c28] at H
                      have c28b0 : (t159 == (wrap64 (a2_1))) = false := beq_eq_false_iff_ne.mpr c28
                      have c28b1 : (t159 != (wrap64 (a2_1))) = true := bne_iff_ne.mpr c28
                      have H' := Aside0.mk H
                      clear H
                      have hcz36_0 : w26.cell? ⟨gb153, 0, none⟩ = some (.int .i32 x154000_14) := (blk_cell BK153.out 0).trans rfl
                      have hcz36_1 : w26.cell? ⟨gb153, 1, none⟩ = some (.int .i32 a2_1) := (blk_cell BK153.out 1).trans rfl
                      have hcz36_2 : w26.cell? ⟨gb153, 2, none⟩ = some (.int .i64 a2_2) := (blk_cell BK153.out 2).trans rfl
                      have hfz36_0 := blk_frozen BK153.out 0
                      have hfz36_1 := blk_frozen BK153.out 1
                      have hfz36_2 := blk_frozen BK153.out 2
                      go_wp2
                      go_meet
                      case rel => exact ⟨_, (true), (by first | rfl | (simp; done) | (simp [*]; done)), H', ⟨by have := HJ8.out; have := HJ14.out; first | omega | exact Nat.le_refl _⟩, ⟨by (with_reducible repeat (first | refine blk_drewN ?_ _ | refine blk_drew ?_ | refine blk_alloc ?_ _)); exact BK153.out⟩, ⟨by repeat (first | (with_reducible first | exact HB.out | apply below_alloc | apply pw_below_drewN | apply below_drew1 | refine below_set ?_ GE153.out) | exact HB.out)⟩⟩
                case rest =>
                  clear HC22
                  try clear c1
                  try clear c2
                  try clear p2
                  try clear c3
                  try clear c5
                  try clear c6
                  try clear c6b0
                  try clear c6b1
                  try clear p6
                  try clear c11
                  try clear c12
                  try clear c12b0
                  try clear c12b1
                  try clear c14
                  try clear c15
                  try clear c16
                  try clear c21
                  try clear c27
                  try clear c27b0
                  try clear c27b1
                  try clear c28
                  try clear c28b0
                  try clear c28b1
                  try clear c31
                  try clear c31b0
                  try clear c31b1
                  try clear c32
                  try clear c32b0
                  try clear hcz13_0
                  try clear hcz13_1
                  try clear hcz13_2
                  try clear hcz14_0
                  try clear hcz14_1
                  try clear hcz14_2
                  try clear hcz17_0
                  try clear hcz17_1
                  try clear hcz17_2
                  try clear hcz24_0
                  try clear hcz24_1
                  try clear hcz24_2
                  try clear hcz33_0
                  try clear hcz33_1
                  try clear hcz33_2
                  try clear hcz34_0
                  try clear hcz34_1
                  try clear hcz34_2
                  try clear hcz35_0
                  try clear hcz35_1
                  try clear hcz35_2
                  try clear hcz36_0
                  try clear hcz36_1
                  try clear hcz36_2
                  try clear hfz13_0
                  try clear hfz13_1
                  try clear hfz13_2
                  try clear hfz14_0
                  try clear hfz14_1
                  try clear hfz14_2
                  try clear hfz17_0
                  try clear hfz17_1
                  try clear hfz17_2
                  try clear hfz24_0
                  try clear hfz24_1
                  try clear hfz24_2
                  try clear hfz33_0
                  try clear hfz33_1
                  try clear hfz33_2
                  try clear hfz34_0
                  try clear hfz34_1
                  try clear hfz34_2
                  try clear hfz35_0
                  try clear hfz35_1
                  try clear hfz35_2
                  try clear hfz36_0
                  try clear hfz36_1
                  try clear hfz36_2
                  try clear p2
                  obtain ⟨kq, x76_21, rfl, HA, HJ21, BK153, HB⟩ := hcut
                  cases kq with
                  | zero => exact absurd HA.out (by simp [bureaulaw12_MoveFinds.j2])
                  | succ kj21 =>
                    have H := HA.out
                    clear HA
                    simp only [bureaulaw12_MoveFinds.j2] at H
                    by_cases c37 : x76_21 = true
                    · subst c37
                      have H1 : (some false) = some r := by rw [if_pos rfl] at H; exact H
                      clear H
                      have H := H1
                      clear H1
                      obtain rfl := Option.some.inj H
                      go_wp2
                      go_ret
                      exact ⟨by first | rfl | (simp [errW_none, errW_some] <;> rfl) | (simp [*, errW_none, errW_some] <;> rfl), by repeat (first | (with_reducible first | exact HB.out | apply below_alloc | apply pw_below_drewN | apply below_drew1 | refine below_set ?_ GE153.out) | exact HB.out)⟩
                    · replace c37 := Bool.eq_false_iff.mpr c37
                      subst c37
                      have H1 : ((bureauref02_Next.f kj21 a0 (mn t155 t156)).bind fun t163 => (bureaulaw12_MoveFinds.l0 kj21 a0 t155 t156 1 t163 x154000_14 a2_1 a2_2)) = some r := by rw [if_neg (show ¬ (false = true) by decide)] at H; exact H
                      clear H
                      have H := H1
                      clear H1
                      obtain ⟨ji38, hji38⟩ : ∃ j_ : Int, (mn t155 t156) = j_ := ⟨_, rfl⟩
                      replace H : ((bureauref02_Next.f kj21 a0 (ji38)).bind fun t163 => (bureaulaw12_MoveFinds.l0 kj21 a0 t155 t156 1 t163 x154000_14 a2_1 a2_2)) = some r := by first | (rw [hji38] at H; exact H) | (simp only [hji38] at H ⊢; exact H)
                      have hji38_ : (if t156 < t155 then t156 else t155) = ji38 := hji38
                      replace H := Option.bind_eq_some_iff.mp H
                      obtain ⟨t163, A390, H⟩ := H
                      replace H : (bureaulaw12_MoveFinds.l0 kj21 a0 t155 t156 1 t163 x154000_14 a2_1 a2_2) = some r := H
                      have A39 := Aside0.mk A390
                      clear A390
                      have H' := Aside0.mk H
                      clear H
                      go_wp2_with (first | ((with_reducible refine gate_callee (f := 17) rfl ?_); refine goesL_ (some 81) rfl rfl Tryd.func17 (by kernel_rfl) rfl #[.string a0, .int .i64 ji38] rfl (by (try simp only [List.map_toArray, List.map_cons, List.map_nil]); first | done | (simp only [hji38]; rfl) | rfl | (simp only [List.length_drop, List.length_take]; rfl)) ?_; (with_reducible refine (bureauref02_Next.calls kj21 a0 ji38 t163 _ A39.out ?sideT).mono ?_); (case sideT => first | exact HTABS.out | exact HTABS.out.below (by repeat (first | (with_reducible first | exact HB.out | apply below_alloc | apply pw_below_drewN | apply below_drew1) | refine below_set ?_ (Aside0.out (by assumption)) | exact HB.out)) (Nat.le_refl _) | exact HTABS.out.below (Below.drew (Below.refl _ _)) (Nat.le_refl _)); rintro e w40 ⟨rfl, hb⟩; refine ⟨_, rfl, ?_⟩; have n0_ := Aside0.mk (blk_below (g := gb153) (o := .cells #[.int .i32 x154000_14, .int .i32 a2_1, .int .i64 a2_2] 23 (0, 0)) (by (with_reducible repeat (first | refine blk_drewN ?_ _ | refine blk_drew ?_ | refine blk_alloc ?_ _)); exact BK153.out) hb); have n1_ := Aside0.mk (below_step (by repeat (first | (with_reducible first | exact HB.out | apply below_alloc | apply pw_below_drewN | apply below_drew1 | refine below_set ?_ GE153.out) | exact HB.out)) hb); clear BK153; clear HB; have BK153 := n0_; have HB := n1_; clear n0_ n1_; (try clear hb); (try clear hb2); (try clear hk); (try clear hi)))
                      go_loopg [13, 14] kj21 (fun kq v13 v14 w' => ∃ (x13_4 : Int) (x14_4 : Int), v13 = .int .i64 x13_4 ∧ v14 = .int .i64 x14_4 ∧ Aside0 (bureaulaw12_MoveFinds.l0 kq a0 t155 t156 x13_4 x14_4 x154000_14 a2_1 a2_2 = some r) ∧ Aside0 (kq ≤ kj21) ∧ Aside0 (w'.heap[gb153]? = some (.cells #[.int .i32 x154000_14, .int .i32 a2_1, .int .i64 a2_2] 23 (0, 0))) ∧ Aside0 (Below w.heap.size w w'))
                      case atStart => exact ⟨(1), (t163), (by first | rfl | (simp; done) | (simp [*]; done)), (by first | rfl | (simp; done) | (simp [*]; done)), H', ⟨Nat.le_refl _⟩, ⟨by (with_reducible repeat (first | refine blk_drewN ?_ _ | refine blk_drew ?_ | refine blk_alloc ?_ _)); exact BK153.out⟩, ⟨by repeat (first | (with_reducible first | exact HB.out | apply below_alloc | apply pw_below_drewN | apply below_drew1 | refine below_set ?_ GE153.out) | exact HB.out)⟩⟩
                      case round =>
                        clear H'
                        try clear c1
                        try clear c2
                        try clear p2
                        try clear c3
                        try clear c5
                        try clear c6
                        try clear c6b0
                        try clear c6b1
                        try clear p6
                        try clear c11
                        try clear c12
                        try clear c12b0
                        try clear c12b1
                        try clear c14
                        try clear c15
                        try clear c16
                        try clear c17
                        try clear c21
                        try clear c27
                        try clear c27b0
                        try clear c27b1
                        try clear c28
                        try clear c28b0
                        try clear c28b1
                        try clear c31
                        try clear c31b0
                        try clear c31b1
                        try clear c32
                        try clear c32b0
                        try clear c37
                        try clear hcz13_0
                        try clear hcz13_1
                        try clear hcz13_2
                        try clear hcz14_0
                        try clear hcz14_1
                        try clear hcz14_2
                        try clear hcz17_0
                        try clear hcz17_1
                        try clear hcz17_2
                        try clear hcz24_0
                        try clear hcz24_1
                        try clear hcz24_2
                        try clear hcz33_0
                        try clear hcz33_1
                        try clear hcz33_2
                        try clear hcz34_0
                        try clear hcz34_1
                        try clear hcz34_2
                        try clear hcz35_0
                        try clear hcz35_1
                        try clear hcz35_2
                        try clear hcz36_0
                        try clear hcz36_1
                        try clear hcz36_2
                        try clear hfz13_0
                        try clear hfz13_1
                        try clear hfz13_2
                        try clear hfz14_0
                        try clear hfz14_1
                        try clear hfz14_2
                        try clear hfz17_0
                        try clear hfz17_1
                        try clear hfz17_2
                        try clear hfz24_0
                        try clear hfz24_1
                        try clear hfz24_2
                        try clear hfz33_0
                        try clear hfz33_1
                        try clear hfz33_2
                        try clear hfz34_0
                        try clear hfz34_1
                        try clear hfz34_2
                        try clear hfz35_0
                        try clear hfz35_1
                        try clear hfz35_2
                        try clear hfz36_0
                        try clear hfz36_1
                        try clear hfz36_2
                        try clear p2
                        try clear p6
                        obtain ⟨x13_4, x14_4, rfl, rfl, HA, HK4, BK153, HB⟩ := hrel
                        cases gk with
                        | zero => exact absurd HA.out (by simp [bureaulaw12_MoveFinds.l0])
                        | succ k4 =>
                          have H := HA.out
                          clear HA
                          simp only [bureaulaw12_MoveFinds.l0] at H
                          obtain ⟨ji41, hji41⟩ : ∃ j_ : Int, (mx t155 t156) = j_ := ⟨_, rfl⟩
                          replace H : (if x14_4 < (ji41) then ((bureauref02_At.f k4 a0 x14_4).bind fun bt164 => (if bt164.1 = (wrap64 (a2_1)) then ((bureauref02_Next.f k4 a0 x14_4).bind fun t166 => (bureaulaw12_MoveFinds.l0 k4 a0 t155 t156 (wrap64 (x13_4 + 1)) t166 x154000_14 a2_1 a2_2)) else ((bureauref02_Next.f k4 a0 x14_4).bind fun t167 => (bureaulaw12_MoveFinds.l0 k4 a0 t155 t156 x13_4 t167 x154000_14 a2_1 a2_2)))) else (some (x13_4 == (mn (mx a2_2 1) 999)))) = some r := by first | (rw [hji41] at H; exact H) | (simp only [hji41] at H ⊢; exact H)
                          have hji41_ : (if t155 < t156 then t156 else t155) = ji41 := hji41
                          by_cases c42 : x14_4 < (ji41)
                          · rw [if_pos c42] at H
                            have c42b0 : decide (x14_4 < (ji41)) = true := decide_eq_true c42
                            clear c42
                            replace H := Option.bind_eq_some_iff.mp H
                            obtain ⟨⟨t164, t165⟩, A430, H⟩ := H
                            replace H : (if t164 = (wrap64 (a2_1)) then ((bureauref02_Next.f k4 a0 x14_4).bind fun t166 => (bureaulaw12_MoveFinds.l0 k4 a0 t155 t156 (wrap64 (x13_4 + 1)) t166 x154000_14 a2_1 a2_2)) else ((bureauref02_Next.f k4 a0 x14_4).bind fun t167 => (bureaulaw12_MoveFinds.l0 k4 a0 t155 t156 x13_4 t167 x154000_14 a2_1 a2_2))) = some r := H
                            have A43 := Aside0.mk A430
                            clear A430
                            by_cases c44 : t164 = (wrap64 (a2_1))
                            · rw [if_pos c44] at H
                              have c44b0 : (t164 == (wrap64 (a2_1))) = true := beq_iff_eq.mpr c44
                              have c44b1 : (t164 != (wrap64 (a2_1))) = false := bne_eq_false_iff_eq.mpr c44
                              clear c44
                              replace H := Option.bind_eq_some_iff.mp H
                              obtain ⟨t166, A450, H⟩ := H
                              replace H : (bureaulaw12_MoveFinds.l0 k4 a0 t155 t156 (wrap64 (x13_4 + 1)) t166 x154000_14 a2_1 a2_2) = some r := H
                              have A45 := Aside0.mk A450
                              clear A450
                              have H' := Aside0.mk H
                              clear H
                              go_wp2_with (first | ((with_reducible refine gate_callee (f := 15) rfl ?_); refine goesL_ (some 93) rfl rfl Tryd.func15 (by kernel_rfl) rfl #[.string a0, .int .i64 x14_4] rfl (by (try simp only [List.map_toArray, List.map_cons, List.map_nil]); first | done | rfl | (simp only [List.length_drop, List.length_take]; rfl)) ?_; (with_reducible refine (bureauref02_At.calls k4 a0 x14_4 t164 t165 _ A43.out ?sideT).mono ?_); (case sideT => first | exact HTABS.out | exact HTABS.out.below (by repeat (first | (with_reducible first | exact HB.out | apply below_alloc | apply pw_below_drewN | apply below_drew1) | refine below_set ?_ (Aside0.out (by assumption)) | exact HB.out)) (Nat.le_refl _) | exact HTABS.out.below (Below.drew (Below.refl _ _)) (Nat.le_refl _)); rintro e w46 ⟨rfl, hb⟩; refine ⟨_, rfl, ?_⟩; have n0_ := Aside0.mk (blk_below (g := gb153) (o := .cells #[.int .i32 x154000_14, .int .i32 a2_1, .int .i64 a2_2] 23 (0, 0)) (by (with_reducible repeat (first | refine blk_drewN ?_ _ | refine blk_drew ?_ | refine blk_alloc ?_ _)); exact BK153.out) hb); have n1_ := Aside0.mk (below_step (by repeat (first | (with_reducible first | exact HB.out | apply below_alloc | apply pw_below_drewN | apply below_drew1 | refine below_set ?_ GE153.out) | exact HB.out)) hb); clear BK153; clear HB; have BK153 := n0_; have HB := n1_; clear n0_ n1_; (try clear hb); (try clear hb2); (try clear hk); (try clear hi); have hcz47_0 : w46.cell? ⟨gb153, 0, none⟩ = some (.int .i32 x154000_14) := (blk_cell BK153.out 0).trans rfl; have hcz47_1 : w46.cell? ⟨gb153, 1, none⟩ = some (.int .i32 a2_1) := (blk_cell BK153.out 1).trans rfl; have hcz47_2 : w46.cell? ⟨gb153, 2, none⟩ = some (.int .i64 a2_2) := (blk_cell BK153.out 2).trans rfl; have hfz47_0 := blk_frozen BK153.out 0; have hfz47_1 := blk_frozen BK153.out 1; have hfz47_2 := blk_frozen BK153.out 2) | ((with_reducible refine gate_callee (f := 17) rfl ?_); refine goesL_ (some 89) rfl rfl Tryd.func17 (by kernel_rfl) rfl #[.string a0, .int .i64 x14_4] rfl (by (try simp only [List.map_toArray, List.map_cons, List.map_nil]); first | done | rfl | (simp only [List.length_drop, List.length_take]; rfl)) ?_; (with_reducible refine (bureauref02_Next.calls k4 a0 x14_4 t166 _ A45.out ?sideT).mono ?_); (case sideT => first | exact HTABS.out | exact HTABS.out.below (by repeat (first | (with_reducible first | exact HB.out | apply below_alloc | apply pw_below_drewN | apply below_drew1) | refine below_set ?_ (Aside0.out (by assumption)) | exact HB.out)) (Nat.le_refl _) | exact HTABS.out.below (Below.drew (Below.refl _ _)) (Nat.le_refl _)); rintro e w48 ⟨rfl, hb⟩; refine ⟨_, rfl, ?_⟩; have n0_ := Aside0.mk (blk_below (g := gb153) (o := .cells #[.int .i32 x154000_14, .int .i32 a2_1, .int .i64 a2_2] 23 (0, 0)) (by (with_reducible repeat (first | refine blk_drewN ?_ _ | refine blk_drew ?_ | refine blk_alloc ?_ _)); exact BK153.out) hb); have n1_ := Aside0.mk (below_step (by repeat (first | (with_reducible first | exact HB.out | apply below_alloc | apply pw_below_drewN | apply below_drew1 | refine below_set ?_ GE153.out) | exact HB.out)) hb); clear BK153; clear HB; have BK153 := n0_; have HB := n1_; clear n0_ n1_; (try clear hb); (try clear hb2); (try clear hk); (try clear hi)))
                              go_roundg k4
                              case measure => have := HJ8.out; have := HJ14.out; have := HJ21.out; have := HK4.out; omega
                              case rel => exact ⟨(wrap64 (x13_4 + 1)), (t166), (by first | rfl | (simp; done) | (simp [*]; done)), (by first | rfl | (simp; done) | (simp [*]; done)), H', ⟨by have := HJ8.out; have := HJ14.out; have := HJ21.out; have := HK4.out; omega⟩, ⟨by (with_reducible repeat (first | refine blk_drewN ?_ _ | refine blk_drew ?_ | refine blk_alloc ?_ _)); exact BK153.out⟩, ⟨by repeat (first | (with_reducible first | exact HB.out | apply below_alloc | apply pw_below_drewN | apply below_drew1 | refine below_set ?_ GE153.out) | exact HB.out)⟩⟩
                            · rw [if_neg c44] at H
                              have c44b0 : (t164 == (wrap64 (a2_1))) = false := beq_eq_false_iff_ne.mpr c44
                              have c44b1 : (t164 != (wrap64 (a2_1))) = true := bne_iff_ne.mpr c44
                              replace H := Option.bind_eq_some_iff.mp H
                              obtain ⟨t167, A490, H⟩ := H
                              replace H : (bureaulaw12_MoveFinds.l0 k4 a0 t155 t156 x13_4 t167 x154000_14 a2_1 a2_2) = some r := H
                              have A49 := Aside0.mk A490
                              clear A490
                              have H' := Aside0.mk H
                              clear H
                              go_wp2_with (first | ((with_reducible refine gate_callee (f := 15) rfl ?_); refine goesL_ (some 93) rfl rfl Tryd.func15 (by kernel_rfl) rfl #[.string a0, .int .i64 x14_4] rfl (by (try simp only [List.map_toArray, List.map_cons, List.map_nil]); first | done | rfl | (simp only [List.length_drop, List.length_take]; rfl)) ?_; (with_reducible refine (bureauref02_At.calls k4 a0 x14_4 t164 t165 _ A43.out ?sideT).mono ?_); (case sideT => first | exact HTABS.out | exact HTABS.out.below (by repeat (first | (with_reducible first | exact HB.out | apply below_alloc | apply pw_below_drewN | apply below_drew1) | refine below_set ?_ (Aside0.out (by assumption)) | exact HB.out)) (Nat.le_refl _) | exact HTABS.out.below (Below.drew (Below.refl _ _)) (Nat.le_refl _)); rintro e w50 ⟨rfl, hb⟩; refine ⟨_, rfl, ?_⟩; have n0_ := Aside0.mk (blk_below (g := gb153) (o := .cells #[.int .i32 x154000_14, .int .i32 a2_1, .int .i64 a2_2] 23 (0, 0)) (by (with_reducible repeat (first | refine blk_drewN ?_ _ | refine blk_drew ?_ | refine blk_alloc ?_ _)); exact BK153.out) hb); have n1_ := Aside0.mk (below_step (by repeat (first | (with_reducible first | exact HB.out | apply below_alloc | apply pw_below_drewN | apply below_drew1 | refine below_set ?_ GE153.out) | exact HB.out)) hb); clear BK153; clear HB; have BK153 := n0_; have HB := n1_; clear n0_ n1_; (try clear hb); (try clear hb2); (try clear hk); (try clear hi); have hcz51_0 : w50.cell? ⟨gb153, 0, none⟩ = some (.int .i32 x154000_14) := (blk_cell BK153.out 0).trans rfl; have hcz51_1 : w50.cell? ⟨gb153, 1, none⟩ = some (.int .i32 a2_1) := (blk_cell BK153.out 1).trans rfl; have hcz51_2 : w50.cell? ⟨gb153, 2, none⟩ = some (.int .i64 a2_2) := (blk_cell BK153.out 2).trans rfl; have hfz51_0 := blk_frozen BK153.out 0; have hfz51_1 := blk_frozen BK153.out 1; have hfz51_2 := blk_frozen BK153.out 2) | ((with_reducible refine gate_callee (f := 17) rfl ?_); refine goesL_ (some 89) rfl rfl Tryd.func17 (by kernel_rfl) rfl #[.string a0, .int .i64 x14_4] rfl (by (try simp only [List.map_toArray, List.map_cons, List.map_nil]); first | done | rfl | (simp only [List.length_drop, List.length_take]; rfl)) ?_; (with_reducible refine (bureauref02_Next.calls k4 a0 x14_4 t167 _ A49.out ?sideT).mono ?_); (case sideT => first | exact HTABS.out | exact HTABS.out.below (by repeat (first | (with_reducible first | exact HB.out | apply below_alloc | apply pw_below_drewN | apply below_drew1) | refine below_set ?_ (Aside0.out (by assumption)) | exact HB.out)) (Nat.le_refl _) | exact HTABS.out.below (Below.drew (Below.refl _ _)) (Nat.le_refl _)); rintro e w52 ⟨rfl, hb⟩; refine ⟨_, rfl, ?_⟩; have n0_ := Aside0.mk (blk_below (g := gb153) (o := .cells #[.int .i32 x154000_14, .int .i32 a2_1, .int .i64 a2_2] 23 (0, 0)) (by (with_reducible repeat (first | refine blk_drewN ?_ _ | refine blk_drew ?_ | refine blk_alloc ?_ _)); exact BK153.out) hb); have n1_ := Aside0.mk (below_step (by repeat (first | (with_reducible first | exact HB.out | apply below_alloc | apply pw_below_drewN | apply below_drew1 | refine below_set ?_ GE153.out) | exact HB.out)) hb); clear BK153; clear HB; have BK153 := n0_; have HB := n1_; clear n0_ n1_; (try clear hb); (try clear hb2); (try clear hk); (try clear hi)))
                              go_roundg k4
                              case measure => have := HJ8.out; have := HJ14.out; have := HJ21.out; have := HK4.out; omega
                              case rel => exact ⟨(x13_4), (t167), (by first | rfl | (simp; done) | (simp [*]; done)), (by first | rfl | (simp; done) | (simp [*]; done)), H', ⟨by have := HJ8.out; have := HJ14.out; have := HJ21.out; have := HK4.out; omega⟩, ⟨by (with_reducible repeat (first | refine blk_drewN ?_ _ | refine blk_drew ?_ | refine blk_alloc ?_ _)); exact BK153.out⟩, ⟨by repeat (first | (with_reducible first | exact HB.out | apply below_alloc | apply pw_below_drewN | apply below_drew1 | refine below_set ?_ GE153.out) | exact HB.out)⟩⟩
                          · rw [if_neg c42] at H
                            have c42b0 : decide (x14_4 < (ji41)) = false := decide_eq_false c42
                            clear c42
                            obtain ⟨ji53, hji53⟩ : ∃ j_ : Int, (mx a2_2 1) = j_ := ⟨_, rfl⟩
                            replace H : (some (x13_4 == (mn (ji53) 999))) = some r := by first | (rw [hji53] at H; exact H) | (simp only [hji53] at H ⊢; exact H)
                            have hji53_ : (if a2_2 < 1 then 1 else a2_2) = ji53 := hji53
                            obtain ⟨ji54, hji54⟩ : ∃ j_ : Int, (mn (ji53) 999) = j_ := ⟨_, rfl⟩
                            replace H : (some (x13_4 == (ji54))) = some r := by first | (rw [hji54] at H; exact H) | (simp only [hji54] at H ⊢; exact H)
                            have hji54_ : (if 999 < (ji53) then 999 else (ji53)) = ji54 := hji54
                            obtain rfl := Option.some.inj H
                            have hcz55_0 : wr.cell? ⟨gb153, 0, none⟩ = some (.int .i32 x154000_14) := (blk_cell BK153.out 0).trans rfl
                            have hcz55_1 : wr.cell? ⟨gb153, 1, none⟩ = some (.int .i32 a2_1) := (blk_cell BK153.out 1).trans rfl
                            have hcz55_2 : wr.cell? ⟨gb153, 2, none⟩ = some (.int .i64 a2_2) := (blk_cell BK153.out 2).trans rfl
                            have hfz55_0 := blk_frozen BK153.out 0
                            have hfz55_1 := blk_frozen BK153.out 1
                            have hfz55_2 := blk_frozen BK153.out 2
                            go_wp2
                            go_ret
                            exact ⟨by first | rfl | (simp [errW_none, errW_some] <;> rfl) | (simp only [← hji38, ← hji41, ← hji53, ← hji54]; first | rfl | (simp [errW_none, errW_some] <;> rfl)) | (simp [*, errW_none, errW_some] <;> rfl), by repeat (first | (with_reducible first | exact HB.out | apply below_alloc | apply pw_below_drewN | apply below_drew1 | refine below_set ?_ GE153.out) | exact HB.out)⟩
              · replace c21 := Bool.eq_false_iff.mpr c21
                subst c21
                have H1 : (some true) = some r := by rw [if_neg (show ¬ (false = true) by decide)] at H; exact H
                clear H
                have H := H1
                clear H1
                obtain rfl := Option.some.inj H
                go_wp2_with (first | ((with_reducible refine gate_callee (f := 14) rfl ?_); refine goesL_ (some 33) rfl rfl Tryd.func14 (by kernel_rfl) rfl #[.string a0, .int .i64 a1] rfl (by (try simp only [List.map_toArray, List.map_cons, List.map_nil]); first | done | rfl | (simp only [List.length_drop, List.length_take]; rfl)) ?_; (with_reducible refine (bureauref02_Align.calls kj14 a0 a1 t155 _ A18.out ?sideT).mono ?_); (case sideT => first | exact HTABS.out | exact HTABS.out.below (by repeat (first | (with_reducible first | exact HB.out | apply below_alloc | apply pw_below_drewN | apply below_drew1) | refine below_set ?_ (Aside0.out (by assumption)) | exact HB.out)) (Nat.le_refl _) | exact HTABS.out.below (Below.drew (Below.refl _ _)) (Nat.le_refl _)); rintro e w56 ⟨rfl, hb⟩; refine ⟨_, rfl, ?_⟩; have n0_ := Aside0.mk (blk_below (g := gb153) (o := .cells #[.int .i32 x154000_14, .int .i32 a2_1, .int .i64 a2_2] 23 (0, 0)) (by (with_reducible repeat (first | refine blk_drewN ?_ _ | refine blk_drew ?_ | refine blk_alloc ?_ _)); exact BK153.out) hb); have n1_ := Aside0.mk (below_step (by repeat (first | (with_reducible first | exact HB.out | apply below_alloc | apply pw_below_drewN | apply below_drew1 | refine below_set ?_ GE153.out) | exact HB.out)) hb); clear BK153; clear HB; have BK153 := n0_; have HB := n1_; clear n0_ n1_; (try clear hb); (try clear hb2); (try clear hk); (try clear hi); have hcz57_0 : w56.cell? ⟨gb153, 0, none⟩ = some (.int .i32 x154000_14) := (blk_cell BK153.out 0).trans rfl; have hcz57_1 : w56.cell? ⟨gb153, 1, none⟩ = some (.int .i32 a2_1) := (blk_cell BK153.out 1).trans rfl; have hcz57_2 : w56.cell? ⟨gb153, 2, none⟩ = some (.int .i64 a2_2) := (blk_cell BK153.out 2).trans rfl; have hfz57_0 := blk_frozen BK153.out 0; have hfz57_1 := blk_frozen BK153.out 1; have hfz57_2 := blk_frozen BK153.out 2) | ((with_reducible refine gate_callee (f := 12) rfl ?_); refine goesL_ (some 38) rfl rfl Tryd.func12 (by kernel_rfl) rfl #[.string a0, .int .i64 a1, .agg #[.int .i32 x154000_14, .int .i32 a2_1, .int .i64 a2_2]] rfl (by (try simp only [List.map_toArray, List.map_cons, List.map_nil]); first | done | rfl | (simp only [List.length_drop, List.length_take]; rfl)) ?_; (with_reducible refine (move_To.calls a0 a1 x154000_14 a2_1 a2_2 t156 t157 false _ A19.out ?sideT).mono ?_); (case sideT => first | exact HTABS.out | exact HTABS.out.below (by repeat (first | (with_reducible first | exact HB.out | apply below_alloc | apply pw_below_drewN | apply below_drew1) | refine below_set ?_ (Aside0.out (by assumption)) | exact HB.out)) (Nat.le_refl _) | exact HTABS.out.below (Below.drew (Below.refl _ _)) (Nat.le_refl _)); rintro e w58 ⟨rfl, hb⟩; refine ⟨_, rfl, ?_⟩; have n0_ := Aside0.mk (blk_below (g := gb153) (o := .cells #[.int .i32 x154000_14, .int .i32 a2_1, .int .i64 a2_2] 23 (0, 0)) (by (with_reducible repeat (first | refine blk_drewN ?_ _ | refine blk_drew ?_ | refine blk_alloc ?_ _)); exact BK153.out) hb); have n1_ := Aside0.mk (below_step (by repeat (first | (with_reducible first | exact HB.out | apply below_alloc | apply pw_below_drewN | apply below_drew1 | refine below_set ?_ GE153.out) | exact HB.out)) hb); clear BK153; clear HB; have BK153 := n0_; have HB := n1_; clear n0_ n1_; (try clear hb); (try clear hb2); (try clear hk); (try clear hi)) | ((with_reducible refine gate_callee (f := 15) rfl ?_); refine goesL_ (some 45) rfl rfl Tryd.func15 (by kernel_rfl) rfl #[.string a0, .int .i64 t156] rfl (by (try simp only [List.map_toArray, List.map_cons, List.map_nil]); first | done | rfl | (simp only [List.length_drop, List.length_take]; rfl)) ?_; (with_reducible refine (bureauref02_At.calls kj14 a0 t156 t159 t160 _ A20.out ?sideT).mono ?_); (case sideT => first | exact HTABS.out | exact HTABS.out.below (by repeat (first | (with_reducible first | exact HB.out | apply below_alloc | apply pw_below_drewN | apply below_drew1) | refine below_set ?_ (Aside0.out (by assumption)) | exact HB.out)) (Nat.le_refl _) | exact HTABS.out.below (Below.drew (Below.refl _ _)) (Nat.le_refl _)); rintro e w59 ⟨rfl, hb⟩; refine ⟨_, rfl, ?_⟩; have n0_ := Aside0.mk (blk_below (g := gb153) (o := .cells #[.int .i32 x154000_14, .int .i32 a2_1, .int .i64 a2_2] 23 (0, 0)) (by (with_reducible repeat (first | refine blk_drewN ?_ _ | refine blk_drew ?_ | refine blk_alloc ?_ _)); exact BK153.out) hb); have n1_ := Aside0.mk (below_step (by repeat (first | (with_reducible first | exact HB.out | apply below_alloc | apply pw_below_drewN | apply below_drew1 | refine below_set ?_ GE153.out) | exact HB.out)) hb); clear BK153; clear HB; have BK153 := n0_; have HB := n1_; clear n0_ n1_; (try clear hb); (try clear hb2); (try clear hk); (try clear hi)))
                go_ret
                exact ⟨by first | rfl | (simp [errW_none, errW_some] <;> rfl) | (simp [*, errW_none, errW_some] <;> rfl), by repeat (first | (with_reducible first | exact HB.out | apply below_alloc | apply pw_below_drewN | apply below_drew1 | refine below_set ?_ GE153.out) | exact HB.out)⟩
  · replace c5 := Bool.eq_false_iff.mpr c5
    subst c5
    have H1 : (some false) = some r := by rw [if_neg (show ¬ (false = true) by decide)] at H; exact H
    clear H
    have H := H1
    clear H1
    obtain rfl := Option.some.inj H
    go_enter Tryd.func6, Tryd.ntmps6
    go_wp2_with (first | ((with_reducible refine gate_dst (N := 5) rfl ?_); refine box_event ?hg (N := 5) ?hd (cs := #[.int .i32 a2_0, .int .i32 a2_1, .int .i64 a2_2]) (t := 23) ?hr ?_; (case hd => rfl); (case hg => rfl); (case hr => first | (go_simp; done) | (go_simp; rfl)); intro gb153 hg w60 hbox hb; have n0_ := Aside0.mk (below_step (by repeat (first | (with_reducible first | exact HB.out | apply below_alloc | apply pw_below_drewN | apply below_drew1) | exact HB.out)) hb); have n1_ := Aside0.mk (hbox); have n2_ := Aside0.mk ((by rw [hg]; exact (below_size (by repeat (first | (with_reducible first | exact HB.out | apply below_alloc | apply pw_below_drewN | apply below_drew1) | exact HB.out))) : w.heap.size ≤ gb153)); have n3_ := Aside0.mk ((by rw [hg]; exact (below_size (by repeat (first | (with_reducible first | exact HB.out | apply below_alloc | apply pw_below_drewN | apply below_drew1) | exact HB.out))) : w.heap.size ≤ gb153)); clear HB; have HB := n0_; have BK153 := n1_; have GW153 := n2_; have GE153 := n3_; clear n0_ n1_ n2_ n3_; clear hb hbox hg) | ((with_reducible refine gate_callee (f := 11) rfl ?_); refine goesL_ (some 17) rfl rfl Tryd.func11 (by kernel_rfl) rfl #[] rfl (by (try simp only [List.map_toArray, List.map_cons, List.map_nil]); first | done | rfl | (simp only [List.length_drop, List.length_take]; rfl)) ?_; (with_reducible refine (bureaulaw12_alive.calls  false _ A4.out ?sideT).mono ?_); (case sideT => first | exact HTABS.out | exact HTABS.out.below (by repeat (first | (with_reducible first | exact HB.out | apply below_alloc | apply pw_below_drewN | apply below_drew1) | refine below_set ?_ (Aside0.out (by assumption)) | exact HB.out)) (Nat.le_refl _) | exact HTABS.out.below (Below.drew (Below.refl _ _)) (Nat.le_refl _)); rintro e w61 ⟨rfl, hb⟩; refine ⟨_, rfl, ?_⟩; have n0_ := Aside0.mk (blk_below (g := gb153) (o := .cells #[.int .i32 a2_0, .int .i32 a2_1, .int .i64 a2_2] 23 (0, 0)) (by (with_reducible repeat (first | refine blk_drewN ?_ _ | refine blk_drew ?_ | refine blk_alloc ?_ _)); exact BK153.out) hb); have n1_ := Aside0.mk (below_step (by repeat (first | (with_reducible first | exact HB.out | apply below_alloc | apply pw_below_drewN | apply below_drew1 | refine below_set ?_ GE153.out) | exact HB.out)) hb); clear BK153; clear HB; have BK153 := n0_; have HB := n1_; clear n0_ n1_; (try clear hb); (try clear hb2); (try clear hk); (try clear hi)))
    go_ret
    exact ⟨by first | rfl | (simp [errW_none, errW_some] <;> rfl) | (simp [*, errW_none, errW_some] <;> rfl), by repeat (first | (with_reducible first | exact HB.out | apply below_alloc | apply pw_below_drewN | apply below_drew1 | refine below_set ?_ GE153.out) | exact HB.out)⟩

/-- What is to be proved of bureaulaw12_MoveFinds: no program in it. -/
def bureaulaw12_MoveFinds.Pure : Prop := ∀ (a0 : ByteArray) (a1 : Int) (a2_0 : Int) (a2_1 : Int) (a2_2 : Int), a0.size ≤ maxLen → (Lit.int .i64 a1).wf = true → (Lit.int .i32 a2_0).wf = true → (Lit.int .i32 a2_1).wf = true → (Lit.int .i64 a2_2).wf = true → ∃ k, bureaulaw12_MoveFinds.f k a0 a1 a2_0 a2_1 a2_2 = some true

end Go.Proofs.YtpajakfmahfpkaaDoor.XMoveFinds
