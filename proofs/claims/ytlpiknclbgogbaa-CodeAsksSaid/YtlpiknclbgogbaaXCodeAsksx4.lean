-- Written by this session's program (wip/xprint.py) with the kit's print, for this claim.
import Derived.Test.YtlpiknclbgogbaaXCodeAsksx0
import Derived.Test.YtlpiknclbgogbaaXCodeAsksx3
namespace Go.Proofs.Ytlpiknclbgogbaa.XCodeAsks
open Go.RowKit Go.Proofs.YtlpiknclbgogbaaW.PrintWords Go.Proofs.YtlpiknclbgogbaaW.PrintLast Go.Proofs.YtlpiknclbgogbaaW.PrintMore Go.Proofs.Ytlpiknclbgogbaa.Ext
attribute [local go_sem] max2_int min2_int max_two min_two max_three min_three max_four min_four   -- for this text's walks alone
set_option linter.unusedVariables false
set_option linter.unusedSimpArgs false

/-! ### bureauref21_Takes: function 14 -/
mutual
def bureauref21_Takes.j0 : Nat → Int → Bool → Int → Int → Option (Int)
  | 0, _, _, _, _ => none
  | k + 1, x7, x8, x214000, x214001 => if x8 = true then (some 1) else (if x7 = 4 then (bureauref21_Takes.j1 k x7 (x7 == 4) x214000 x214001) else (if x7 = 5 then (bureauref21_Takes.j1 k x7 (x7 == 5) x214000 x214001) else (if x7 = 6 then (bureauref21_Takes.j1 k x7 (x7 == 6) x214000 x214001) else (if x7 = 7 then (bureauref21_Takes.j1 k x7 (x7 == 7) x214000 x214001) else (if x7 = 8 then (bureauref21_Takes.j1 k x7 (x7 == 8) x214000 x214001) else (if x7 = 9 then (bureauref21_Takes.j1 k x7 (x7 == 9) x214000 x214001) else (bureauref21_Takes.j1 k x7 (x7 == 10) x214000 x214001)))))))
def bureauref21_Takes.j1 : Nat → Int → Bool → Int → Int → Option (Int)
  | 0, _, _, _, _ => none
  | k + 1, x7, x14, x214000, x214001 => if x14 = true then (some 2) else (if x7 = 16 then (if x214001 = 0 then (bureauref21_Takes.j2 k x214001 (x214001 == 0)) else (if x214001 = 1 then (bureauref21_Takes.j2 k x214001 (x214001 == 1)) else (bureauref21_Takes.j2 k x214001 (x214001 == 2)))) else (some 0))
def bureauref21_Takes.j2 : Nat → Int → Bool → Option (Int)
  | 0, _, _ => none
  | k + 1, x25, x26 => if x26 = true then (some 3) else (if x25 = 3 then (bureauref21_Takes.j3 k x25 (x25 == 3)) else (bureauref21_Takes.j3 k x25 (x25 == 7)))
def bureauref21_Takes.j3 : Nat → Int → Bool → Option (Int)
  | 0, _, _ => none
  | k + 1, x25, x30 => if x30 = true then (some 2) else (if x25 = 4 then (some 4) else (if x25 = 6 then (some 1) else (some 0)))
end
def bureauref21_Takes.f (k : Nat) (a0_0 : Int) (a0_1 : Int) : Option (Int) := (bureauref21_May.f k a0_0 a0_1).bind fun t214 => (if t214 = true then (if a0_0 = 2 then (bureauref21_Takes.j0 k a0_0 (a0_0 == 2) a0_0 a0_1) else (if a0_0 = 3 then (bureauref21_Takes.j0 k a0_0 (a0_0 == 3) a0_0 a0_1) else (if a0_0 = 11 then (bureauref21_Takes.j0 k a0_0 (a0_0 == 11) a0_0 a0_1) else (if a0_0 = 13 then (bureauref21_Takes.j0 k a0_0 (a0_0 == 13) a0_0 a0_1) else (bureauref21_Takes.j0 k a0_0 (a0_0 == 15) a0_0 a0_1))))) else (some (-1)))
theorem bureauref21_Takes.mono_l : ∀ k, (∀ y0 y1 y2 y3, LeO (bureauref21_Takes.j0 k y0 y1 y2 y3) (bureauref21_Takes.j0 (k + 1) y0 y1 y2 y3)) ∧ (∀ y0 y1 y2 y3, LeO (bureauref21_Takes.j1 k y0 y1 y2 y3) (bureauref21_Takes.j1 (k + 1) y0 y1 y2 y3)) ∧ (∀ y0 y1, LeO (bureauref21_Takes.j2 k y0 y1) (bureauref21_Takes.j2 (k + 1) y0 y1)) ∧ (∀ y0 y1, LeO (bureauref21_Takes.j3 k y0 y1) (bureauref21_Takes.j3 (k + 1) y0 y1))
  | 0 => ⟨fun _ _ _ _ r h => by simp [bureauref21_Takes.j0] at h, fun _ _ _ _ r h => by simp [bureauref21_Takes.j1] at h, fun _ _ r h => by simp [bureauref21_Takes.j2] at h, fun _ _ r h => by simp [bureauref21_Takes.j3] at h⟩
  | k + 1 => by
    obtain ⟨ih0, ih1, ih2, ih3⟩ := bureauref21_Takes.mono_l k
    refine ⟨?_, ?_, ?_, ?_⟩
    · intro y0 y1 y2 y3
      unfold bureauref21_Takes.j0
      repeat' first
      | (with_reducible exact ih0 _ _ _ _)
      | (with_reducible exact ih1 _ _ _ _)
      | (with_reducible exact ih2 _ _)
      | (with_reducible exact ih3 _ _)
      | (with_reducible exact bureauref21_May.mono _ _ _)
      | (with_reducible exact LeO.refl _)
      | (with_reducible exact LeO.none _)
      | (with_reducible refine LeO.ite ?_ ?_)
      | (with_reducible refine LeO.bind ?_ (fun _ => ?_))
      | exact ih0 _ _ _ _
      | exact ih1 _ _ _ _
      | exact ih2 _ _
      | exact ih3 _ _
      | exact bureauref21_May.mono _ _ _
      | exact LeO.none _
      | refine LeO.ite ?_ ?_
      | refine LeO.bind ?_ (fun _ => ?_)
    · intro y0 y1 y2 y3
      unfold bureauref21_Takes.j1
      repeat' first
      | (with_reducible exact ih0 _ _ _ _)
      | (with_reducible exact ih1 _ _ _ _)
      | (with_reducible exact ih2 _ _)
      | (with_reducible exact ih3 _ _)
      | (with_reducible exact bureauref21_May.mono _ _ _)
      | (with_reducible exact LeO.refl _)
      | (with_reducible exact LeO.none _)
      | (with_reducible refine LeO.ite ?_ ?_)
      | (with_reducible refine LeO.bind ?_ (fun _ => ?_))
      | exact ih0 _ _ _ _
      | exact ih1 _ _ _ _
      | exact ih2 _ _
      | exact ih3 _ _
      | exact bureauref21_May.mono _ _ _
      | exact LeO.none _
      | refine LeO.ite ?_ ?_
      | refine LeO.bind ?_ (fun _ => ?_)
    · intro y0 y1
      unfold bureauref21_Takes.j2
      repeat' first
      | (with_reducible exact ih0 _ _ _ _)
      | (with_reducible exact ih1 _ _ _ _)
      | (with_reducible exact ih2 _ _)
      | (with_reducible exact ih3 _ _)
      | (with_reducible exact bureauref21_May.mono _ _ _)
      | (with_reducible exact LeO.refl _)
      | (with_reducible exact LeO.none _)
      | (with_reducible refine LeO.ite ?_ ?_)
      | (with_reducible refine LeO.bind ?_ (fun _ => ?_))
      | exact ih0 _ _ _ _
      | exact ih1 _ _ _ _
      | exact ih2 _ _
      | exact ih3 _ _
      | exact bureauref21_May.mono _ _ _
      | exact LeO.none _
      | refine LeO.ite ?_ ?_
      | refine LeO.bind ?_ (fun _ => ?_)
    · intro y0 y1
      unfold bureauref21_Takes.j3
      repeat' first
      | (with_reducible exact ih0 _ _ _ _)
      | (with_reducible exact ih1 _ _ _ _)
      | (with_reducible exact ih2 _ _)
      | (with_reducible exact ih3 _ _)
      | (with_reducible exact bureauref21_May.mono _ _ _)
      | (with_reducible exact LeO.refl _)
      | (with_reducible exact LeO.none _)
      | (with_reducible refine LeO.ite ?_ ?_)
      | (with_reducible refine LeO.bind ?_ (fun _ => ?_))
      | exact ih0 _ _ _ _
      | exact ih1 _ _ _ _
      | exact ih2 _ _
      | exact ih3 _ _
      | exact bureauref21_May.mono _ _ _
      | exact LeO.none _
      | refine LeO.ite ?_ ?_
      | refine LeO.bind ?_ (fun _ => ?_)
theorem bureauref21_Takes.mono : ∀ a0 a1 k, LeO (bureauref21_Takes.f k a0 a1) (bureauref21_Takes.f (k + 1) a0 a1) := by
  intro a0 a1 k
  obtain ⟨ih0, ih1, ih2, ih3⟩ := bureauref21_Takes.mono_l k
  unfold bureauref21_Takes.f
  repeat' first
      | (with_reducible exact ih0 _ _ _ _)
      | (with_reducible exact ih1 _ _ _ _)
      | (with_reducible exact ih2 _ _)
      | (with_reducible exact ih3 _ _)
      | (with_reducible exact bureauref21_May.mono _ _ _)
      | (with_reducible exact LeO.refl _)
      | (with_reducible exact LeO.none _)
      | (with_reducible refine LeO.ite ?_ ?_)
      | (with_reducible refine LeO.bind ?_ (fun _ => ?_))
      | exact ih0 _ _ _ _
      | exact ih1 _ _ _ _
      | exact ih2 _ _
      | exact ih3 _ _
      | exact bureauref21_May.mono _ _ _
      | exact LeO.none _
      | refine LeO.ite ?_ ?_
      | refine LeO.bind ?_ (fun _ => ?_)
set_option maxHeartbeats 8000000 in
set_option maxRecDepth 100000 in
theorem bureauref21_Takes.calls (k : Nat) (a0_0 : Int) (a0_1 : Int) (r : Int) (w : World) (h : bureauref21_Takes.f k a0_0 a0_1 = some r) :
    Calls Try.prog 14 #[.agg #[.int .i64 a0_0, .int .i64 a0_1]] w fun e w' => e = .returned (.int .i64 r) ∧ Below w.heap.size w w' := by
  have hu36 := Try.underlying36
  have HB := Aside0.mk (Below.refl w.heap.size w)
  have H : ((bureauref21_May.f k a0_0 a0_1).bind fun t214 => (if t214 = true then (if a0_0 = 2 then (bureauref21_Takes.j0 k a0_0 (a0_0 == 2) a0_0 a0_1) else (if a0_0 = 3 then (bureauref21_Takes.j0 k a0_0 (a0_0 == 3) a0_0 a0_1) else (if a0_0 = 11 then (bureauref21_Takes.j0 k a0_0 (a0_0 == 11) a0_0 a0_1) else (if a0_0 = 13 then (bureauref21_Takes.j0 k a0_0 (a0_0 == 13) a0_0 a0_1) else (bureauref21_Takes.j0 k a0_0 (a0_0 == 15) a0_0 a0_1))))) else (some (-1)))) = some r := h
  clear h
  replace H := Option.bind_eq_some_iff.mp H
  obtain ⟨t214, A20, H⟩ := H
  replace H : (if t214 = true then (if a0_0 = 2 then (bureauref21_Takes.j0 k a0_0 (a0_0 == 2) a0_0 a0_1) else (if a0_0 = 3 then (bureauref21_Takes.j0 k a0_0 (a0_0 == 3) a0_0 a0_1) else (if a0_0 = 11 then (bureauref21_Takes.j0 k a0_0 (a0_0 == 11) a0_0 a0_1) else (if a0_0 = 13 then (bureauref21_Takes.j0 k a0_0 (a0_0 == 13) a0_0 a0_1) else (bureauref21_Takes.j0 k a0_0 (a0_0 == 15) a0_0 a0_1))))) else (some (-1))) = some r := H
  have A2 := Aside0.mk A20
  clear A20
  by_cases c3 : t214 = true
  · subst c3
    have H1 : (if a0_0 = 2 then (bureauref21_Takes.j0 k a0_0 (a0_0 == 2) a0_0 a0_1) else (if a0_0 = 3 then (bureauref21_Takes.j0 k a0_0 (a0_0 == 3) a0_0 a0_1) else (if a0_0 = 11 then (bureauref21_Takes.j0 k a0_0 (a0_0 == 11) a0_0 a0_1) else (if a0_0 = 13 then (bureauref21_Takes.j0 k a0_0 (a0_0 == 13) a0_0 a0_1) else (bureauref21_Takes.j0 k a0_0 (a0_0 == 15) a0_0 a0_1))))) = some r := by rw [if_pos rfl] at H; exact H
    clear H
    have H := H1
    clear H1
    have HC4 := Aside0.mk H
    clear H
    go_enter Try.func14, Try.ntmps14
    go_upto_if 8 with (first | ((with_reducible refine gate_dst (N := 1) rfl ?_); refine box_event ?hg (N := 1) ?hd (cs := #[.int .i64 a0_0, .int .i64 a0_1]) (t := 36) ?hr ?_; (case hd => rfl); (case hg => rfl); (case hr => first | (go_simp; done) | (go_simp; rfl)); intro gb213 hg w5 hbox hb; have n0_ := Aside0.mk (below_step (by repeat (first | (with_reducible first | exact HB.out | apply below_alloc | apply pw_below_drewN | apply below_drew1) | exact HB.out)) hb); have n1_ := Aside0.mk (hbox); have n2_ := Aside0.mk ((by rw [hg]; exact (below_size (by repeat (first | (with_reducible first | exact HB.out | apply below_alloc | apply pw_below_drewN | apply below_drew1) | exact HB.out))) : w.heap.size ≤ gb213)); have n3_ := Aside0.mk ((by rw [hg]; exact (below_size (by repeat (first | (with_reducible first | exact HB.out | apply below_alloc | apply pw_below_drewN | apply below_drew1) | exact HB.out))) : w.heap.size ≤ gb213)); clear HB; have HB := n0_; have BK213 := n1_; have GW213 := n2_; have GE213 := n3_; clear n0_ n1_ n2_ n3_; clear hb hbox hg; have hcz6_0 : w5.cell? ⟨gb213, 0, none⟩ = some (.int .i64 a0_0) := (blk_cell BK213.out 0).trans rfl; have hcz6_1 : w5.cell? ⟨gb213, 1, none⟩ = some (.int .i64 a0_1) := (blk_cell BK213.out 1).trans rfl; have hfz6_0 := blk_frozen BK213.out 0; have hfz6_1 := blk_frozen BK213.out 1) | ((with_reducible refine gate_callee (f := 13) rfl ?_); refine goesL_ (some 4) rfl rfl Try.func13 (by kernel_rfl) rfl #[.agg #[.int .i64 a0_0, .int .i64 a0_1]] rfl (by (try simp only [List.map_toArray, List.map_cons, List.map_nil]); first | done | rfl | (simp only [List.length_drop, List.length_take]; rfl)) ?_; (with_reducible refine (bureauref21_May.calls k a0_0 a0_1 true _ A2.out).mono ?_); rintro e w7 ⟨rfl, hb⟩; refine ⟨_, rfl, ?_⟩; have n0_ := Aside0.mk (blk_below (g := gb213) (o := .cells #[.int .i64 a0_0, .int .i64 a0_1] 36 (0, 0)) (by (with_reducible repeat (first | refine blk_drewN ?_ _ | refine blk_drew ?_ | refine blk_alloc ?_ _)); exact BK213.out) hb); have n1_ := Aside0.mk (below_step (by repeat (first | (with_reducible first | exact HB.out | apply below_alloc | apply pw_below_drewN | apply below_drew1 | refine below_set ?_ GE213.out) | exact HB.out)) hb); clear BK213; clear HB; have BK213 := n0_; have HB := n1_; clear n0_ n1_; (try clear hb); (try clear hb2); (try clear hk); (try clear hi); have hcz8_0 : w7.cell? ⟨gb213, 0, none⟩ = some (.int .i64 a0_0) := (blk_cell BK213.out 0).trans rfl; have hcz8_1 : w7.cell? ⟨gb213, 1, none⟩ = some (.int .i64 a0_1) := (blk_cell BK213.out 1).trans rfl; have hfz8_0 := blk_frozen BK213.out 0; have hfz8_1 := blk_frozen BK213.out 1))
    (try simp only [Act.put, List.setIfInBounds_toArray, List.set_cons_zero, List.set_cons_succ])
    go_cut [8] (fun v8 wc => ∃ (kq : Nat) (x8_3 : Bool), v8 = .bool x8_3 ∧ Aside0 (bureauref21_Takes.j0 kq a0_0 x8_3 a0_0 a0_1 = some r) ∧ Aside0 (kq ≤ k) ∧ Aside0 (wc.heap[gb213]? = some (.cells #[.int .i64 a0_0, .int .i64 a0_1] 36 (0, 0))) ∧ Aside0 (Below w.heap.size w wc))
    case first =>
      have H := HC4.out
      clear HC4
      by_cases c9 : a0_0 = 2
      · rw [if_pos c9] at H
        have c9b0 : (a0_0 == 2) = true := beq_iff_eq.mpr c9
        have c9b1 : (a0_0 != 2) = false := bne_eq_false_iff_eq.mpr c9
        clear c9
        (first | rw [c9b0] | (simp only [i64_w, i32_w]; rw [c9b0]) | skip)
        have H' := Aside0.mk H
        clear H
        go_wp2
        go_meet
        case rel => exact ⟨_, ((a0_0 == 2)), (by first | rfl | (simp; done) | (simp [*]; done)), H', ⟨by first | omega | exact Nat.le_refl _⟩, ⟨by (with_reducible repeat (first | refine blk_drewN ?_ _ | refine blk_drew ?_ | refine blk_alloc ?_ _)); exact BK213.out⟩, ⟨by repeat (first | (with_reducible first | exact HB.out | apply below_alloc | apply pw_below_drewN | apply below_drew1 | refine below_set ?_ GE213.out) | exact HB.out)⟩⟩
      · rw [if_neg c9] at H
        have c9b0 : (a0_0 == 2) = false := beq_eq_false_iff_ne.mpr c9
        have c9b1 : (a0_0 != 2) = true := bne_iff_ne.mpr c9
        (first | rw [c9b0] | (simp only [i64_w, i32_w]; rw [c9b0]) | skip)
        by_cases c10 : a0_0 = 3
        · rw [if_pos c10] at H
          have c10b0 : (a0_0 == 3) = true := beq_iff_eq.mpr c10
          have c10b1 : (a0_0 != 3) = false := bne_eq_false_iff_eq.mpr c10
          clear c10
          have H' := Aside0.mk H
          clear H
          go_wp2
          go_meet
          case rel => exact ⟨_, ((a0_0 == 3)), (by first | rfl | (simp; done) | (simp [*]; done)), H', ⟨by first | omega | exact Nat.le_refl _⟩, ⟨by (with_reducible repeat (first | refine blk_drewN ?_ _ | refine blk_drew ?_ | refine blk_alloc ?_ _)); exact BK213.out⟩, ⟨by repeat (first | (with_reducible first | exact HB.out | apply below_alloc | apply pw_below_drewN | apply below_drew1 | refine below_set ?_ GE213.out) | exact HB.out)⟩⟩
        · rw [if_neg c10] at H
          have c10b0 : (a0_0 == 3) = false := beq_eq_false_iff_ne.mpr c10
          have c10b1 : (a0_0 != 3) = true := bne_iff_ne.mpr c10
          by_cases c11 : a0_0 = 11
          · rw [if_pos c11] at H
            have c11b0 : (a0_0 == 11) = true := beq_iff_eq.mpr c11
            have c11b1 : (a0_0 != 11) = false := bne_eq_false_iff_eq.mpr c11
            clear c11
            have H' := Aside0.mk H
            clear H
            go_wp2
            go_meet
            case rel => exact ⟨_, ((a0_0 == 11)), (by first | rfl | (simp; done) | (simp [*]; done)), H', ⟨by first | omega | exact Nat.le_refl _⟩, ⟨by (with_reducible repeat (first | refine blk_drewN ?_ _ | refine blk_drew ?_ | refine blk_alloc ?_ _)); exact BK213.out⟩, ⟨by repeat (first | (with_reducible first | exact HB.out | apply below_alloc | apply pw_below_drewN | apply below_drew1 | refine below_set ?_ GE213.out) | exact HB.out)⟩⟩
          · rw [if_neg c11] at H
            have c11b0 : (a0_0 == 11) = false := beq_eq_false_iff_ne.mpr c11
            have c11b1 : (a0_0 != 11) = true := bne_iff_ne.mpr c11
            by_cases c12 : a0_0 = 13
            · rw [if_pos c12] at H
              have c12b0 : (a0_0 == 13) = true := beq_iff_eq.mpr c12
              have c12b1 : (a0_0 != 13) = false := bne_eq_false_iff_eq.mpr c12
              clear c12
              have H' := Aside0.mk H
              clear H
              go_wp2
              go_meet
              case rel => exact ⟨_, ((a0_0 == 13)), (by first | rfl | (simp; done) | (simp [*]; done)), H', ⟨by first | omega | exact Nat.le_refl _⟩, ⟨by (with_reducible repeat (first | refine blk_drewN ?_ _ | refine blk_drew ?_ | refine blk_alloc ?_ _)); exact BK213.out⟩, ⟨by repeat (first | (with_reducible first | exact HB.out | apply below_alloc | apply pw_below_drewN | apply below_drew1 | refine below_set ?_ GE213.out) | exact HB.out)⟩⟩
            · rw [if_neg c12] at H
              have c12b0 : (a0_0 == 13) = false := beq_eq_false_iff_ne.mpr c12
              have c12b1 : (a0_0 != 13) = true := bne_iff_ne.mpr c12
              have H' := Aside0.mk H
              clear H
              go_wp2
              go_meet
              case rel => exact ⟨_, ((a0_0 == 15)), (by first | rfl | (simp; done) | (simp [*]; done)), H', ⟨by first | omega | exact Nat.le_refl _⟩, ⟨by (with_reducible repeat (first | refine blk_drewN ?_ _ | refine blk_drew ?_ | refine blk_alloc ?_ _)); exact BK213.out⟩, ⟨by repeat (first | (with_reducible first | exact HB.out | apply below_alloc | apply pw_below_drewN | apply below_drew1 | refine below_set ?_ GE213.out) | exact HB.out)⟩⟩
    case rest =>
      clear HC4
      try clear c1
      try clear p2
      try clear c3
      try clear c9
      try clear c9b0
      try clear c9b1
      try clear c10
      try clear c10b0
      try clear c10b1
      try clear c11
      try clear c11b0
      try clear c11b1
      try clear c12
      try clear c12b0
      try clear c12b1
      try clear hcz6_0
      try clear hcz6_1
      try clear hcz8_0
      try clear hcz8_1
      try clear hfz6_0
      try clear hfz6_1
      try clear hfz8_0
      try clear hfz8_1
      obtain ⟨kq, x8_3, rfl, HA, HJ3, BK213, HB⟩ := hcut
      cases kq with
      | zero => exact absurd HA.out (by simp [bureauref21_Takes.j0])
      | succ kj3 =>
        have H := HA.out
        clear HA
        simp only [bureauref21_Takes.j0] at H
        by_cases c13 : x8_3 = true
        · subst c13
          have H1 : (some 1) = some r := by rw [if_pos rfl] at H; exact H
          clear H
          have H := H1
          clear H1
          obtain rfl := Option.some.inj H
          go_wp2
          go_ret
          exact ⟨by first | rfl | (simp [errW_none, errW_some] <;> rfl) | (simp [*, errW_none, errW_some] <;> rfl), by repeat (first | (with_reducible first | exact HB.out | apply below_alloc | apply pw_below_drewN | apply below_drew1 | refine below_set ?_ GE213.out) | exact HB.out)⟩
        · replace c13 := Bool.eq_false_iff.mpr c13
          subst c13
          have H1 : (if a0_0 = 4 then (bureauref21_Takes.j1 kj3 a0_0 (a0_0 == 4) a0_0 a0_1) else (if a0_0 = 5 then (bureauref21_Takes.j1 kj3 a0_0 (a0_0 == 5) a0_0 a0_1) else (if a0_0 = 6 then (bureauref21_Takes.j1 kj3 a0_0 (a0_0 == 6) a0_0 a0_1) else (if a0_0 = 7 then (bureauref21_Takes.j1 kj3 a0_0 (a0_0 == 7) a0_0 a0_1) else (if a0_0 = 8 then (bureauref21_Takes.j1 kj3 a0_0 (a0_0 == 8) a0_0 a0_1) else (if a0_0 = 9 then (bureauref21_Takes.j1 kj3 a0_0 (a0_0 == 9) a0_0 a0_1) else (bureauref21_Takes.j1 kj3 a0_0 (a0_0 == 10) a0_0 a0_1))))))) = some r := by rw [if_neg (show ¬ (false = true) by decide)] at H; exact H
          clear H
          have H := H1
          clear H1
          have HC14 := Aside0.mk H
          clear H
          go_upto_if 14 with (fail)
          go_cut [14] (fun v14 wc => ∃ (kq : Nat) (x14_13 : Bool), v14 = .bool x14_13 ∧ Aside0 (bureauref21_Takes.j1 kq a0_0 x14_13 a0_0 a0_1 = some r) ∧ Aside0 (kq ≤ kj3) ∧ Aside0 (wc.heap[gb213]? = some (.cells #[.int .i64 a0_0, .int .i64 a0_1] 36 (0, 0))) ∧ Aside0 (Below w.heap.size w wc))
          case first =>
            have H := HC14.out
            clear HC14
            by_cases c15 : a0_0 = 4
            · rw [if_pos c15] at H
              have c15b0 : (a0_0 == 4) = true := beq_iff_eq.mpr c15
              have c15b1 : (a0_0 != 4) = false := bne_eq_false_iff_eq.mpr c15
              clear c15
              (first | rw [c15b0] | (simp only [i64_w, i32_w]; rw [c15b0]) | skip)
              have H' := Aside0.mk H
              clear H
              go_wp2
              go_meet
              case rel => exact ⟨_, ((a0_0 == 4)), (by first | rfl | (simp; done) | (simp [*]; done)), H', ⟨by have := HJ3.out; first | omega | exact Nat.le_refl _⟩, ⟨by (with_reducible repeat (first | refine blk_drewN ?_ _ | refine blk_drew ?_ | refine blk_alloc ?_ _)); exact BK213.out⟩, ⟨by repeat (first | (with_reducible first | exact HB.out | apply below_alloc | apply pw_below_drewN | apply below_drew1 | refine below_set ?_ GE213.out) | exact HB.out)⟩⟩
            · rw [if_neg c15] at H
              have c15b0 : (a0_0 == 4) = false := beq_eq_false_iff_ne.mpr c15
              have c15b1 : (a0_0 != 4) = true := bne_iff_ne.mpr c15
              (first | rw [c15b0] | (simp only [i64_w, i32_w]; rw [c15b0]) | skip)
              by_cases c16 : a0_0 = 5
              · rw [if_pos c16] at H
                have c16b0 : (a0_0 == 5) = true := beq_iff_eq.mpr c16
                have c16b1 : (a0_0 != 5) = false := bne_eq_false_iff_eq.mpr c16
                clear c16
                have H' := Aside0.mk H
                clear H
                go_wp2
                go_meet
                case rel => exact ⟨_, ((a0_0 == 5)), (by first | rfl | (simp; done) | (simp [*]; done)), H', ⟨by have := HJ3.out; first | omega | exact Nat.le_refl _⟩, ⟨by (with_reducible repeat (first | refine blk_drewN ?_ _ | refine blk_drew ?_ | refine blk_alloc ?_ _)); exact BK213.out⟩, ⟨by repeat (first | (with_reducible first | exact HB.out | apply below_alloc | apply pw_below_drewN | apply below_drew1 | refine below_set ?_ GE213.out) | exact HB.out)⟩⟩
              · rw [if_neg c16] at H
                have c16b0 : (a0_0 == 5) = false := beq_eq_false_iff_ne.mpr c16
                have c16b1 : (a0_0 != 5) = true := bne_iff_ne.mpr c16
                by_cases c17 : a0_0 = 6
                · rw [if_pos c17] at H
                  have c17b0 : (a0_0 == 6) = true := beq_iff_eq.mpr c17
                  have c17b1 : (a0_0 != 6) = false := bne_eq_false_iff_eq.mpr c17
                  clear c17
                  have H' := Aside0.mk H
                  clear H
                  go_wp2
                  go_meet
                  case rel => exact ⟨_, ((a0_0 == 6)), (by first | rfl | (simp; done) | (simp [*]; done)), H', ⟨by have := HJ3.out; first | omega | exact Nat.le_refl _⟩, ⟨by (with_reducible repeat (first | refine blk_drewN ?_ _ | refine blk_drew ?_ | refine blk_alloc ?_ _)); exact BK213.out⟩, ⟨by repeat (first | (with_reducible first | exact HB.out | apply below_alloc | apply pw_below_drewN | apply below_drew1 | refine below_set ?_ GE213.out) | exact HB.out)⟩⟩
                · rw [if_neg c17] at H
                  have c17b0 : (a0_0 == 6) = false := beq_eq_false_iff_ne.mpr c17
                  have c17b1 : (a0_0 != 6) = true := bne_iff_ne.mpr c17
                  by_cases c18 : a0_0 = 7
                  · rw [if_pos c18] at H
                    have c18b0 : (a0_0 == 7) = true := beq_iff_eq.mpr c18
                    have c18b1 : (a0_0 != 7) = false := bne_eq_false_iff_eq.mpr c18
                    clear c18
                    have H' := Aside0.mk H
                    clear H
                    go_wp2
                    go_meet
                    case rel => exact ⟨_, ((a0_0 == 7)), (by first | rfl | (simp; done) | (simp [*]; done)), H', ⟨by have := HJ3.out; first | omega | exact Nat.le_refl _⟩, ⟨by (with_reducible repeat (first | refine blk_drewN ?_ _ | refine blk_drew ?_ | refine blk_alloc ?_ _)); exact BK213.out⟩, ⟨by repeat (first | (with_reducible first | exact HB.out | apply below_alloc | apply pw_below_drewN | apply below_drew1 | refine below_set ?_ GE213.out) | exact HB.out)⟩⟩
                  · rw [if_neg c18] at H
                    have c18b0 : (a0_0 == 7) = false := beq_eq_false_iff_ne.mpr c18
                    have c18b1 : (a0_0 != 7) = true := bne_iff_ne.mpr c18
                    by_cases c19 : a0_0 = 8
                    · rw [if_pos c19] at H
                      have c19b0 : (a0_0 == 8) = true := beq_iff_eq.mpr c19
                      have c19b1 : (a0_0 != 8) = false := bne_eq_false_iff_eq.mpr c19
                      clear c19
                      have H' := Aside0.mk H
                      clear H
                      go_wp2
                      go_meet
                      case rel => exact ⟨_, ((a0_0 == 8)), (by first | rfl | (simp; done) | (simp [*]; done)), H', ⟨by have := HJ3.out; first | omega | exact Nat.le_refl _⟩, ⟨by (with_reducible repeat (first | refine blk_drewN ?_ _ | refine blk_drew ?_ | refine blk_alloc ?_ _)); exact BK213.out⟩, ⟨by repeat (first | (with_reducible first | exact HB.out | apply below_alloc | apply pw_below_drewN | apply below_drew1 | refine below_set ?_ GE213.out) | exact HB.out)⟩⟩
                    · rw [if_neg c19] at H
                      have c19b0 : (a0_0 == 8) = false := beq_eq_false_iff_ne.mpr c19
                      have c19b1 : (a0_0 != 8) = true := bne_iff_ne.mpr c19
                      by_cases c20 : a0_0 = 9
                      · rw [if_pos c20] at H
                        have c20b0 : (a0_0 == 9) = true := beq_iff_eq.mpr c20
                        have c20b1 : (a0_0 != 9) = false := bne_eq_false_iff_eq.mpr c20
                        clear c20
                        have H' := Aside0.mk H
                        clear H
                        go_wp2
                        go_meet
                        case rel => exact ⟨_, ((a0_0 == 9)), (by first | rfl | (simp; done) | (simp [*]; done)), H', ⟨by have := HJ3.out; first | omega | exact Nat.le_refl _⟩, ⟨by (with_reducible repeat (first | refine blk_drewN ?_ _ | refine blk_drew ?_ | refine blk_alloc ?_ _)); exact BK213.out⟩, ⟨by repeat (first | (with_reducible first | exact HB.out | apply below_alloc | apply pw_below_drewN | apply below_drew1 | refine below_set ?_ GE213.out) | exact HB.out)⟩⟩
                      · rw [if_neg c20] at H
                        have c20b0 : (a0_0 == 9) = false := beq_eq_false_iff_ne.mpr c20
                        have c20b1 : (a0_0 != 9) = true := bne_iff_ne.mpr c20
                        have H' := Aside0.mk H
                        clear H
                        go_wp2
                        go_meet
                        case rel => exact ⟨_, ((a0_0 == 10)), (by first | rfl | (simp; done) | (simp [*]; done)), H', ⟨by have := HJ3.out; first | omega | exact Nat.le_refl _⟩, ⟨by (with_reducible repeat (first | refine blk_drewN ?_ _ | refine blk_drew ?_ | refine blk_alloc ?_ _)); exact BK213.out⟩, ⟨by repeat (first | (with_reducible first | exact HB.out | apply below_alloc | apply pw_below_drewN | apply below_drew1 | refine below_set ?_ GE213.out) | exact HB.out)⟩⟩
          case rest =>
            clear HC14
            try clear c1
            try clear c2
            try clear p2
            try clear c3
            try clear c9
            try clear c9b0
            try clear c9b1
            try clear c10
            try clear c10b0
            try clear c10b1
            try clear c11
            try clear c11b0
            try clear c11b1
            try clear c12
            try clear c12b0
            try clear c12b1
            try clear c13
            try clear c14
            try clear c15
            try clear c15b0
            try clear c15b1
            try clear c16
            try clear c16b0
            try clear c16b1
            try clear c17
            try clear c17b0
            try clear c17b1
            try clear c18
            try clear c18b0
            try clear c18b1
            try clear c19
            try clear c19b0
            try clear c19b1
            try clear c20
            try clear c20b0
            try clear c20b1
            try clear hcz6_0
            try clear hcz6_1
            try clear hcz8_0
            try clear hcz8_1
            try clear hfz6_0
            try clear hfz6_1
            try clear hfz8_0
            try clear hfz8_1
            try clear p2
            obtain ⟨kq, x14_13, rfl, HA, HJ13, BK213, HB⟩ := hcut
            cases kq with
            | zero => exact absurd HA.out (by simp [bureauref21_Takes.j1])
            | succ kj13 =>
              have H := HA.out
              clear HA
              simp only [bureauref21_Takes.j1] at H
              by_cases c21 : x14_13 = true
              · subst c21
                have H1 : (some 2) = some r := by rw [if_pos rfl] at H; exact H
                clear H
                have H := H1
                clear H1
                obtain rfl := Option.some.inj H
                go_wp2
                go_ret
                exact ⟨by first | rfl | (simp [errW_none, errW_some] <;> rfl) | (simp [*, errW_none, errW_some] <;> rfl), by repeat (first | (with_reducible first | exact HB.out | apply below_alloc | apply pw_below_drewN | apply below_drew1 | refine below_set ?_ GE213.out) | exact HB.out)⟩
              · replace c21 := Bool.eq_false_iff.mpr c21
                subst c21
                have H1 : (if a0_0 = 16 then (if a0_1 = 0 then (bureauref21_Takes.j2 kj13 a0_1 (a0_1 == 0)) else (if a0_1 = 1 then (bureauref21_Takes.j2 kj13 a0_1 (a0_1 == 1)) else (bureauref21_Takes.j2 kj13 a0_1 (a0_1 == 2)))) else (some 0)) = some r := by rw [if_neg (show ¬ (false = true) by decide)] at H; exact H
                clear H
                have H := H1
                clear H1
                by_cases c22 : a0_0 = 16
                · rw [if_pos c22] at H
                  have c22b0 : (a0_0 == 16) = true := beq_iff_eq.mpr c22
                  have c22b1 : (a0_0 != 16) = false := bne_eq_false_iff_eq.mpr c22
                  clear c22
                  have HC23 := Aside0.mk H
                  clear H
                  have hcz24_0 : wc.cell? ⟨gb213, 0, none⟩ = some (.int .i64 a0_0) := (blk_cell BK213.out 0).trans rfl
                  have hcz24_1 : wc.cell? ⟨gb213, 1, none⟩ = some (.int .i64 a0_1) := (blk_cell BK213.out 1).trans rfl
                  have hfz24_0 := blk_frozen BK213.out 0
                  have hfz24_1 := blk_frozen BK213.out 1
                  go_upto_if 26 with (fail)
                  go_cut [26] (fun v26 wc => ∃ (kq : Nat) (x26_22 : Bool), v26 = .bool x26_22 ∧ Aside0 (bureauref21_Takes.j2 kq a0_1 x26_22 = some r) ∧ Aside0 (kq ≤ kj13) ∧ Aside0 (wc.heap[gb213]? = some (.cells #[.int .i64 a0_0, .int .i64 a0_1] 36 (0, 0))) ∧ Aside0 (Below w.heap.size w wc))
                  case first =>
                    have H := HC23.out
                    clear HC23
                    by_cases c25 : a0_1 = 0
                    · rw [if_pos c25] at H
                      have c25b0 : (a0_1 == 0) = true := beq_iff_eq.mpr c25
                      have c25b1 : (a0_1 != 0) = false := bne_eq_false_iff_eq.mpr c25
                      clear c25
                      (first | rw [c25b0] | (simp only [i64_w, i32_w]; rw [c25b0]) | skip)
                      have H' := Aside0.mk H
                      clear H
                      go_wp2
                      go_meet
                      case rel => exact ⟨_, ((a0_1 == 0)), (by first | rfl | (simp; done) | (simp [*]; done)), H', ⟨by have := HJ3.out; have := HJ13.out; first | omega | exact Nat.le_refl _⟩, ⟨by (with_reducible repeat (first | refine blk_drewN ?_ _ | refine blk_drew ?_ | refine blk_alloc ?_ _)); exact BK213.out⟩, ⟨by repeat (first | (with_reducible first | exact HB.out | apply below_alloc | apply pw_below_drewN | apply below_drew1 | refine below_set ?_ GE213.out) | exact HB.out)⟩⟩
                    · rw [if_neg c25] at H
                      have c25b0 : (a0_1 == 0) = false := beq_eq_false_iff_ne.mpr c25
                      have c25b1 : (a0_1 != 0) = true := bne_iff_ne.mpr c25
                      (first | rw [c25b0] | (simp only [i64_w, i32_w]; rw [c25b0]) | skip)
                      by_cases c26 : a0_1 = 1
                      · rw [if_pos c26] at H
                        have c26b0 : (a0_1 == 1) = true := beq_iff_eq.mpr c26
                        have c26b1 : (a0_1 != 1) = false := bne_eq_false_iff_eq.mpr c26
                        clear c26
                        have H' := Aside0.mk H
                        clear H
                        go_wp2
                        go_meet
                        case rel => exact ⟨_, ((a0_1 == 1)), (by first | rfl | (simp; done) | (simp [*]; done)), H', ⟨by have := HJ3.out; have := HJ13.out; first | omega | exact Nat.le_refl _⟩, ⟨by (with_reducible repeat (first | refine blk_drewN ?_ _ | refine blk_drew ?_ | refine blk_alloc ?_ _)); exact BK213.out⟩, ⟨by repeat (first | (with_reducible first | exact HB.out | apply below_alloc | apply pw_below_drewN | apply below_drew1 | refine below_set ?_ GE213.out) | exact HB.out)⟩⟩
                      · rw [if_neg c26] at H
                        have c26b0 : (a0_1 == 1) = false := beq_eq_false_iff_ne.mpr c26
                        have c26b1 : (a0_1 != 1) = true := bne_iff_ne.mpr c26
                        have H' := Aside0.mk H
                        clear H
                        go_wp2
                        go_meet
                        case rel => exact ⟨_, ((a0_1 == 2)), (by first | rfl | (simp; done) | (simp [*]; done)), H', ⟨by have := HJ3.out; have := HJ13.out; first | omega | exact Nat.le_refl _⟩, ⟨by (with_reducible repeat (first | refine blk_drewN ?_ _ | refine blk_drew ?_ | refine blk_alloc ?_ _)); exact BK213.out⟩, ⟨by repeat (first | (with_reducible first | exact HB.out | apply below_alloc | apply pw_below_drewN | apply below_drew1 | refine below_set ?_ GE213.out) | exact HB.out)⟩⟩
                  case rest =>
                    clear HC23
                    try clear c1
                    try clear c2
                    try clear p2
                    try clear c3
                    try clear c9
                    try clear c9b0
                    try clear c9b1
                    try clear c10
                    try clear c10b0
                    try clear c10b1
                    try clear c11
                    try clear c11b0
                    try clear c11b1
                    try clear c12
                    try clear c12b0
                    try clear c12b1
                    try clear c13
                    try clear c14
                    try clear c15
                    try clear c15b0
                    try clear c15b1
                    try clear c16
                    try clear c16b0
                    try clear c16b1
                    try clear c17
                    try clear c17b0
                    try clear c17b1
                    try clear c18
                    try clear c18b0
                    try clear c18b1
                    try clear c19
                    try clear c19b0
                    try clear c19b1
                    try clear c20
                    try clear c20b0
                    try clear c20b1
                    try clear c21
                    try clear c22
                    try clear c22b0
                    try clear c22b1
                    try clear c25
                    try clear c25b0
                    try clear c25b1
                    try clear c26
                    try clear c26b0
                    try clear c26b1
                    try clear hcz24_0
                    try clear hcz24_1
                    try clear hcz6_0
                    try clear hcz6_1
                    try clear hcz8_0
                    try clear hcz8_1
                    try clear hfz24_0
                    try clear hfz24_1
                    try clear hfz6_0
                    try clear hfz6_1
                    try clear hfz8_0
                    try clear hfz8_1
                    try clear p2
                    obtain ⟨kq, x26_22, rfl, HA, HJ22, BK213, HB⟩ := hcut
                    cases kq with
                    | zero => exact absurd HA.out (by simp [bureauref21_Takes.j2])
                    | succ kj22 =>
                      have H := HA.out
                      clear HA
                      simp only [bureauref21_Takes.j2] at H
                      by_cases c27 : x26_22 = true
                      · subst c27
                        have H1 : (some 3) = some r := by rw [if_pos rfl] at H; exact H
                        clear H
                        have H := H1
                        clear H1
                        obtain rfl := Option.some.inj H
                        go_wp2
                        go_ret
                        exact ⟨by first | rfl | (simp [errW_none, errW_some] <;> rfl) | (simp [*, errW_none, errW_some] <;> rfl), by repeat (first | (with_reducible first | exact HB.out | apply below_alloc | apply pw_below_drewN | apply below_drew1 | refine below_set ?_ GE213.out) | exact HB.out)⟩
                      · replace c27 := Bool.eq_false_iff.mpr c27
                        subst c27
                        have H1 : (if a0_1 = 3 then (bureauref21_Takes.j3 kj22 a0_1 (a0_1 == 3)) else (bureauref21_Takes.j3 kj22 a0_1 (a0_1 == 7))) = some r := by rw [if_neg (show ¬ (false = true) by decide)] at H; exact H
                        clear H
                        have H := H1
                        clear H1
                        have HC28 := Aside0.mk H
                        clear H
                        go_upto_if 30 with (fail)
                        go_cut [30] (fun v30 wc => ∃ (kq : Nat) (x30_27 : Bool), v30 = .bool x30_27 ∧ Aside0 (bureauref21_Takes.j3 kq a0_1 x30_27 = some r) ∧ Aside0 (kq ≤ kj22) ∧ Aside0 (wc.heap[gb213]? = some (.cells #[.int .i64 a0_0, .int .i64 a0_1] 36 (0, 0))) ∧ Aside0 (Below w.heap.size w wc))
                        case first =>
                          have H := HC28.out
                          clear HC28
                          by_cases c29 : a0_1 = 3
                          · rw [if_pos c29] at H
                            have c29b0 : (a0_1 == 3) = true := beq_iff_eq.mpr c29
                            have c29b1 : (a0_1 != 3) = false := bne_eq_false_iff_eq.mpr c29
                            clear c29
                            (first | rw [c29b0] | (simp only [i64_w, i32_w]; rw [c29b0]) | skip)
                            have H' := Aside0.mk H
                            clear H
                            go_wp2
                            go_meet
                            case rel => exact ⟨_, ((a0_1 == 3)), (by first | rfl | (simp; done) | (simp [*]; done)), H', ⟨by have := HJ3.out; have := HJ13.out; have := HJ22.out; first | omega | exact Nat.le_refl _⟩, ⟨by (with_reducible repeat (first | refine blk_drewN ?_ _ | refine blk_drew ?_ | refine blk_alloc ?_ _)); exact BK213.out⟩, ⟨by repeat (first | (with_reducible first | exact HB.out | apply below_alloc | apply pw_below_drewN | apply below_drew1 | refine below_set ?_ GE213.out) | exact HB.out)⟩⟩
                          · rw [if_neg c29] at H
                            have c29b0 : (a0_1 == 3) = false := beq_eq_false_iff_ne.mpr c29
                            have c29b1 : (a0_1 != 3) = true := bne_iff_ne.mpr c29
                            (first | rw [c29b0] | (simp only [i64_w, i32_w]; rw [c29b0]) | skip)
                            have H' := Aside0.mk H
                            clear H
                            go_wp2
                            go_meet
                            case rel => exact ⟨_, ((a0_1 == 7)), (by first | rfl | (simp; done) | (simp [*]; done)), H', ⟨by have := HJ3.out; have := HJ13.out; have := HJ22.out; first | omega | exact Nat.le_refl _⟩, ⟨by (with_reducible repeat (first | refine blk_drewN ?_ _ | refine blk_drew ?_ | refine blk_alloc ?_ _)); exact BK213.out⟩, ⟨by repeat (first | (with_reducible first | exact HB.out | apply below_alloc | apply pw_below_drewN | apply below_drew1 | refine below_set ?_ GE213.out) | exact HB.out)⟩⟩
                        case rest =>
                          clear HC28
                          try clear c1
                          try clear c2
                          try clear p2
                          try clear c3
                          try clear c9
                          try clear c9b0
                          try clear c9b1
                          try clear c10
                          try clear c10b0
                          try clear c10b1
                          try clear c11
                          try clear c11b0
                          try clear c11b1
                          try clear c12
                          try clear c12b0
                          try clear c12b1
                          try clear c13
                          try clear c14
                          try clear c15
                          try clear c15b0
                          try clear c15b1
                          try clear c16
                          try clear c16b0
                          try clear c16b1
                          try clear c17
                          try clear c17b0
                          try clear c17b1
                          try clear c18
                          try clear c18b0
                          try clear c18b1
                          try clear c19
                          try clear c19b0
                          try clear c19b1
                          try clear c20
                          try clear c20b0
                          try clear c20b1
                          try clear c21
                          try clear c22
                          try clear c22b0
                          try clear c22b1
                          try clear c25
                          try clear c25b0
                          try clear c25b1
                          try clear c26
                          try clear c26b0
                          try clear c26b1
                          try clear c27
                          try clear c29
                          try clear c29b0
                          try clear c29b1
                          try clear hcz24_0
                          try clear hcz24_1
                          try clear hcz6_0
                          try clear hcz6_1
                          try clear hcz8_0
                          try clear hcz8_1
                          try clear hfz24_0
                          try clear hfz24_1
                          try clear hfz6_0
                          try clear hfz6_1
                          try clear hfz8_0
                          try clear hfz8_1
                          try clear p2
                          obtain ⟨kq, x30_27, rfl, HA, HJ27, BK213, HB⟩ := hcut
                          cases kq with
                          | zero => exact absurd HA.out (by simp [bureauref21_Takes.j3])
                          | succ kj27 =>
                            have H := HA.out
                            clear HA
                            simp only [bureauref21_Takes.j3] at H
                            by_cases c30 : x30_27 = true
                            · subst c30
                              have H1 : (some 2) = some r := by rw [if_pos rfl] at H; exact H
                              clear H
                              have H := H1
                              clear H1
                              obtain rfl := Option.some.inj H
                              go_wp2
                              go_ret
                              exact ⟨by first | rfl | (simp [errW_none, errW_some] <;> rfl) | (simp [*, errW_none, errW_some] <;> rfl), by repeat (first | (with_reducible first | exact HB.out | apply below_alloc | apply pw_below_drewN | apply below_drew1 | refine below_set ?_ GE213.out) | exact HB.out)⟩
                            · replace c30 := Bool.eq_false_iff.mpr c30
                              subst c30
                              have H1 : (if a0_1 = 4 then (some 4) else (if a0_1 = 6 then (some 1) else (some 0))) = some r := by rw [if_neg (show ¬ (false = true) by decide)] at H; exact H
                              clear H
                              have H := H1
                              clear H1
                              by_cases c31 : a0_1 = 4
                              · rw [if_pos c31] at H
                                have c31b0 : (a0_1 == 4) = true := beq_iff_eq.mpr c31
                                have c31b1 : (a0_1 != 4) = false := bne_eq_false_iff_eq.mpr c31
                                clear c31
                                obtain rfl := Option.some.inj H
                                go_wp2
                                go_ret
                                exact ⟨by first | rfl | (simp [errW_none, errW_some] <;> rfl) | (simp [*, errW_none, errW_some] <;> rfl), by repeat (first | (with_reducible first | exact HB.out | apply below_alloc | apply pw_below_drewN | apply below_drew1 | refine below_set ?_ GE213.out) | exact HB.out)⟩
                              · rw [if_neg c31] at H
                                have c31b0 : (a0_1 == 4) = false := beq_eq_false_iff_ne.mpr c31
                                have c31b1 : (a0_1 != 4) = true := bne_iff_ne.mpr c31
                                by_cases c32 : a0_1 = 6
                                · rw [if_pos c32] at H
                                  have c32b0 : (a0_1 == 6) = true := beq_iff_eq.mpr c32
                                  have c32b1 : (a0_1 != 6) = false := bne_eq_false_iff_eq.mpr c32
                                  clear c32
                                  obtain rfl := Option.some.inj H
                                  go_wp2
                                  go_ret
                                  exact ⟨by first | rfl | (simp [errW_none, errW_some] <;> rfl) | (simp [*, errW_none, errW_some] <;> rfl), by repeat (first | (with_reducible first | exact HB.out | apply below_alloc | apply pw_below_drewN | apply below_drew1 | refine below_set ?_ GE213.out) | exact HB.out)⟩
                                · rw [if_neg c32] at H
                                  have c32b0 : (a0_1 == 6) = false := beq_eq_false_iff_ne.mpr c32
                                  have c32b1 : (a0_1 != 6) = true := bne_iff_ne.mpr c32
                                  obtain rfl := Option.some.inj H
                                  go_wp2
                                  go_ret
                                  exact ⟨by first | rfl | (simp [errW_none, errW_some] <;> rfl) | (simp [*, errW_none, errW_some] <;> rfl), by repeat (first | (with_reducible first | exact HB.out | apply below_alloc | apply pw_below_drewN | apply below_drew1 | refine below_set ?_ GE213.out) | exact HB.out)⟩
                · rw [if_neg c22] at H
                  have c22b0 : (a0_0 == 16) = false := beq_eq_false_iff_ne.mpr c22
                  have c22b1 : (a0_0 != 16) = true := bne_iff_ne.mpr c22
                  obtain rfl := Option.some.inj H
                  go_wp2
                  go_ret
                  exact ⟨by first | rfl | (simp [errW_none, errW_some] <;> rfl) | (simp [*, errW_none, errW_some] <;> rfl), by repeat (first | (with_reducible first | exact HB.out | apply below_alloc | apply pw_below_drewN | apply below_drew1 | refine below_set ?_ GE213.out) | exact HB.out)⟩
  · replace c3 := Bool.eq_false_iff.mpr c3
    subst c3
    have H1 : (some (-1)) = some r := by rw [if_neg (show ¬ (false = true) by decide)] at H; exact H
    clear H
    have H := H1
    clear H1
    obtain rfl := Option.some.inj H
    go_enter Try.func14, Try.ntmps14
    go_wp2_with (first | ((with_reducible refine gate_dst (N := 1) rfl ?_); refine box_event ?hg (N := 1) ?hd (cs := #[.int .i64 a0_0, .int .i64 a0_1]) (t := 36) ?hr ?_; (case hd => rfl); (case hg => rfl); (case hr => first | (go_simp; done) | (go_simp; rfl)); intro gb213 hg w33 hbox hb; have n0_ := Aside0.mk (below_step (by repeat (first | (with_reducible first | exact HB.out | apply below_alloc | apply pw_below_drewN | apply below_drew1) | exact HB.out)) hb); have n1_ := Aside0.mk (hbox); have n2_ := Aside0.mk ((by rw [hg]; exact (below_size (by repeat (first | (with_reducible first | exact HB.out | apply below_alloc | apply pw_below_drewN | apply below_drew1) | exact HB.out))) : w.heap.size ≤ gb213)); have n3_ := Aside0.mk ((by rw [hg]; exact (below_size (by repeat (first | (with_reducible first | exact HB.out | apply below_alloc | apply pw_below_drewN | apply below_drew1) | exact HB.out))) : w.heap.size ≤ gb213)); clear HB; have HB := n0_; have BK213 := n1_; have GW213 := n2_; have GE213 := n3_; clear n0_ n1_ n2_ n3_; clear hb hbox hg; have hcz34_0 : w33.cell? ⟨gb213, 0, none⟩ = some (.int .i64 a0_0) := (blk_cell BK213.out 0).trans rfl; have hcz34_1 : w33.cell? ⟨gb213, 1, none⟩ = some (.int .i64 a0_1) := (blk_cell BK213.out 1).trans rfl; have hfz34_0 := blk_frozen BK213.out 0; have hfz34_1 := blk_frozen BK213.out 1) | ((with_reducible refine gate_callee (f := 13) rfl ?_); refine goesL_ (some 4) rfl rfl Try.func13 (by kernel_rfl) rfl #[.agg #[.int .i64 a0_0, .int .i64 a0_1]] rfl (by (try simp only [List.map_toArray, List.map_cons, List.map_nil]); first | done | rfl | (simp only [List.length_drop, List.length_take]; rfl)) ?_; (with_reducible refine (bureauref21_May.calls k a0_0 a0_1 false _ A2.out).mono ?_); rintro e w35 ⟨rfl, hb⟩; refine ⟨_, rfl, ?_⟩; have n0_ := Aside0.mk (blk_below (g := gb213) (o := .cells #[.int .i64 a0_0, .int .i64 a0_1] 36 (0, 0)) (by (with_reducible repeat (first | refine blk_drewN ?_ _ | refine blk_drew ?_ | refine blk_alloc ?_ _)); exact BK213.out) hb); have n1_ := Aside0.mk (below_step (by repeat (first | (with_reducible first | exact HB.out | apply below_alloc | apply pw_below_drewN | apply below_drew1 | refine below_set ?_ GE213.out) | exact HB.out)) hb); clear BK213; clear HB; have BK213 := n0_; have HB := n1_; clear n0_ n1_; (try clear hb); (try clear hb2); (try clear hk); (try clear hi)))
    go_ret
    exact ⟨by first | rfl | (simp [errW_none, errW_some] <;> rfl) | (simp [*, errW_none, errW_some] <;> rfl), by repeat (first | (with_reducible first | exact HB.out | apply below_alloc | apply pw_below_drewN | apply below_drew1 | refine below_set ?_ GE213.out) | exact HB.out)⟩

end Go.Proofs.Ytlpiknclbgogbaa.XCodeAsks
