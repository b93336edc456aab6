-- Written by this session's program (wip/xprint.py) with the kit's print, for this claim.
import Derived.Test.YtcinobfflfkmjaaDoorXObjectFindsx0
import Derived.Test.YtcinobfflfkmjaaDoorXObjectFindsx7
namespace Go.Proofs.YtcinobfflfkmjaaDoor.XObjectFinds
open Go.RowKit Go.Proofs.YtcinobfflfkmjaaDoorW.PrintWords Go.Proofs.YtcinobfflfkmjaaDoorW.PrintLast Go.Proofs.YtcinobfflfkmjaaDoorW.PrintMore Go.Proofs.YtcinobfflfkmjaaDoor.Ext
attribute [local go_sem] max2_int min2_int max_two min_two max_three min_three max_four min_four   -- for this text's walks alone
set_option linter.unusedVariables false
set_option linter.unusedSimpArgs false

/-! ### bureauref13_word: function 18 -/
mutual
def bureauref13_word.j1 : Nat → Bool → List (S41) → Int → Option (Int × Int)
  | 0, _, _, _ => none
  | k + 1, x2, x8, x9 => if 0 ≤ x9 then (if x9 < (x8.length : Int) then (if x2 = true then (if (wrap64 (x9 + 1)) < (x8.length : Int) then (if 0 ≤ (wrap64 (x9 + 1)) then (bureauref13_word.j2 k x8 x9 ((rd_T41 x8 x9).f0) ((rd_T41 x8 x9).f1) ((rd_T41 x8 (wrap64 (x9 + 1))).f2) (-1)) else (none)) else (bureauref13_word.j2 k x8 x9 ((rd_T41 x8 x9).f0) ((rd_T41 x8 x9).f1) (-1) (-1))) else (some ((rd_T41 x8 x9).f0, (rd_T41 x8 x9).f1))) else (none)) else (none)
def bureauref13_word.j2 : Nat → List (S41) → Int → Int → Int → Int → Int → Option (Int × Int)
  | 0, _, _, _, _, _, _ => none
  | k + 1, x8, x9, x10, x11, x12, x13 => if x9 > 0 then (if 0 ≤ (wrap64 (x9 - 1)) then (if (wrap64 (x9 - 1)) < (x8.length : Int) then (bureauref13_word.j3 k x8 x9 x10 x11 x12 ((rd_T41 x8 (wrap64 (x9 - 1))).f2)) else (none)) else (none)) else (bureauref13_word.j3 k x8 x9 x10 x11 x12 x13)
def bureauref13_word.j3 : Nat → List (S41) → Int → Int → Int → Int → Int → Option (Int × Int)
  | 0, _, _, _, _, _, _ => none
  | k + 1, x8, x9, x10, x11, x12, x13 => if 0 ≤ x9 then (if x9 < (x8.length : Int) then (if ((rd_T41 x8 x9).f2) = 0 then (if x12 ≥ 0 then (bureauref13_word.j4 k x8 x9 x10 x11 x12 x13 (x12 != 3)) else (bureauref13_word.j4 k x8 x9 x10 x11 x12 x13 false)) else (bureauref13_word.j4 k x8 x9 x10 x11 x12 x13 false)) else (none)) else (none)
def bureauref13_word.j4 : Nat → List (S41) → Int → Int → Int → Int → Int → Bool → Option (Int × Int)
  | 0, _, _, _, _, _, _, _ => none
  | k + 1, x8, x9, x10, x11, x12, x13, x65 => if x65 = true then (if 0 ≤ (wrap64 (x9 + 1)) then (if (wrap64 (x9 + 1)) < (x8.length : Int) then (some (x10, (rd_T41 x8 (wrap64 (x9 + 1))).f1)) else (none)) else (none)) else (if 0 ≤ x9 then (if x9 < (x8.length : Int) then (if ((rd_T41 x8 x9).f2) = 0 then (some (x10, x11)) else (if x12 = 0 then (if 0 ≤ (wrap64 (x9 + 1)) then (if (wrap64 (x9 + 1)) < (x8.length : Int) then (some (x10, (rd_T41 x8 (wrap64 (x9 + 1))).f1)) else (none)) else (none)) else (if x13 = 0 then (if 0 ≤ (wrap64 (x9 - 1)) then (if (wrap64 (x9 - 1)) < (x8.length : Int) then (some ((rd_T41 x8 (wrap64 (x9 - 1))).f0, x11)) else (none)) else (none)) else (some (x10, x11))))) else (none)) else (none))
def bureauref13_word.l0 : Nat → Int → Bool → List (S41) → Int → Option (Int × Int)
  | 0, _, _, _, _ => none
  | k + 1, x1, x2, x8, x9 => if (wrap64 (x9 + 1)) < (x8.length : Int) then (if 0 ≤ x9 then (if x9 < (x8.length : Int) then (if ((rd_T41 x8 x9).f1) ≤ x1 then (bureauref13_word.l0 k x1 x2 x8 (wrap64 (x9 + 1))) else (bureauref13_word.j1 k x2 x8 x9)) else (none)) else (none)) else (bureauref13_word.j1 k x2 x8 x9)
end
def bureauref13_word.f (k : Nat) (a0 : ByteArray) (a1 : Int) (a2 : Bool) : Option (Int × Int) := (bureauref13_Rows.f k a0).bind fun t232 => (bureauref13_word.l0 k a1 a2 t232 0)
theorem bureauref13_word.mono_l : ∀ k, (∀ y0 y1 y2, LeO (bureauref13_word.j1 k y0 y1 y2) (bureauref13_word.j1 (k + 1) y0 y1 y2)) ∧ (∀ y0 y1 y2 y3 y4 y5, LeO (bureauref13_word.j2 k y0 y1 y2 y3 y4 y5) (bureauref13_word.j2 (k + 1) y0 y1 y2 y3 y4 y5)) ∧ (∀ y0 y1 y2 y3 y4 y5, LeO (bureauref13_word.j3 k y0 y1 y2 y3 y4 y5) (bureauref13_word.j3 (k + 1) y0 y1 y2 y3 y4 y5)) ∧ (∀ y0 y1 y2 y3 y4 y5 y6, LeO (bureauref13_word.j4 k y0 y1 y2 y3 y4 y5 y6) (bureauref13_word.j4 (k + 1) y0 y1 y2 y3 y4 y5 y6)) ∧ (∀ y0 y1 y2 y3, LeO (bureauref13_word.l0 k y0 y1 y2 y3) (bureauref13_word.l0 (k + 1) y0 y1 y2 y3))
  | 0 => ⟨fun _ _ _ r h => by simp [bureauref13_word.j1] at h, fun _ _ _ _ _ _ r h => by simp [bureauref13_word.j2] at h, fun _ _ _ _ _ _ r h => by simp [bureauref13_word.j3] at h, fun _ _ _ _ _ _ _ r h => by simp [bureauref13_word.j4] at h, fun _ _ _ _ r h => by simp [bureauref13_word.l0] at h⟩
  | k + 1 => by
    obtain ⟨ih0, ih1, ih2, ih3, ih4⟩ := bureauref13_word.mono_l k
    refine ⟨?_, ?_, ?_, ?_, ?_⟩
    · intro y0 y1 y2
      unfold bureauref13_word.j1
      repeat' first
      | (with_reducible exact ih0 _ _ _)
      | (with_reducible exact ih1 _ _ _ _ _ _)
      | (with_reducible exact ih2 _ _ _ _ _ _)
      | (with_reducible exact ih3 _ _ _ _ _ _ _)
      | (with_reducible exact ih4 _ _ _ _)
      | (with_reducible exact bureauref13_Rows.mono _ _)
      | (with_reducible exact LeO.refl _)
      | (with_reducible exact LeO.none _)
      | (with_reducible refine LeO.ite ?_ ?_)
      | (with_reducible refine LeO.bind ?_ (fun _ => ?_))
      | exact ih0 _ _ _
      | exact ih1 _ _ _ _ _ _
      | exact ih2 _ _ _ _ _ _
      | exact ih3 _ _ _ _ _ _ _
      | exact ih4 _ _ _ _
      | exact bureauref13_Rows.mono _ _
      | exact LeO.none _
      | refine LeO.ite ?_ ?_
      | refine LeO.bind ?_ (fun _ => ?_)
    · intro y0 y1 y2 y3 y4 y5
      unfold bureauref13_word.j2
      repeat' first
      | (with_reducible exact ih0 _ _ _)
      | (with_reducible exact ih1 _ _ _ _ _ _)
      | (with_reducible exact ih2 _ _ _ _ _ _)
      | (with_reducible exact ih3 _ _ _ _ _ _ _)
      | (with_reducible exact ih4 _ _ _ _)
      | (with_reducible exact bureauref13_Rows.mono _ _)
      | (with_reducible exact LeO.refl _)
      | (with_reducible exact LeO.none _)
      | (with_reducible refine LeO.ite ?_ ?_)
      | (with_reducible refine LeO.bind ?_ (fun _ => ?_))
      | exact ih0 _ _ _
      | exact ih1 _ _ _ _ _ _
      | exact ih2 _ _ _ _ _ _
      | exact ih3 _ _ _ _ _ _ _
      | exact ih4 _ _ _ _
      | exact bureauref13_Rows.mono _ _
      | exact LeO.none _
      | refine LeO.ite ?_ ?_
      | refine LeO.bind ?_ (fun _ => ?_)
    · intro y0 y1 y2 y3 y4 y5
      unfold bureauref13_word.j3
      repeat' first
      | (with_reducible exact ih0 _ _ _)
      | (with_reducible exact ih1 _ _ _ _ _ _)
      | (with_reducible exact ih2 _ _ _ _ _ _)
      | (with_reducible exact ih3 _ _ _ _ _ _ _)
      | (with_reducible exact ih4 _ _ _ _)
      | (with_reducible exact bureauref13_Rows.mono _ _)
      | (with_reducible exact LeO.refl _)
      | (with_reducible exact LeO.none _)
      | (with_reducible refine LeO.ite ?_ ?_)
      | (with_reducible refine LeO.bind ?_ (fun _ => ?_))
      | exact ih0 _ _ _
      | exact ih1 _ _ _ _ _ _
      | exact ih2 _ _ _ _ _ _
      | exact ih3 _ _ _ _ _ _ _
      | exact ih4 _ _ _ _
      | exact bureauref13_Rows.mono _ _
      | exact LeO.none _
      | refine LeO.ite ?_ ?_
      | refine LeO.bind ?_ (fun _ => ?_)
    · intro y0 y1 y2 y3 y4 y5 y6
      unfold bureauref13_word.j4
      repeat' first
      | (with_reducible exact ih0 _ _ _)
      | (with_reducible exact ih1 _ _ _ _ _ _)
      | (with_reducible exact ih2 _ _ _ _ _ _)
      | (with_reducible exact ih3 _ _ _ _ _ _ _)
      | (with_reducible exact ih4 _ _ _ _)
      | (with_reducible exact bureauref13_Rows.mono _ _)
      | (with_reducible exact LeO.refl _)
      | (with_reducible exact LeO.none _)
      | (with_reducible refine LeO.ite ?_ ?_)
      | (with_reducible refine LeO.bind ?_ (fun _ => ?_))
      | exact ih0 _ _ _
      | exact ih1 _ _ _ _ _ _
      | exact ih2 _ _ _ _ _ _
      | exact ih3 _ _ _ _ _ _ _
      | exact ih4 _ _ _ _
      | exact bureauref13_Rows.mono _ _
      | exact LeO.none _
      | refine LeO.ite ?_ ?_
      | refine LeO.bind ?_ (fun _ => ?_)
    · intro y0 y1 y2 y3
      unfold bureauref13_word.l0
      repeat' first
      | (with_reducible exact ih0 _ _ _)
      | (with_reducible exact ih1 _ _ _ _ _ _)
      | (with_reducible exact ih2 _ _ _ _ _ _)
      | (with_reducible exact ih3 _ _ _ _ _ _ _)
      | (with_reducible exact ih4 _ _ _ _)
      | (with_reducible exact bureauref13_Rows.mono _ _)
      | (with_reducible exact LeO.refl _)
      | (with_reducible exact LeO.none _)
      | (with_reducible refine LeO.ite ?_ ?_)
      | (with_reducible refine LeO.bind ?_ (fun _ => ?_))
      | exact ih0 _ _ _
      | exact ih1 _ _ _ _ _ _
      | exact ih2 _ _ _ _ _ _
      | exact ih3 _ _ _ _ _ _ _
      | exact ih4 _ _ _ _
      | exact bureauref13_Rows.mono _ _
      | exact LeO.none _
      | refine LeO.ite ?_ ?_
      | refine LeO.bind ?_ (fun _ => ?_)
theorem bureauref13_word.mono : ∀ a0 a1 a2 k, LeO (bureauref13_word.f k a0 a1 a2) (bureauref13_word.f (k + 1) a0 a1 a2) := by
  intro a0 a1 a2 k
  obtain ⟨ih0, ih1, ih2, ih3, ih4⟩ := bureauref13_word.mono_l k
  unfold bureauref13_word.f
  repeat' first
      | (with_reducible exact ih0 _ _ _)
      | (with_reducible exact ih1 _ _ _ _ _ _)
      | (with_reducible exact ih2 _ _ _ _ _ _)
      | (with_reducible exact ih3 _ _ _ _ _ _ _)
      | (with_reducible exact ih4 _ _ _ _)
      | (with_reducible exact bureauref13_Rows.mono _ _)
      | (with_reducible exact LeO.refl _)
      | (with_reducible exact LeO.none _)
      | (with_reducible refine LeO.ite ?_ ?_)
      | (with_reducible refine LeO.bind ?_ (fun _ => ?_))
      | exact ih0 _ _ _
      | exact ih1 _ _ _ _ _ _
      | exact ih2 _ _ _ _ _ _
      | exact ih3 _ _ _ _ _ _ _
      | exact ih4 _ _ _ _
      | exact bureauref13_Rows.mono _ _
      | exact LeO.none _
      | refine LeO.ite ?_ ?_
      | refine LeO.bind ?_ (fun _ => ?_)
set_option maxHeartbeats 8000000 in
set_option maxRecDepth 100000 in
theorem bureauref13_word.calls (k : Nat) (a0 : ByteArray) (a1 : Int) (a2 : Bool) (r1 : Int) (r2 : Int) (w : World) (h : bureauref13_word.f k a0 a1 a2 = some (r1, r2)) (hTabs : Tabs w) :
    Calls Tryd.prog 18 #[.string a0, .int .i64 a1, .bool a2] w fun e w' => e = .returned (.tuple #[.int .i64 r1, .int .i64 r2]) ∧ Below w.heap.size w w' := by
  have HTABS := Aside0.mk hTabs
  clear hTabs
  have HB := Aside0.mk (Below.refl w.heap.size w)
  have H : ((bureauref13_Rows.f k a0).bind fun t232 => (bureauref13_word.l0 k a1 a2 t232 0)) = some (r1, r2) := h
  clear h
  replace H := Option.bind_eq_some_iff.mp H
  obtain ⟨t232, A40, H⟩ := H
  replace H : (bureauref13_word.l0 k a1 a2 t232 0) = some (r1, r2) := H
  have A4 := Aside0.mk A40
  clear A40
  have HC5 := Aside0.mk H
  clear H
  go_enter Tryd.func18, Tryd.ntmps18
  go_upto_block 0 with (first | (go_at_call 38; (with_reducible refine (bureauref13_Rows.calls k a0 t232 _ A4.out ?sideT).mono ?_); (case sideT => first | exact HTABS.out | exact HTABS.out.below (by repeat (first | (with_reducible first | exact HB.out | apply below_alloc | apply pw_below_drewN | apply below_drew1) | exact HB.out)) (Nat.le_refl _) | exact HTABS.out.below (Below.drew (Below.refl _ _)) (Nat.le_refl _)); rintro e w6 ⟨v233, rfl, ho0, hb⟩; have n0_ := Aside0.mk (Kd.R_lower ho0 (below_size (by repeat (first | (with_reducible first | exact HB.out | apply below_alloc | apply pw_below_drewN | apply below_drew1) | exact HB.out)))); have n1_ := Aside0.mk (below_step (by repeat (first | (with_reducible first | exact HB.out | apply below_alloc | apply pw_below_drewN | apply below_drew1) | exact HB.out)) hb); clear HB; have HO234 := n0_; have HB := n1_; clear n0_ n1_; (try clear hb); (try clear hb2); (try clear hk); (try clear hi); (try clear ho0)))
  repeat (go_quiet (first | (go_at_call 38; (with_reducible refine (bureauref13_Rows.calls k a0 t232 _ A4.out ?sideT).mono ?_); (case sideT => first | exact HTABS.out | exact HTABS.out.below (by repeat (first | (with_reducible first | exact HB.out | apply below_alloc | apply pw_below_drewN | apply below_drew1) | exact HB.out)) (Nat.le_refl _) | exact HTABS.out.below (Below.drew (Below.refl _ _)) (Nat.le_refl _)); rintro e w6 ⟨v233, rfl, ho0, hb⟩; have n0_ := Aside0.mk (Kd.R_lower ho0 (below_size (by repeat (first | (with_reducible first | exact HB.out | apply below_alloc | apply pw_below_drewN | apply below_drew1) | exact HB.out)))); have n1_ := Aside0.mk (below_step (by repeat (first | (with_reducible first | exact HB.out | apply below_alloc | apply pw_below_drewN | apply below_drew1) | exact HB.out)) hb); clear HB; have HO234 := n0_; have HB := n1_; clear n0_ n1_; (try clear hb); (try clear hb2); (try clear hk); (try clear hi); (try clear ho0))); go_upto_block 0 with (first | (go_at_call 38; (with_reducible refine (bureauref13_Rows.calls k a0 t232 _ A4.out ?sideT).mono ?_); (case sideT => first | exact HTABS.out | exact HTABS.out.below (by repeat (first | (with_reducible first | exact HB.out | apply below_alloc | apply pw_below_drewN | apply below_drew1) | exact HB.out)) (Nat.le_refl _) | exact HTABS.out.below (Below.drew (Below.refl _ _)) (Nat.le_refl _)); rintro e w6 ⟨v233, rfl, ho0, hb⟩; have n0_ := Aside0.mk (Kd.R_lower ho0 (below_size (by repeat (first | (with_reducible first | exact HB.out | apply below_alloc | apply pw_below_drewN | apply below_drew1) | exact HB.out)))); have n1_ := Aside0.mk (below_step (by repeat (first | (with_reducible first | exact HB.out | apply below_alloc | apply pw_below_drewN | apply below_drew1) | exact HB.out)) hb); clear HB; have HO234 := n0_; have HB := n1_; clear n0_ n1_; (try clear hb); (try clear hb2); (try clear hk); (try clear hi); (try clear ho0))))
  (try simp only [Act.put, List.setIfInBounds_toArray, List.set_cons_zero, List.set_cons_succ])
  go_cut [9] (fun v9 wc => ∃ (kq : Nat) (x9_4 : Int), v9 = .int .i64 x9_4 ∧ Aside0 (bureauref13_word.j1 kq a2 t232 x9_4 = some (r1, r2)) ∧ Aside0 (kq ≤ k) ∧ Aside0 (Kd.R k41 41 wc w.heap.size (fun _ => True) v233 t232) ∧ Aside0 (Below w.heap.size w wc))
  case first =>
    have H := HC5.out
    clear HC5
    have H' := Aside0.mk H
    clear H
    go_wp2
    repeat (go_quiet (fail); try go_wp2)
    go_loopg [9] k (fun kq v9 w' => ∃ (x9_1 : Int), v9 = .int .i64 x9_1 ∧ Aside0 (bureauref13_word.l0 kq a1 a2 t232 x9_1 = some (r1, r2)) ∧ Aside0 (kq ≤ k) ∧ Aside0 (Kd.R k41 41 w' w.heap.size (fun _ => True) v233 t232) ∧ Aside0 (Below w.heap.size w w'))
    case atStart => exact ⟨(0), (by first | rfl | (simp; done) | (simp [*]; done)), H', ⟨Nat.le_refl _⟩, ⟨by (with_reducible repeat (first | apply Kd.R_alloc | apply Kd.R_drewN | apply Kd.R_drew)); exact HO234.out⟩, ⟨by repeat (first | (with_reducible first | exact HB.out | apply below_alloc | apply pw_below_drewN | apply below_drew1) | exact HB.out)⟩⟩
    case round =>
      clear H'
      (try clear c1); (try clear p2)
      obtain ⟨x9_1, rfl, HA, HK1, HO_8, HB⟩ := hrel
      cases gk with
      | zero => exact absurd HA.out (by simp [bureauref13_word.l0])
      | succ k1 =>
        have H := HA.out
        clear HA
        simp only [bureauref13_word.l0] at H
        by_cases c7 : (wrap64 (x9_1 + 1)) < (t232.length : Int)
        · rw [if_pos c7] at H
          have c7b0 : decide ((wrap64 (x9_1 + 1)) < (t232.length : Int)) = true := decide_eq_true c7
          clear c7
          (first | rw [c7b0] | (simp only [i64_w, i32_w]; rw [c7b0]) | skip)
          by_cases c8 : 0 ≤ x9_1
          · rw [if_pos c8] at H
            have c8b0 : decide (0 ≤ x9_1) = true := decide_eq_true c8
            clear c8
            by_cases c9 : x9_1 < (t232.length : Int)
            · rw [if_pos c9] at H
              have c9b0 : decide (x9_1 < (t232.length : Int)) = true := decide_eq_true c9
              clear c9
              by_cases c10 : ((rd_T41 t232 x9_1).f1) ≤ a1
              · rw [if_pos c10] at H
                have c10b0 : decide (((rd_T41 t232 x9_1).f1) ≤ a1) = true := decide_eq_true c10
                clear c10
                have H' := Aside0.mk H
                clear H
                obtain ⟨Ao11, co11, eo11⟩ := Kd.R_slice HO_8.out
                subst eo11
                have p235 : 0 ≤ (x9_1 : Int) := of_decide_eq_true (by first | (with_reducible assumption) | assumption)
                have q235 : x9_1 < (t232.length : Int) := of_decide_eq_true (by first | (with_reducible assumption) | assumption)
                obtain ⟨ad235, e235, hx235_0, hx235_1, hx235_2⟩ := at_T41 (Kd.R_reads' HO_8.out).2.2 x9_1 p235 q235
                cases e235
                replace p235 := eq_true p235
                replace q235 := eq_true q235
                go_wp2
                repeat (go_quiet (fail); try go_wp2)
                go_roundg k1
                case measure => have := HK1.out; omega
                case rel => exact ⟨(wrap64 (x9_1 + 1)), (by first | rfl | (simp; done) | (simp [*]; done)), H', ⟨by have := HK1.out; omega⟩, ⟨by (with_reducible repeat (first | apply Kd.R_alloc | apply Kd.R_drewN | apply Kd.R_drew)); exact HO_8.out⟩, ⟨by repeat (first | (with_reducible first | exact HB.out | apply below_alloc | apply pw_below_drewN | apply below_drew1) | exact HB.out)⟩⟩
              · rw [if_neg c10] at H
                have c10b0 : decide (((rd_T41 t232 x9_1).f1) ≤ a1) = false := decide_eq_false c10
                clear c10
                have H' := Aside0.mk H
                clear H
                obtain ⟨Ao12, co12, eo12⟩ := Kd.R_slice HO_8.out
                subst eo12
                have p235 : 0 ≤ (x9_1 : Int) := of_decide_eq_true (by first | (with_reducible assumption) | assumption)
                have q235 : x9_1 < (t232.length : Int) := of_decide_eq_true (by first | (with_reducible assumption) | assumption)
                obtain ⟨ad235, e235, hx235_0, hx235_1, hx235_2⟩ := at_T41 (Kd.R_reads' HO_8.out).2.2 x9_1 p235 q235
                cases e235
                replace p235 := eq_true p235
                replace q235 := eq_true q235
                go_wp2
                repeat (go_quiet (fail); try go_wp2)
                go_meet
                case rel => exact ⟨_, (x9_1), (by first | rfl | (simp; done) | (simp [*]; done)), H', ⟨by have := HK1.out; first | omega | exact Nat.le_refl _⟩, ⟨by (with_reducible repeat (first | apply Kd.R_alloc | apply Kd.R_drewN | apply Kd.R_drew)); exact HO_8.out⟩, ⟨by repeat (first | (with_reducible first | exact HB.out | apply below_alloc | apply pw_below_drewN | apply below_drew1) | exact HB.out)⟩⟩
            · rw [if_neg c9] at H
              exact absurd H (by simp)
          · rw [if_neg c8] at H
            exact absurd H (by simp)
        · rw [if_neg c7] at H
          have c7b0 : decide ((wrap64 (x9_1 + 1)) < (t232.length : Int)) = false := decide_eq_false c7
          clear c7
          (first | rw [c7b0] | (simp only [i64_w, i32_w]; rw [c7b0]) | skip)
          have H' := Aside0.mk H
          clear H
          obtain ⟨Ao13, co13, eo13⟩ := Kd.R_slice HO_8.out
          subst eo13
          go_wp2
          repeat (go_quiet (fail); try go_wp2)
          go_meet
          case rel => exact ⟨_, (x9_1), (by first | rfl | (simp; done) | (simp [*]; done)), H', ⟨by have := HK1.out; first | omega | exact Nat.le_refl _⟩, ⟨by (with_reducible repeat (first | apply Kd.R_alloc | apply Kd.R_drewN | apply Kd.R_drew)); exact HO_8.out⟩, ⟨by repeat (first | (with_reducible first | exact HB.out | apply below_alloc | apply pw_below_drewN | apply below_drew1) | exact HB.out)⟩⟩
  case rest =>
    clear HC5
    (try clear c1); (try clear p2); (try clear q2); (try clear hx2); (try clear p6); (try clear c7); (try clear c7b0); (try clear c8); (try clear c8b0); (try clear c9); (try clear c9b0); (try clear c10); (try clear c10b0); (try clear hx235_0); (try clear hx235_1); (try clear hx235_2); (try clear p235); (try clear q235)
    obtain ⟨kq, x9_4, rfl, HA, HJ4, HO_8, HB⟩ := hcut
    cases kq with
    | zero => exact absurd HA.out (by simp [bureauref13_word.j1])
    | succ kj4 =>
      have H := HA.out
      clear HA
      simp only [bureauref13_word.j1] at H
      by_cases c14 : 0 ≤ x9_4
      · rw [if_pos c14] at H
        have c14b0 : decide (0 ≤ x9_4) = true := decide_eq_true c14
        clear c14
        by_cases c15 : x9_4 < (t232.length : Int)
        · rw [if_pos c15] at H
          have c15b0 : decide (x9_4 < (t232.length : Int)) = true := decide_eq_true c15
          clear c15
          by_cases c16 : a2 = true
          · subst c16
            have H1 : (if (wrap64 (x9_4 + 1)) < (t232.length : Int) then (if 0 ≤ (wrap64 (x9_4 + 1)) then (bureauref13_word.j2 kj4 t232 x9_4 ((rd_T41 t232 x9_4).f0) ((rd_T41 t232 x9_4).f1) ((rd_T41 t232 (wrap64 (x9_4 + 1))).f2) (-1)) else (none)) else (bureauref13_word.j2 kj4 t232 x9_4 ((rd_T41 t232 x9_4).f0) ((rd_T41 t232 x9_4).f1) (-1) (-1))) = some (r1, r2) := by rw [if_pos rfl] at H; exact H
            clear H
            have H := H1
            clear H1
            have HC17 := Aside0.mk H
            clear H
            obtain ⟨Ao18, co18, eo18⟩ := Kd.R_slice HO_8.out
            subst eo18
            have p236 : 0 ≤ (x9_4 : Int) := of_decide_eq_true (by first | (with_reducible assumption) | assumption)
            have q236 : x9_4 < (t232.length : Int) := of_decide_eq_true (by first | (with_reducible assumption) | assumption)
            obtain ⟨ad236, e236, hx236_0, hx236_1, hx236_2⟩ := at_T41 (Kd.R_reads' HO_8.out).2.2 x9_4 p236 q236
            cases e236
            replace p236 := eq_true p236
            replace q236 := eq_true q236
            have p237 : 0 ≤ (x9_4 : Int) := of_decide_eq_true (by first | (with_reducible assumption) | assumption)
            have q237 : x9_4 < (t232.length : Int) := of_decide_eq_true (by first | (with_reducible assumption) | assumption)
            obtain ⟨ad237, e237, hx237_0, hx237_1, hx237_2⟩ := at_T41 (Kd.R_reads' HO_8.out).2.2 x9_4 p237 q237
            obtain rfl : ad236 = ad237 := (by injection e237)
            replace p237 := eq_true p237
            replace q237 := eq_true q237
            go_upto_if 50 with (fail)
            repeat (go_quiet (fail); go_upto_if 50 with (fail))
            go_cut [12] (fun v12 wc => ∃ (kq : Nat) (x12_16 : Int), v12 = .int .i64 x12_16 ∧ Aside0 (bureauref13_word.j2 kq t232 x9_4 ((rd_T41 t232 x9_4).f0) ((rd_T41 t232 x9_4).f1) x12_16 (-1) = some (r1, r2)) ∧ Aside0 (kq ≤ kj4) ∧ Aside0 (Kd.R k41 41 wc w.heap.size (fun _ => True) (.slice (some ad236) t232.length co18) t232) ∧ Aside0 (Below w.heap.size w wc))
            case first =>
              have H := HC17.out
              clear HC17
              by_cases c19 : (wrap64 (x9_4 + 1)) < (t232.length : Int)
              · rw [if_pos c19] at H
                have c19b0 : decide ((wrap64 (x9_4 + 1)) < (t232.length : Int)) = true := decide_eq_true c19
                clear c19
                (first | rw [c19b0] | (simp only [i64_w, i32_w]; rw [c19b0]) | skip)
                obtain ⟨ji20, hji20⟩ : ∃ j_ : Int, (wrap64 (x9_4 + 1)) = j_ := ⟨_, rfl⟩
                replace H : (if 0 ≤ (ji20) then (bureauref13_word.j2 kj4 t232 x9_4 ((rd_T41 t232 x9_4).f0) ((rd_T41 t232 x9_4).f1) ((rd_T41 t232 (ji20)).f2) (-1)) else (none)) = some (r1, r2) := by first | (rw [hji20] at H; exact H) | (simp only [hji20] at H ⊢; exact H)
                (try rw [hji20] at c19b0)
                have hji20w : (IntKind.i64.wrap (x9_4 + 1)) = ji20 := (i64_w _).trans hji20
                by_cases c21 : 0 ≤ (ji20)
                · rw [if_pos c21] at H
                  have c21b0 : decide (0 ≤ (ji20)) = true := decide_eq_true c21
                  clear c21
                  have H' := Aside0.mk H
                  clear H
                  have p238 : 0 ≤ ((ji20) : Int) := of_decide_eq_true (by first | (with_reducible assumption) | assumption)
                  have q238 : (ji20) < (t232.length : Int) := of_decide_eq_true (by first | (with_reducible assumption) | assumption)
                  obtain ⟨ad238, e238, hx238_0, hx238_1, hx238_2⟩ := at_T41 (Kd.R_reads' HO_8.out).2.2 (ji20) p238 q238
                  obtain rfl : ad236 = ad238 := (by injection e238)
                  replace p238 := eq_true p238
                  replace q238 := eq_true q238
                  go_wp2
                  repeat (go_quiet (fail); try go_wp2)
                  go_meet
                  case rel => exact ⟨_, ((rd_T41 t232 (ji20)).f2), (by first | rfl | (simp; done) | (simp only [← hji20] <;> (first | rfl | simp)) | (simp [*]; done)), H', ⟨by have := HJ4.out; first | omega | exact Nat.le_refl _⟩, ⟨by (with_reducible repeat (first | apply Kd.R_alloc | apply Kd.R_drewN | apply Kd.R_drew)); exact HO_8.out⟩, ⟨by repeat (first | (with_reducible first | exact HB.out | apply below_alloc | apply pw_below_drewN | apply below_drew1) | exact HB.out)⟩⟩
                · rw [if_neg c21] at H
                  exact absurd H (by simp)
              · rw [if_neg c19] at H
                have c19b0 : decide ((wrap64 (x9_4 + 1)) < (t232.length : Int)) = false := decide_eq_false c19
                clear c19
                (first | rw [c19b0] | (simp only [i64_w, i32_w]; rw [c19b0]) | skip)
                have H' := Aside0.mk H
                clear H
                go_wp2
                repeat (go_quiet (fail); try go_wp2)
                go_meet
                case rel => exact ⟨_, ((-1)), (by first | rfl | (simp; done) | (simp [*]; done)), H', ⟨by have := HJ4.out; first | omega | exact Nat.le_refl _⟩, ⟨by (with_reducible repeat (first | apply Kd.R_alloc | apply Kd.R_drewN | apply Kd.R_drew)); exact HO_8.out⟩, ⟨by repeat (first | (with_reducible first | exact HB.out | apply below_alloc | apply pw_below_drewN | apply below_drew1) | exact HB.out)⟩⟩
            case rest =>
              clear HC17
              (try clear c1); (try clear c2); (try clear p2); (try clear q2); (try clear hx2); (try clear p6); (try clear c7); (try clear c7b0); (try clear c8); (try clear c8b0); (try clear c9); (try clear c9b0); (try clear c10); (try clear c10b0); (try clear c14); (try clear c14b0); (try clear c15); (try clear c15b0); (try clear c16); (try clear c18); (try clear c19); (try clear c19b0); (try clear c21); (try clear c21b0); (try clear hx235_0); (try clear hx235_1); (try clear hx235_2); (try clear hx236_0); (try clear hx236_1); (try clear hx236_2); (try clear hx237_0); (try clear hx237_1); (try clear hx237_2); (try clear hx238_0); (try clear hx238_1); (try clear hx238_2); (try clear p235); (try clear p236); (try clear p237); (try clear p238); (try clear q235); (try clear q236); (try clear q237); (try clear q238)
              obtain ⟨kq, x12_16, rfl, HA, HJ16, HO_8, HB⟩ := hcut
              cases kq with
              | zero => exact absurd HA.out (by simp [bureauref13_word.j2])
              | succ kj16 =>
                have H := HA.out
                clear HA
                simp only [bureauref13_word.j2] at H
                have HC22 := Aside0.mk H
                clear H
                go_upto_if 58 with (fail)
                repeat (go_quiet (fail); go_upto_if 58 with (fail))
                go_cut [13] (fun v13 wc => ∃ (kq : Nat) (x13_21 : Int), v13 = .int .i64 x13_21 ∧ Aside0 (bureauref13_word.j3 kq t232 x9_4 ((rd_T41 t232 x9_4).f0) ((rd_T41 t232 x9_4).f1) x12_16 x13_21 = some (r1, r2)) ∧ Aside0 (kq ≤ kj16) ∧ Aside0 (Kd.R k41 41 wc w.heap.size (fun _ => True) (.slice (some ad236) t232.length co18) t232) ∧ Aside0 (Below w.heap.size w wc))
                case first =>
                  have H := HC22.out
                  clear HC22
                  by_cases c23 : x9_4 > 0
                  · rw [if_pos c23] at H
                    have c23b0 : decide (0 < x9_4) = true := decide_eq_true c23
                    clear c23
                    (first | rw [c23b0] | (simp only [i64_w, i32_w]; rw [c23b0]) | skip)
                    obtain ⟨ji24, hji24⟩ : ∃ j_ : Int, (wrap64 (x9_4 - 1)) = j_ := ⟨_, rfl⟩
                    replace H : (if 0 ≤ (ji24) then (if (ji24) < (t232.length : Int) then (bureauref13_word.j3 kj16 t232 x9_4 ((rd_T41 t232 x9_4).f0) ((rd_T41 t232 x9_4).f1) x12_16 ((rd_T41 t232 (ji24)).f2)) else (none)) else (none)) = some (r1, r2) := by first | (rw [hji24] at H; exact H) | (simp only [hji24] at H ⊢; exact H)
                    have hji24w : (IntKind.i64.wrap (x9_4 - 1)) = ji24 := (i64_w _).trans hji24
                    by_cases c25 : 0 ≤ (ji24)
                    · rw [if_pos c25] at H
                      have c25b0 : decide (0 ≤ (ji24)) = true := decide_eq_true c25
                      clear c25
                      by_cases c26 : (ji24) < (t232.length : Int)
                      · rw [if_pos c26] at H
                        have c26b0 : decide ((ji24) < (t232.length : Int)) = true := decide_eq_true c26
                        clear c26
                        have H' := Aside0.mk H
                        clear H
                        have p239 : 0 ≤ ((ji24) : Int) := of_decide_eq_true (by first | (with_reducible assumption) | assumption)
                        have q239 : (ji24) < (t232.length : Int) := of_decide_eq_true (by first | (with_reducible assumption) | assumption)
                        obtain ⟨ad239, e239, hx239_0, hx239_1, hx239_2⟩ := at_T41 (Kd.R_reads' HO_8.out).2.2 (ji24) p239 q239
                        obtain rfl : ad236 = ad239 := (by injection e239)
                        replace p239 := eq_true p239
                        replace q239 := eq_true q239
                        go_wp2
                        repeat (go_quiet (fail); try go_wp2)
                        go_meet
                        case rel => exact ⟨_, ((rd_T41 t232 (ji24)).f2), (by first | rfl | (simp; done) | (simp only [← hji24] <;> (first | rfl | simp)) | (simp [*]; done)), H', ⟨by have := HJ4.out; have := HJ16.out; first | omega | exact Nat.le_refl _⟩, ⟨by (with_reducible repeat (first | apply Kd.R_alloc | apply Kd.R_drewN | apply Kd.R_drew)); exact HO_8.out⟩, ⟨by repeat (first | (with_reducible first | exact HB.out | apply below_alloc | apply pw_below_drewN | apply below_drew1) | exact HB.out)⟩⟩
                      · rw [if_neg c26] at H
                        exact absurd H (by simp)
                    · rw [if_neg c25] at H
                      exact absurd H (by simp)
                  · rw [if_neg c23] at H
                    have c23b0 : decide (0 < x9_4) = false := decide_eq_false c23
                    clear c23
                    (first | rw [c23b0] | (simp only [i64_w, i32_w]; rw [c23b0]) | skip)
                    have H' := Aside0.mk H
                    clear H
                    go_wp2
                    repeat (go_quiet (fail); try go_wp2)
                    go_meet
                    case rel => exact ⟨_, ((-1)), (by first | rfl | (simp; done) | (simp [*]; done)), H', ⟨by have := HJ4.out; have := HJ16.out; first | omega | exact Nat.le_refl _⟩, ⟨by (with_reducible repeat (first | apply Kd.R_alloc | apply Kd.R_drewN | apply Kd.R_drew)); exact HO_8.out⟩, ⟨by repeat (first | (with_reducible first | exact HB.out | apply below_alloc | apply pw_below_drewN | apply below_drew1) | exact HB.out)⟩⟩
                case rest =>
                  clear HC22
                  (try clear c1); (try clear c2); (try clear p2); (try clear q2); (try clear hx2); (try clear p6); (try clear c7); (try clear c7b0); (try clear c8); (try clear c8b0); (try clear c9); (try clear c9b0); (try clear c10); (try clear c10b0); (try clear c14); (try clear c14b0); (try clear c15); (try clear c15b0); (try clear c16); (try clear c18); (try clear c19); (try clear c19b0); (try clear c21); (try clear c21b0); (try clear c23); (try clear c23b0); (try clear p23); (try clear q23); (try clear hx23); (try clear c25); (try clear c25b0); (try clear c26); (try clear c26b0); (try clear hx235_0); (try clear hx235_1); (try clear hx235_2); (try clear hx236_0); (try clear hx236_1); (try clear hx236_2); (try clear hx237_0); (try clear hx237_1); (try clear hx237_2); (try clear hx238_0); (try clear hx238_1); (try clear hx238_2); (try clear hx239_0); (try clear hx239_1); (try clear hx239_2); (try clear p235); (try clear p236); (try clear p237); (try clear p238); (try clear p239); (try clear q235); (try clear q236); (try clear q237); (try clear q238); (try clear q239)
                  obtain ⟨kq, x13_21, rfl, HA, HJ21, HO_8, HB⟩ := hcut
                  cases kq with
                  | zero => exact absurd HA.out (by simp [bureauref13_word.j3])
                  | succ kj21 =>
                    have H := HA.out
                    clear HA
                    simp only [bureauref13_word.j3] at H
                    have HC27 := Aside0.mk H
                    clear H
                    go_upto_region 13 with (fail)
                    repeat (go_quiet (fail); go_upto_region 13 with (fail))
                    go_cut [65] (fun v65 wc => ∃ (kq : Nat) (x65_26 : Bool), v65 = .bool x65_26 ∧ Aside0 (bureauref13_word.j4 kq t232 x9_4 ((rd_T41 t232 x9_4).f0) ((rd_T41 t232 x9_4).f1) x12_16 x13_21 x65_26 = some (r1, r2)) ∧ Aside0 (kq ≤ kj21) ∧ Aside0 (Kd.R k41 41 wc w.heap.size (fun _ => True) (.slice (some ad236) t232.length co18) t232) ∧ Aside0 (Below w.heap.size w wc))
                    case first =>
                      have H := HC27.out
                      clear HC27
                      by_cases c28 : 0 ≤ x9_4
                      · rw [if_pos c28] at H
                        have c28b0 : decide (0 ≤ x9_4) = true := decide_eq_true c28
                        clear c28
                        (first | rw [c28b0] | (simp only [i64_w, i32_w]; rw [c28b0]) | skip)
                        by_cases c29 : x9_4 < (t232.length : Int)
                        · rw [if_pos c29] at H
                          have c29b0 : decide (x9_4 < (t232.length : Int)) = true := decide_eq_true c29
                          clear c29
                          by_cases c30 : ((rd_T41 t232 x9_4).f2) = 0
                          · rw [if_pos c30] at H
                            have c30b0 : (((rd_T41 t232 x9_4).f2) == 0) = true := beq_iff_eq.mpr c30
                            have c30b1 : (((rd_T41 t232 x9_4).f2) != 0) = false := bne_eq_false_iff_eq.mpr c30
                            clear c30
                            by_cases c31 : x12_16 ≥ 0
                            · rw [if_pos c31] at H
                              have c31b0 : decide (0 ≤ x12_16) = true := decide_eq_true c31
                              clear c31
                              have H' := Aside0.mk H
                              clear H
                              have p240 : 0 ≤ (x9_4 : Int) := of_decide_eq_true (by first | (with_reducible assumption) | assumption)
                              have q240 : x9_4 < (t232.length : Int) := of_decide_eq_true (by first | (with_reducible assumption) | assumption)
                              obtain ⟨ad240, e240, hx240_0, hx240_1, hx240_2⟩ := at_T41 (Kd.R_reads' HO_8.out).2.2 x9_4 p240 q240
                              obtain rfl : ad236 = ad240 := (by injection e240)
                              replace p240 := eq_true p240
                              replace q240 := eq_true q240
                              go_wp2
                              repeat (go_quiet (fail); try go_wp2)
                              go_meet
                              case rel => exact ⟨_, ((x12_16 != 3)), (by first | rfl | (simp; done) | (simp [*]; done)), H', ⟨by have := HJ4.out; have := HJ16.out; have := HJ21.out; first | omega | exact Nat.le_refl _⟩, ⟨by (with_reducible repeat (first | apply Kd.R_alloc | apply Kd.R_drewN | apply Kd.R_drew)); exact HO_8.out⟩, ⟨by repeat (first | (with_reducible first | exact HB.out | apply below_alloc | apply pw_below_drewN | apply below_drew1) | exact HB.out)⟩⟩
                            · rw [if_neg c31] at H
                              have c31b0 : decide (0 ≤ x12_16) = false := decide_eq_false c31
                              clear c31
                              have H' := Aside0.mk H
                              clear H
                              have p240 : 0 ≤ (x9_4 : Int) := of_decide_eq_true (by first | (with_reducible assumption) | assumption)
                              have q240 : x9_4 < (t232.length : Int) := of_decide_eq_true (by first | (with_reducible assumption) | assumption)
                              obtain ⟨ad240, e240, hx240_0, hx240_1, hx240_2⟩ := at_T41 (Kd.R_reads' HO_8.out).2.2 x9_4 p240 q240
                              obtain rfl : ad236 = ad240 := (by injection e240)
                              replace p240 := eq_true p240
                              replace q240 := eq_true q240
                              go_wp2
                              repeat (go_quiet (fail); try go_wp2)
                              go_meet
                              case rel => exact ⟨_, (false), (by first | rfl | (simp; done) | (simp [*]; done)), H', ⟨by have := HJ4.out; have := HJ16.out; have := HJ21.out; first | omega | exact Nat.le_refl _⟩, ⟨by (with_reducible repeat (first | apply Kd.R_alloc | apply Kd.R_drewN | apply Kd.R_drew)); exact HO_8.out⟩, ⟨by repeat (first | (with_reducible first | exact HB.out | apply below_alloc | apply pw_below_drewN | apply below_drew1) | exact HB.out)⟩⟩
                          · rw [if_neg c30] at H
                            have c30b0 : (((rd_T41 t232 x9_4).f2) == 0) = false := beq_eq_false_iff_ne.mpr c30
                            have c30b1 : (((rd_T41 t232 x9_4).f2) != 0) = true := bne_iff_ne.mpr c30
                            have H' := Aside0.mk H
                            clear H
                            have p240 : 0 ≤ (x9_4 : Int) := of_decide_eq_true (by first | (with_reducible assumption) | assumption)
                            have q240 : x9_4 < (t232.length : Int) := of_decide_eq_true (by first | (with_reducible assumption) | assumption)
                            obtain ⟨ad240, e240, hx240_0, hx240_1, hx240_2⟩ := at_T41 (Kd.R_reads' HO_8.out).2.2 x9_4 p240 q240
                            obtain rfl : ad236 = ad240 := (by injection e240)
                            replace p240 := eq_true p240
                            replace q240 := eq_true q240
                            go_wp2
                            repeat (go_quiet (fail); try go_wp2)
                            go_meet
                            case rel => exact ⟨_, (false), (by first | rfl | (simp; done) | (simp [*]; done)), H', ⟨by have := HJ4.out; have := HJ16.out; have := HJ21.out; first | omega | exact Nat.le_refl _⟩, ⟨by (with_reducible repeat (first | apply Kd.R_alloc | apply Kd.R_drewN | apply Kd.R_drew)); exact HO_8.out⟩, ⟨by repeat (first | (with_reducible first | exact HB.out | apply below_alloc | apply pw_below_drewN | apply below_drew1) | exact HB.out)⟩⟩
                        · rw [if_neg c29] at H
                          exact absurd H (by simp)
                      · rw [if_neg c28] at H
                        exact absurd H (by simp)
                    case rest =>
                      clear HC27
                      (try clear c1); (try clear c2); (try clear p2); (try clear q2); (try clear hx2); (try clear c3); (try clear p6); (try clear c7); (try clear c7b0); (try clear c8); (try clear c8b0); (try clear c9); (try clear c9b0); (try clear c10); (try clear c10b0); (try clear c14); (try clear c14b0); (try clear c15); (try clear c15b0); (try clear c16); (try clear c18); (try clear c19); (try clear c19b0); (try clear c21); (try clear c21b0); (try clear c23); (try clear c23b0); (try clear p23); (try clear q23); (try clear hx23); (try clear p24); (try clear q24); (try clear hx24); (try clear c25); (try clear c25b0); (try clear c26); (try clear c26b0); (try clear c28); (try clear c28b0); (try clear c29); (try clear c29b0); (try clear c30); (try clear c30b0); (try clear c30b1); (try clear c31); (try clear c31b0); (try clear hx235_0); (try clear hx235_1); (try clear hx235_2); (try clear hx236_0); (try clear hx236_1); (try clear hx236_2); (try clear hx237_0); (try clear hx237_1); (try clear hx237_2); (try clear hx238_0); (try clear hx238_1); (try clear hx238_2); (try clear hx239_0); (try clear hx239_1); (try clear hx239_2); (try clear hx240_0); (try clear hx240_1); (try clear hx240_2); (try clear p235); (try clear p236); (try clear p237); (try clear p238); (try clear p239); (try clear p240); (try clear q235); (try clear q236); (try clear q237); (try clear q238); (try clear q239); (try clear q240)
                      obtain ⟨kq, x65_26, rfl, HA, HJ26, HO_8, HB⟩ := hcut
                      cases kq with
                      | zero => exact absurd HA.out (by simp [bureauref13_word.j4])
                      | succ kj26 =>
                        have H := HA.out
                        clear HA
                        simp only [bureauref13_word.j4] at H
                        by_cases c32 : x65_26 = true
                        · subst c32
                          have H1 : (if 0 ≤ (wrap64 (x9_4 + 1)) then (if (wrap64 (x9_4 + 1)) < (t232.length : Int) then (some (((rd_T41 t232 x9_4).f0), (rd_T41 t232 (wrap64 (x9_4 + 1))).f1)) else (none)) else (none)) = some (r1, r2) := by rw [if_pos rfl] at H; exact H
                          clear H
                          have H := H1
                          clear H1
                          obtain ⟨ji33, hji33⟩ : ∃ j_ : Int, (wrap64 (x9_4 + 1)) = j_ := ⟨_, rfl⟩
                          replace H : (if 0 ≤ (ji33) then (if (ji33) < (t232.length : Int) then (some (((rd_T41 t232 x9_4).f0), (rd_T41 t232 (ji33)).f1)) else (none)) else (none)) = some (r1, r2) := by first | (rw [hji33] at H; exact H) | (simp only [hji33] at H ⊢; exact H)
                          have hji33w : (IntKind.i64.wrap (x9_4 + 1)) = ji33 := (i64_w _).trans hji33
                          by_cases c34 : 0 ≤ (ji33)
                          · rw [if_pos c34] at H
                            have c34b0 : decide (0 ≤ (ji33)) = true := decide_eq_true c34
                            clear c34
                            by_cases c35 : (ji33) < (t232.length : Int)
                            · rw [if_pos c35] at H
                              have c35b0 : decide ((ji33) < (t232.length : Int)) = true := decide_eq_true c35
                              clear c35
                              simp only [Option.some.injEq, Prod.mk.injEq] at H
                              obtain ⟨rfl, rfl⟩ := H
                              have p241 : 0 ≤ ((ji33) : Int) := of_decide_eq_true (by first | (with_reducible assumption) | assumption)
                              have q241 : (ji33) < (t232.length : Int) := of_decide_eq_true (by first | (with_reducible assumption) | assumption)
                              obtain ⟨ad241, e241, hx241_0, hx241_1, hx241_2⟩ := at_T41 (Kd.R_reads' HO_8.out).2.2 (ji33) p241 q241
                              obtain rfl : ad236 = ad241 := (by injection e241)
                              replace p241 := eq_true p241
                              replace q241 := eq_true q241
                              go_wp2
                              repeat (go_quiet (fail); try go_wp2)
                              go_ret2
                              exact ⟨by first | rfl | (simp [errW_none, errW_some] <;> rfl) | (simp only [← hji33]; first | rfl | (simp [errW_none, errW_some] <;> rfl)) | (simp [*, errW_none, errW_some] <;> rfl), by repeat (first | (with_reducible first | exact HB.out | apply below_alloc | apply pw_below_drewN | apply below_drew1) | exact HB.out)⟩
                            · rw [if_neg c35] at H
                              exact absurd H (by simp)
                          · rw [if_neg c34] at H
                            exact absurd H (by simp)
                        · replace c32 := Bool.eq_false_iff.mpr c32
                          subst c32
                          have H1 : (if 0 ≤ x9_4 then (if x9_4 < (t232.length : Int) then (if ((rd_T41 t232 x9_4).f2) = 0 then (some (((rd_T41 t232 x9_4).f0), ((rd_T41 t232 x9_4).f1))) else (if x12_16 = 0 then (if 0 ≤ (wrap64 (x9_4 + 1)) then (if (wrap64 (x9_4 + 1)) < (t232.length : Int) then (some (((rd_T41 t232 x9_4).f0), (rd_T41 t232 (wrap64 (x9_4 + 1))).f1)) else (none)) else (none)) else (if x13_21 = 0 then (if 0 ≤ (wrap64 (x9_4 - 1)) then (if (wrap64 (x9_4 - 1)) < (t232.length : Int) then (some ((rd_T41 t232 (wrap64 (x9_4 - 1))).f0, ((rd_T41 t232 x9_4).f1))) else (none)) else (none)) else (some (((rd_T41 t232 x9_4).f0), ((rd_T41 t232 x9_4).f1)))))) else (none)) else (none)) = some (r1, r2) := by rw [if_neg (show ¬ (false = true) by decide)] at H; exact H
                          clear H
                          have H := H1
                          clear H1
                          by_cases c36 : 0 ≤ x9_4
                          · rw [if_pos c36] at H
                            have c36b0 : decide (0 ≤ x9_4) = true := decide_eq_true c36
                            clear c36
                            by_cases c37 : x9_4 < (t232.length : Int)
                            · rw [if_pos c37] at H
                              have c37b0 : decide (x9_4 < (t232.length : Int)) = true := decide_eq_true c37
                              clear c37
                              by_cases c38 : ((rd_T41 t232 x9_4).f2) = 0
                              · rw [if_pos c38] at H
                                have c38b0 : (((rd_T41 t232 x9_4).f2) == 0) = true := beq_iff_eq.mpr c38
                                have c38b1 : (((rd_T41 t232 x9_4).f2) != 0) = false := bne_eq_false_iff_eq.mpr c38
                                clear c38
                                simp only [Option.some.injEq, Prod.mk.injEq] at H
                                obtain ⟨rfl, rfl⟩ := H
                                have p242 : 0 ≤ (x9_4 : Int) := of_decide_eq_true (by first | (with_reducible assumption) | assumption)
                                have q242 : x9_4 < (t232.length : Int) := of_decide_eq_true (by first | (with_reducible assumption) | assumption)
                                obtain ⟨ad242, e242, hx242_0, hx242_1, hx242_2⟩ := at_T41 (Kd.R_reads' HO_8.out).2.2 x9_4 p242 q242
                                obtain rfl : ad236 = ad242 := (by injection e242)
                                replace p242 := eq_true p242
                                replace q242 := eq_true q242
                                go_wp2
                                repeat (go_quiet (fail); try go_wp2)
                                go_ret2
                                exact ⟨by first | rfl | (simp [errW_none, errW_some] <;> rfl) | (simp [*, errW_none, errW_some] <;> rfl), by repeat (first | (with_reducible first | exact HB.out | apply below_alloc | apply pw_below_drewN | apply below_drew1) | exact HB.out)⟩
                              · rw [if_neg c38] at H
                                have c38b0 : (((rd_T41 t232 x9_4).f2) == 0) = false := beq_eq_false_iff_ne.mpr c38
                                have c38b1 : (((rd_T41 t232 x9_4).f2) != 0) = true := bne_iff_ne.mpr c38
                                by_cases c39 : x12_16 = 0
                                · rw [if_pos c39] at H
                                  have c39b0 : (x12_16 == 0) = true := beq_iff_eq.mpr c39
                                  have c39b1 : (x12_16 != 0) = false := bne_eq_false_iff_eq.mpr c39
                                  clear c39
                                  obtain ⟨ji40, hji40⟩ : ∃ j_ : Int, (wrap64 (x9_4 + 1)) = j_ := ⟨_, rfl⟩
                                  replace H : (if 0 ≤ (ji40) then (if (ji40) < (t232.length : Int) then (some (((rd_T41 t232 x9_4).f0), (rd_T41 t232 (ji40)).f1)) else (none)) else (none)) = some (r1, r2) := by first | (rw [hji40] at H; exact H) | (simp only [hji40] at H ⊢; exact H)
                                  have hji40w : (IntKind.i64.wrap (x9_4 + 1)) = ji40 := (i64_w _).trans hji40
                                  by_cases c41 : 0 ≤ (ji40)
                                  · rw [if_pos c41] at H
                                    have c41b0 : decide (0 ≤ (ji40)) = true := decide_eq_true c41
                                    clear c41
                                    by_cases c42 : (ji40) < (t232.length : Int)
                                    · rw [if_pos c42] at H
                                      have c42b0 : decide ((ji40) < (t232.length : Int)) = true := decide_eq_true c42
                                      clear c42
                                      simp only [Option.some.injEq, Prod.mk.injEq] at H
                                      obtain ⟨rfl, rfl⟩ := H
                                      have p242 : 0 ≤ (x9_4 : Int) := of_decide_eq_true (by first | (with_reducible assumption) | assumption)
                                      have q242 : x9_4 < (t232.length : Int) := of_decide_eq_true (by first | (with_reducible assumption) | assumption)
                                      obtain ⟨ad242, e242, hx242_0, hx242_1, hx242_2⟩ := at_T41 (Kd.R_reads' HO_8.out).2.2 x9_4 p242 q242
                                      obtain rfl : ad236 = ad242 := (by injection e242)
                                      replace p242 := eq_true p242
                                      replace q242 := eq_true q242
                                      have p243 : 0 ≤ ((ji40) : Int) := of_decide_eq_true (by first | (with_reducible assumption) | assumption)
                                      have q243 : (ji40) < (t232.length : Int) := of_decide_eq_true (by first | (with_reducible assumption) | assumption)
                                      obtain ⟨ad243, e243, hx243_0, hx243_1, hx243_2⟩ := at_T41 (Kd.R_reads' HO_8.out).2.2 (ji40) p243 q243
                                      obtain rfl : ad236 = ad243 := (by injection e243)
                                      replace p243 := eq_true p243
                                      replace q243 := eq_true q243
                                      go_wp2
                                      repeat (go_quiet (fail); try go_wp2)
                                      go_ret2
                                      exact ⟨by first | rfl | (simp [errW_none, errW_some] <;> rfl) | (simp only [← hji40]; first | rfl | (simp [errW_none, errW_some] <;> rfl)) | (simp [*, errW_none, errW_some] <;> rfl), by repeat (first | (with_reducible first | exact HB.out | apply below_alloc | apply pw_below_drewN | apply below_drew1) | exact HB.out)⟩
                                    · rw [if_neg c42] at H
                                      exact absurd H (by simp)
                                  · rw [if_neg c41] at H
                                    exact absurd H (by simp)
                                · rw [if_neg c39] at H
                                  have c39b0 : (x12_16 == 0) = false := beq_eq_false_iff_ne.mpr c39
                                  have c39b1 : (x12_16 != 0) = true := bne_iff_ne.mpr c39
                                  by_cases c43 : x13_21 = 0
                                  · rw [if_pos c43] at H
                                    have c43b0 : (x13_21 == 0) = true := beq_iff_eq.mpr c43
                                    have c43b1 : (x13_21 != 0) = false := bne_eq_false_iff_eq.mpr c43
                                    clear c43
                                    obtain ⟨ji44, hji44⟩ : ∃ j_ : Int, (wrap64 (x9_4 - 1)) = j_ := ⟨_, rfl⟩
                                    replace H : (if 0 ≤ (ji44) then (if (ji44) < (t232.length : Int) then (some ((rd_T41 t232 (ji44)).f0, ((rd_T41 t232 x9_4).f1))) else (none)) else (none)) = some (r1, r2) := by first | (rw [hji44] at H; exact H) | (simp only [hji44] at H ⊢; exact H)
                                    have hji44w : (IntKind.i64.wrap (x9_4 - 1)) = ji44 := (i64_w _).trans hji44
                                    by_cases c45 : 0 ≤ (ji44)
                                    · rw [if_pos c45] at H
                                      have c45b0 : decide (0 ≤ (ji44)) = true := decide_eq_true c45
                                      clear c45
                                      by_cases c46 : (ji44) < (t232.length : Int)
                                      · rw [if_pos c46] at H
                                        have c46b0 : decide ((ji44) < (t232.length : Int)) = true := decide_eq_true c46
                                        clear c46
                                        simp only [Option.some.injEq, Prod.mk.injEq] at H
                                        obtain ⟨rfl, rfl⟩ := H
                                        have p242 : 0 ≤ (x9_4 : Int) := of_decide_eq_true (by first | (with_reducible assumption) | assumption)
                                        have q242 : x9_4 < (t232.length : Int) := of_decide_eq_true (by first | (with_reducible assumption) | assumption)
                                        obtain ⟨ad242, e242, hx242_0, hx242_1, hx242_2⟩ := at_T41 (Kd.R_reads' HO_8.out).2.2 x9_4 p242 q242
                                        obtain rfl : ad236 = ad242 := (by injection e242)
                                        replace p242 := eq_true p242
                                        replace q242 := eq_true q242
                                        have p244 : 0 ≤ ((ji44) : Int) := of_decide_eq_true (by first | (with_reducible assumption) | assumption)
                                        have q244 : (ji44) < (t232.length : Int) := of_decide_eq_true (by first | (with_reducible assumption) | assumption)
                                        obtain ⟨ad244, e244, hx244_0, hx244_1, hx244_2⟩ := at_T41 (Kd.R_reads' HO_8.out).2.2 (ji44) p244 q244
                                        obtain rfl : ad236 = ad244 := (by injection e244)
                                        replace p244 := eq_true p244
                                        replace q244 := eq_true q244
                                        go_wp2
                                        repeat (go_quiet (fail); try go_wp2)
                                        go_ret2
                                        exact ⟨by first | rfl | (simp [errW_none, errW_some] <;> rfl) | (simp only [← hji44]; first | rfl | (simp [errW_none, errW_some] <;> rfl)) | (simp [*, errW_none, errW_some] <;> rfl), by repeat (first | (with_reducible first | exact HB.out | apply below_alloc | apply pw_below_drewN | apply below_drew1) | exact HB.out)⟩
                                      · rw [if_neg c46] at H
                                        exact absurd H (by simp)
                                    · rw [if_neg c45] at H
                                      exact absurd H (by simp)
                                  · rw [if_neg c43] at H
                                    have c43b0 : (x13_21 == 0) = false := beq_eq_false_iff_ne.mpr c43
                                    have c43b1 : (x13_21 != 0) = true := bne_iff_ne.mpr c43
                                    simp only [Option.some.injEq, Prod.mk.injEq] at H
                                    obtain ⟨rfl, rfl⟩ := H
                                    have p242 : 0 ≤ (x9_4 : Int) := of_decide_eq_true (by first | (with_reducible assumption) | assumption)
                                    have q242 : x9_4 < (t232.length : Int) := of_decide_eq_true (by first | (with_reducible assumption) | assumption)
                                    obtain ⟨ad242, e242, hx242_0, hx242_1, hx242_2⟩ := at_T41 (Kd.R_reads' HO_8.out).2.2 x9_4 p242 q242
                                    obtain rfl : ad236 = ad242 := (by injection e242)
                                    replace p242 := eq_true p242
                                    replace q242 := eq_true q242
                                    go_wp2
                                    repeat (go_quiet (fail); try go_wp2)
                                    go_ret2
                                    exact ⟨by first | rfl | (simp [errW_none, errW_some] <;> rfl) | (simp [*, errW_none, errW_some] <;> rfl), by repeat (first | (with_reducible first | exact HB.out | apply below_alloc | apply pw_below_drewN | apply below_drew1) | exact HB.out)⟩
                            · rw [if_neg c37] at H
                              exact absurd H (by simp)
                          · rw [if_neg c36] at H
                            exact absurd H (by simp)
          · replace c16 := Bool.eq_false_iff.mpr c16
            subst c16
            have H1 : (some ((rd_T41 t232 x9_4).f0, (rd_T41 t232 x9_4).f1)) = some (r1, r2) := by rw [if_neg (show ¬ (false = true) by decide)] at H; exact H
            clear H
            have H := H1
            clear H1
            simp only [Option.some.injEq, Prod.mk.injEq] at H
            obtain ⟨rfl, rfl⟩ := H
            obtain ⟨Ao47, co47, eo47⟩ := Kd.R_slice HO_8.out
            subst eo47
            have p236 : 0 ≤ (x9_4 : Int) := of_decide_eq_true (by first | (with_reducible assumption) | assumption)
            have q236 : x9_4 < (t232.length : Int) := of_decide_eq_true (by first | (with_reducible assumption) | assumption)
            obtain ⟨ad236, e236, hx236_0, hx236_1, hx236_2⟩ := at_T41 (Kd.R_reads' HO_8.out).2.2 x9_4 p236 q236
            cases e236
            replace p236 := eq_true p236
            replace q236 := eq_true q236
            have p237 : 0 ≤ (x9_4 : Int) := of_decide_eq_true (by first | (with_reducible assumption) | assumption)
            have q237 : x9_4 < (t232.length : Int) := of_decide_eq_true (by first | (with_reducible assumption) | assumption)
            obtain ⟨ad237, e237, hx237_0, hx237_1, hx237_2⟩ := at_T41 (Kd.R_reads' HO_8.out).2.2 x9_4 p237 q237
            obtain rfl : ad236 = ad237 := (by injection e237)
            replace p237 := eq_true p237
            replace q237 := eq_true q237
            go_wp2
            repeat (go_quiet (fail); try go_wp2)
            go_ret2
            exact ⟨by first | rfl | (simp [errW_none, errW_some] <;> rfl) | (simp [*, errW_none, errW_some] <;> rfl), by repeat (first | (with_reducible first | exact HB.out | apply below_alloc | apply pw_below_drewN | apply below_drew1) | exact HB.out)⟩
        · rw [if_neg c15] at H
          exact absurd H (by simp)
      · rw [if_neg c14] at H
        exact absurd H (by simp)

end Go.Proofs.YtcinobfflfkmjaaDoor.XObjectFinds
