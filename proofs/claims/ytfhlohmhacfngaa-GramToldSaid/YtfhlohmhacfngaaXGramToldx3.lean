-- Written by this session's program (wip/xprint.py) with the kit's print, for this claim.
import Derived.Test.YtfhlohmhacfngaaXGramToldx0
import Derived.Test.YtfhlohmhacfngaaXGramToldx1
import Derived.Test.YtfhlohmhacfngaaXGramToldx2
namespace Go.Proofs.Ytfhlohmhacfngaa.XGramTold
open Go.RowKit Go.Proofs.YtfhlohmhacfngaaW.PrintWords Go.Proofs.YtfhlohmhacfngaaW.PrintLast Go.Proofs.YtfhlohmhacfngaaW.PrintMore Go.Proofs.Ytfhlohmhacfngaa.Ext
attribute [local go_sem] max2_int min2_int max_two min_two max_three min_three max_four min_four   -- for this text's walks alone
set_option linter.unusedVariables false
set_option linter.unusedSimpArgs false

attribute [local go_sem high] eqA27
/-! ### bureaulaw11_GramTold: function 5 -/
def bureaulaw11_GramTold.j0 : Nat → Bool → Bool → Int → Int → Int → Int → Int → Option (Bool)
  | 0, _, _, _, _, _, _, _ => none
  | k + 1, x1, x33, x170000, x170001, x170002, x170003, x170004 => if x33 = true then (some false) else ((bureaulaw11_ours.f x170000 x170001 x170002 x170003 x170004).bind fun bt170 => ((bureauref11_Tell.f k bt170.1 bt170.2.1 bt170.2.2.1 bt170.2.2.2.1 bt170.2.2.2.2).bind fun t175 => ((gram_Parse.f t175 x1).bind fun bt178 => (if (x170000 == bt178.1 && (x170001 == bt178.2.1 && (x170002 == bt178.2.2.1 && (x170003 == bt178.2.2.2.1 && (x170004 == bt178.2.2.2.2.1))))) = true then (if bt178.2.2.2.2.2.1 = (t175.length : Int) then (some (bt178.2.2.2.2.2.2 == 1)) else (some false)) else (some false)))))
def bureaulaw11_GramTold.f (k : Nat) (l0 : List Int) (a1 : Bool) : Option (Bool) := (bureaulaw11_alive.f).bind fun t161 => (if t161 = true then (if (l0.length : Int) > 4096 then (some true) else ((gram_Parse.f l0 a1).bind fun bt162 => (if bt162.2.2.2.2.2.2 = 1 then (if bt162.2.1 < 0 then (bureaulaw11_GramTold.j0 k a1 true bt162.1 bt162.2.1 bt162.2.2.1 bt162.2.2.2.1 bt162.2.2.2.2.1) else (bureaulaw11_GramTold.j0 k a1 (decide (bt162.2.1 > 999)) bt162.1 bt162.2.1 bt162.2.2.1 bt162.2.2.2.1 bt162.2.2.2.2.1)) else (some true)))) else (some false))
theorem bureaulaw11_GramTold.mono_l : ∀ k, (∀ y0 y1 y2 y3 y4 y5 y6, LeO (bureaulaw11_GramTold.j0 k y0 y1 y2 y3 y4 y5 y6) (bureaulaw11_GramTold.j0 (k + 1) y0 y1 y2 y3 y4 y5 y6))
  | 0 => fun _ _ _ _ _ _ _ r h => by simp [bureaulaw11_GramTold.j0] at h
  | k + 1 => by
    have ih0 := bureaulaw11_GramTold.mono_l k
    · intro y0 y1 y2 y3 y4 y5 y6
      unfold bureaulaw11_GramTold.j0
      repeat' first
      | (with_reducible exact ih0 _ _ _ _ _ _ _)
      | (with_reducible exact bureauref11_Tell.mono _ _ _ _ _ _)
      | (with_reducible exact LeO.refl _)
      | (with_reducible exact LeO.none _)
      | (with_reducible refine LeO.ite ?_ ?_)
      | (with_reducible refine LeO.bind ?_ (fun _ => ?_))
      | exact ih0 _ _ _ _ _ _ _
      | exact bureauref11_Tell.mono _ _ _ _ _ _
      | exact LeO.none _
      | refine LeO.ite ?_ ?_
      | refine LeO.bind ?_ (fun _ => ?_)
theorem bureaulaw11_GramTold.mono : ∀ a0 a1 k, LeO (bureaulaw11_GramTold.f k a0 a1) (bureaulaw11_GramTold.f (k + 1) a0 a1) := by
  intro a0 a1 k
  have ih0 := bureaulaw11_GramTold.mono_l k
  unfold bureaulaw11_GramTold.f
  repeat' first
      | (with_reducible exact ih0 _ _ _ _ _ _ _)
      | (with_reducible exact bureauref11_Tell.mono _ _ _ _ _ _)
      | (with_reducible exact LeO.refl _)
      | (with_reducible exact LeO.none _)
      | (with_reducible refine LeO.ite ?_ ?_)
      | (with_reducible refine LeO.bind ?_ (fun _ => ?_))
      | exact ih0 _ _ _ _ _ _ _
      | exact bureauref11_Tell.mono _ _ _ _ _ _
      | exact LeO.none _
      | refine LeO.ite ?_ ?_
      | refine LeO.bind ?_ (fun _ => ?_)
set_option maxHeartbeats 8000000 in
set_option maxRecDepth 100000 in
theorem bureaulaw11_GramTold.calls (k : Nat) (A0 : Option Addr) (c0 : Nat) (l0 : List Int) (a1 : Bool) (r : Bool) (w : World) (hr0 : Kd.C (Kd.int .i32) w A0 l0.length l0) (hc0 : l0.length ≤ c0) (h : bureaulaw11_GramTold.f k l0 a1 = some r) :
    Calls Try.prog 5 #[.slice A0 l0.length c0, .bool a1] w fun e w' => e = .returned (.bool r) ∧ Below w.heap.size w w' := by
  have hu27 := Try.underlying27
  have HR0 := Aside0.mk hr0
  have HC0 := Aside0.mk hc0
  clear hr0 hc0
  have HB := Aside0.mk (Below.refl w.heap.size w)
  have H : ((bureaulaw11_alive.f).bind fun t161 => (if t161 = true then (if (l0.length : Int) > 4096 then (some true) else ((gram_Parse.f l0 a1).bind fun bt162 => (if bt162.2.2.2.2.2.2 = 1 then (if bt162.2.1 < 0 then (bureaulaw11_GramTold.j0 k a1 true bt162.1 bt162.2.1 bt162.2.2.1 bt162.2.2.2.1 bt162.2.2.2.2.1) else (bureaulaw11_GramTold.j0 k a1 (decide (bt162.2.1 > 999)) bt162.1 bt162.2.1 bt162.2.2.1 bt162.2.2.2.1 bt162.2.2.2.2.1)) else (some true)))) else (some false))) = some r := h
  clear h
  replace H := Option.bind_eq_some_iff.mp H
  obtain ⟨t161, A30, H⟩ := H
  replace H : (if t161 = true then (if (l0.length : Int) > 4096 then (some true) else ((gram_Parse.f l0 a1).bind fun bt162 => (if bt162.2.2.2.2.2.2 = 1 then (if bt162.2.1 < 0 then (bureaulaw11_GramTold.j0 k a1 true bt162.1 bt162.2.1 bt162.2.2.1 bt162.2.2.2.1 bt162.2.2.2.2.1) else (bureaulaw11_GramTold.j0 k a1 (decide (bt162.2.1 > 999)) bt162.1 bt162.2.1 bt162.2.2.1 bt162.2.2.2.1 bt162.2.2.2.2.1)) else (some true)))) else (some false)) = some r := H
  have A3 := Aside0.mk A30
  clear A30
  by_cases c4 : t161 = true
  · subst c4
    have H1 : (if (l0.length : Int) > 4096 then (some true) else ((gram_Parse.f l0 a1).bind fun bt162 => (if bt162.2.2.2.2.2.2 = 1 then (if bt162.2.1 < 0 then (bureaulaw11_GramTold.j0 k a1 true bt162.1 bt162.2.1 bt162.2.2.1 bt162.2.2.2.1 bt162.2.2.2.2.1) else (bureaulaw11_GramTold.j0 k a1 (decide (bt162.2.1 > 999)) bt162.1 bt162.2.1 bt162.2.2.1 bt162.2.2.2.1 bt162.2.2.2.2.1)) else (some true)))) = some r := by rw [if_pos rfl] at H; exact H
    clear H
    have H := H1
    clear H1
    by_cases c5 : (l0.length : Int) > 4096
    · rw [if_pos c5] at H
      have c5b0 : decide (4096 < (l0.length : Int)) = true := decide_eq_true c5
      have c5b1 : decide (4096 < l0.length) = true := decide_eq_true (by omega)
      clear c5
      obtain rfl := Option.some.inj H
      go_enter Try.func5, Try.ntmps5
      go_wp2_with (first | ((with_reducible refine gate_callee (f := 7) rfl ?_); refine goesL_ (some 12) rfl rfl Try.func7 (by kernel_rfl) rfl #[] rfl (by (try simp only [List.map_toArray, List.map_cons, List.map_nil]); first | done | rfl | (simp only [List.length_drop, List.length_take]; rfl)) ?_; (with_reducible refine (bureaulaw11_alive.calls  true _ A3.out).mono ?_); rintro e w6 ⟨rfl, hb⟩; refine ⟨_, rfl, ?_⟩; have n0_ := Aside0.mk (below_step (by repeat (first | (with_reducible first | exact HB.out | apply below_alloc | apply pw_below_drewN | apply below_drew1) | exact HB.out)) hb); clear HB; have HB := n0_; clear n0_; (try clear hb); (try clear hb2); (try clear hk); (try clear hi)))
      go_ret
      exact ⟨by first | rfl | (simp [errW_none, errW_some] <;> rfl) | (simp [*, errW_none, errW_some] <;> rfl), by repeat (first | (with_reducible first | exact HB.out | apply below_alloc | apply pw_below_drewN | apply below_drew1) | exact HB.out)⟩
    · rw [if_neg c5] at H
      have c5b0 : decide (4096 < (l0.length : Int)) = false := decide_eq_false c5
      have c5b1 : decide (4096 < l0.length) = false := decide_eq_false (by omega)
      clear c5
      replace H := Option.bind_eq_some_iff.mp H
      obtain ⟨⟨t162, t163, t164, t165, t166, t167, t168⟩, A70, H⟩ := H
      replace H : (if t168 = 1 then (if t163 < 0 then (bureaulaw11_GramTold.j0 k a1 true t162 t163 t164 t165 t166) else (bureaulaw11_GramTold.j0 k a1 (decide (t163 > 999)) t162 t163 t164 t165 t166)) else (some true)) = some r := H
      have A7 := Aside0.mk A70
      clear A70
      by_cases c8 : t168 = 1
      · rw [if_pos c8] at H
        have c8b0 : (t168 == 1) = true := beq_iff_eq.mpr c8
        have c8b1 : (t168 != 1) = false := bne_eq_false_iff_eq.mpr c8
        clear c8
        have HC9 := Aside0.mk H
        clear H
        go_enter Try.func5, Try.ntmps5
        go_upto_region 8 with (first | ((with_reducible refine gate_callee (f := 7) rfl ?_); refine goesL_ (some 12) rfl rfl Try.func7 (by kernel_rfl) rfl #[] rfl (by (try simp only [List.map_toArray, List.map_cons, List.map_nil]); first | done | rfl | (simp only [List.length_drop, List.length_take]; rfl)) ?_; (with_reducible refine (bureaulaw11_alive.calls  true _ A3.out).mono ?_); rintro e w10 ⟨rfl, hb⟩; refine ⟨_, rfl, ?_⟩; have n0_ := Aside0.mk (below_step (by repeat (first | (with_reducible first | exact HB.out | apply below_alloc | apply pw_below_drewN | apply below_drew1) | exact HB.out)) hb); clear HB; have HB := n0_; clear n0_; (try clear hb); (try clear hb2); (try clear hk); (try clear hi)) | ((with_reducible refine gate_callee (f := 12) rfl ?_); refine goesL_ (some 20) rfl rfl Try.func12 (by kernel_rfl) rfl #[.slice A0 l0.length c0, .bool a1] rfl (by (try simp only [List.map_toArray, List.map_cons, List.map_nil]); first | done | rfl | (simp only [List.length_drop, List.length_take]; rfl)) ?_; (with_reducible refine (gram_Parse.calls _ _ l0 a1 t162 t163 t164 t165 t166 t167 t168 _ ?side1 ?side2 A7.out).mono ?_); (case side1 => repeat (first | exact (Kd.C_below HR0.out HB.out) | (with_reducible refine Kd.C_alloc ?_ _) | (with_reducible refine Kd.C_drewN ?_ _) | (with_reducible refine Kd.C_drew ?_))); (case side2 => exact HC0.out); rintro e w11 ⟨rfl, hb⟩; refine ⟨_, rfl, ?_⟩; have n0_ := Aside0.mk (below_step (by repeat (first | (with_reducible first | exact HB.out | apply below_alloc | apply pw_below_drewN | apply below_drew1) | exact HB.out)) hb); clear HB; have HB := n0_; clear n0_; (try clear hb); (try clear hb2); (try clear hk); (try clear hi)) | ((with_reducible refine gate_dst (N := 5) rfl ?_); (try (refine gate_guard (by rfl) ?_; dsimp only)); refine box_event ?hg (N := 5) ?hd (cs := #[.int .i32 0, .int .i64 0, .int .i32 0, .int .i32 0, .int .i32 0]) (t := 27) ?hr ?_; (case hd => rfl); (case hg => rfl); (case hr => first | (go_simp; done) | (go_simp; rfl)); intro gb169 hg w12 hbox hb; have n0_ := Aside0.mk (below_step (by repeat (first | (with_reducible first | exact HB.out | apply below_alloc | apply pw_below_drewN | apply below_drew1) | exact HB.out)) hb); have n1_ := Aside0.mk (hbox); have n2_ := Aside0.mk ((by rw [hg]; exact (below_size (by repeat (first | (with_reducible first | exact HB.out | apply below_alloc | apply pw_below_drewN | apply below_drew1) | exact HB.out))) : w.heap.size ≤ gb169)); have n3_ := Aside0.mk ((by rw [hg]; exact (below_size (by repeat (first | (with_reducible first | exact HB.out | apply below_alloc | apply pw_below_drewN | apply below_drew1) | exact HB.out))) : w.heap.size ≤ gb169)); clear HB; have HB := n0_; have BK169 := n1_; have GW169 := n2_; have GE169 := n3_; clear n0_ n1_ n2_ n3_; clear hb hbox hg; have hcz13_0 : w12.cell? ⟨gb169, 0, none⟩ = some (.int .i32 0) := (blk_cell BK169.out 0).trans rfl; have hcz13_1 : w12.cell? ⟨gb169, 1, none⟩ = some (.int .i64 0) := (blk_cell BK169.out 1).trans rfl; have hcz13_2 : w12.cell? ⟨gb169, 2, none⟩ = some (.int .i32 0) := (blk_cell BK169.out 2).trans rfl; have hcz13_3 : w12.cell? ⟨gb169, 3, none⟩ = some (.int .i32 0) := (blk_cell BK169.out 3).trans rfl; have hcz13_4 : w12.cell? ⟨gb169, 4, none⟩ = some (.int .i32 0) := (blk_cell BK169.out 4).trans rfl; have hfz13_0 := blk_frozen BK169.out 0; have hfz13_1 := blk_frozen BK169.out 1; have hfz13_2 := blk_frozen BK169.out 2; have hfz13_3 := blk_frozen BK169.out 3; have hfz13_4 := blk_frozen BK169.out 4))
        (try simp only [Act.put, List.setIfInBounds_toArray, List.set_cons_zero, List.set_cons_succ])
        go_cut [33] (fun v33 wc => ∃ (kq : Nat) (x33_8 : Bool), v33 = .bool x33_8 ∧ Aside0 (bureaulaw11_GramTold.j0 kq a1 x33_8 t162 t163 t164 t165 t166 = some r) ∧ Aside0 (kq ≤ k) ∧ Aside0 (wc.heap[gb169]? = some (.cells #[.int .i32 t162, .int .i64 t163, .int .i32 t164, .int .i32 t165, .int .i32 t166] 27 (0, 0))) ∧ Aside0 (Below w.heap.size w wc))
        case first =>
          have H := HC9.out
          clear HC9
          by_cases c14 : t163 < 0
          · rw [if_pos c14] at H
            have c14b0 : decide (t163 < 0) = true := decide_eq_true c14
            clear c14
            (first | rw [c14b0] | (simp only [i64_w, i32_w]; rw [c14b0]) | skip)
            have H' := Aside0.mk H
            clear H
            have hcz15_0 : w12.cell? ⟨gb169, 0, none⟩ = some (.int .i32 0) := (blk_cell BK169.out 0).trans rfl
            have hcz15_1 : w12.cell? ⟨gb169, 1, none⟩ = some (.int .i64 0) := (blk_cell BK169.out 1).trans rfl
            have hcz15_2 : w12.cell? ⟨gb169, 2, none⟩ = some (.int .i32 0) := (blk_cell BK169.out 2).trans rfl
            have hcz15_3 : w12.cell? ⟨gb169, 3, none⟩ = some (.int .i32 0) := (blk_cell BK169.out 3).trans rfl
            have hcz15_4 : w12.cell? ⟨gb169, 4, none⟩ = some (.int .i32 0) := (blk_cell BK169.out 4).trans rfl
            have hfz15_0 := blk_frozen BK169.out 0
            have hfz15_1 := blk_frozen BK169.out 1
            have hfz15_2 := blk_frozen BK169.out 2
            have hfz15_3 := blk_frozen BK169.out 3
            have hfz15_4 := blk_frozen BK169.out 4
            go_wp2
            go_meet
            case rel => exact ⟨_, (true), (by first | rfl | (simp; done) | (simp [*]; done)), H', ⟨by first | omega | exact Nat.le_refl _⟩, ⟨by (with_reducible repeat (first | refine blk_drewN ?_ _ | refine blk_drew ?_ | refine blk_alloc ?_ _)); refine blk_put (cs := #[.int .i32 t162, .int .i64 t163, .int .i32 t164, .int .i32 t165, .int .i32 0]) ?_ 4 _ rfl; (with_reducible repeat (first | refine blk_drewN ?_ _ | refine blk_drew ?_ | refine blk_alloc ?_ _)); refine blk_put (cs := #[.int .i32 t162, .int .i64 t163, .int .i32 t164, .int .i32 0, .int .i32 0]) ?_ 3 _ rfl; (with_reducible repeat (first | refine blk_drewN ?_ _ | refine blk_drew ?_ | refine blk_alloc ?_ _)); refine blk_put (cs := #[.int .i32 t162, .int .i64 t163, .int .i32 0, .int .i32 0, .int .i32 0]) ?_ 2 _ rfl; (with_reducible repeat (first | refine blk_drewN ?_ _ | refine blk_drew ?_ | refine blk_alloc ?_ _)); refine blk_put (cs := #[.int .i32 t162, .int .i64 0, .int .i32 0, .int .i32 0, .int .i32 0]) ?_ 1 _ rfl; (with_reducible repeat (first | refine blk_drewN ?_ _ | refine blk_drew ?_ | refine blk_alloc ?_ _)); refine blk_put (cs := #[.int .i32 0, .int .i64 0, .int .i32 0, .int .i32 0, .int .i32 0]) ?_ 0 _ rfl; (with_reducible repeat (first | refine blk_drewN ?_ _ | refine blk_drew ?_ | refine blk_alloc ?_ _)); exact BK169.out⟩, ⟨by repeat (first | (with_reducible first | exact HB.out | apply below_alloc | apply pw_below_drewN | apply below_drew1 | refine below_set ?_ GE169.out) | exact HB.out)⟩⟩
          · rw [if_neg c14] at H
            have c14b0 : decide (t163 < 0) = false := decide_eq_false c14
            clear c14
            (first | rw [c14b0] | (simp only [i64_w, i32_w]; rw [c14b0]) | skip)
            have H' := Aside0.mk H
            clear H
            have hcz16_0 : w12.cell? ⟨gb169, 0, none⟩ = some (.int .i32 0) := (blk_cell BK169.out 0).trans rfl
            have hcz16_1 : w12.cell? ⟨gb169, 1, none⟩ = some (.int .i64 0) := (blk_cell BK169.out 1).trans rfl
            have hcz16_2 : w12.cell? ⟨gb169, 2, none⟩ = some (.int .i32 0) := (blk_cell BK169.out 2).trans rfl
            have hcz16_3 : w12.cell? ⟨gb169, 3, none⟩ = some (.int .i32 0) := (blk_cell BK169.out 3).trans rfl
            have hcz16_4 : w12.cell? ⟨gb169, 4, none⟩ = some (.int .i32 0) := (blk_cell BK169.out 4).trans rfl
            have hfz16_0 := blk_frozen BK169.out 0
            have hfz16_1 := blk_frozen BK169.out 1
            have hfz16_2 := blk_frozen BK169.out 2
            have hfz16_3 := blk_frozen BK169.out 3
            have hfz16_4 := blk_frozen BK169.out 4
            go_wp2
            go_meet
            case rel => exact ⟨_, (decide (t163 > 999)), (by first | rfl | (simp; done) | (simp [*]; done)), H', ⟨by first | omega | exact Nat.le_refl _⟩, ⟨by (with_reducible repeat (first | refine blk_drewN ?_ _ | refine blk_drew ?_ | refine blk_alloc ?_ _)); refine blk_put (cs := #[.int .i32 t162, .int .i64 t163, .int .i32 t164, .int .i32 t165, .int .i32 0]) ?_ 4 _ rfl; (with_reducible repeat (first | refine blk_drewN ?_ _ | refine blk_drew ?_ | refine blk_alloc ?_ _)); refine blk_put (cs := #[.int .i32 t162, .int .i64 t163, .int .i32 t164, .int .i32 0, .int .i32 0]) ?_ 3 _ rfl; (with_reducible repeat (first | refine blk_drewN ?_ _ | refine blk_drew ?_ | refine blk_alloc ?_ _)); refine blk_put (cs := #[.int .i32 t162, .int .i64 t163, .int .i32 0, .int .i32 0, .int .i32 0]) ?_ 2 _ rfl; (with_reducible repeat (first | refine blk_drewN ?_ _ | refine blk_drew ?_ | refine blk_alloc ?_ _)); refine blk_put (cs := #[.int .i32 t162, .int .i64 0, .int .i32 0, .int .i32 0, .int .i32 0]) ?_ 1 _ rfl; (with_reducible repeat (first | refine blk_drewN ?_ _ | refine blk_drew ?_ | refine blk_alloc ?_ _)); refine blk_put (cs := #[.int .i32 0, .int .i64 0, .int .i32 0, .int .i32 0, .int .i32 0]) ?_ 0 _ rfl; (with_reducible repeat (first | refine blk_drewN ?_ _ | refine blk_drew ?_ | refine blk_alloc ?_ _)); exact BK169.out⟩, ⟨by repeat (first | (with_reducible first | exact HB.out | apply below_alloc | apply pw_below_drewN | apply below_drew1 | refine below_set ?_ GE169.out) | exact HB.out)⟩⟩
        case rest =>
          clear HC9
          try clear c1
          try clear p2
          try clear c4
          try clear c5
          try clear c5b0
          try clear c5b1
          try clear c7
          try clear c8
          try clear c8b0
          try clear c8b1
          try clear c12
          try clear c14
          try clear c14b0
          try clear hcz13_0
          try clear hcz13_1
          try clear hcz13_2
          try clear hcz13_3
          try clear hcz13_4
          try clear hcz15_0
          try clear hcz15_1
          try clear hcz15_2
          try clear hcz15_3
          try clear hcz15_4
          try clear hcz16_0
          try clear hcz16_1
          try clear hcz16_2
          try clear hcz16_3
          try clear hcz16_4
          try clear hfz13_0
          try clear hfz13_1
          try clear hfz13_2
          try clear hfz13_3
          try clear hfz13_4
          try clear hfz15_0
          try clear hfz15_1
          try clear hfz15_2
          try clear hfz15_3
          try clear hfz15_4
          try clear hfz16_0
          try clear hfz16_1
          try clear hfz16_2
          try clear hfz16_3
          try clear hfz16_4
          obtain ⟨kq, x33_8, rfl, HA, HJ8, BK169, HB⟩ := hcut
          cases kq with
          | zero => exact absurd HA.out (by simp [bureaulaw11_GramTold.j0])
          | succ kj8 =>
            have H := HA.out
            clear HA
            simp only [bureaulaw11_GramTold.j0] at H
            by_cases c17 : x33_8 = true
            · subst c17
              have H1 : (some false) = some r := by rw [if_pos rfl] at H; exact H
              clear H
              have H := H1
              clear H1
              obtain rfl := Option.some.inj H
              go_wp2
              go_ret
              exact ⟨by first | rfl | (simp [errW_none, errW_some] <;> rfl) | (simp [*, errW_none, errW_some] <;> rfl), by repeat (first | (with_reducible first | exact HB.out | apply below_alloc | apply pw_below_drewN | apply below_drew1 | refine below_set ?_ GE169.out) | exact HB.out)⟩
            · replace c17 := Bool.eq_false_iff.mpr c17
              subst c17
              have H1 : ((bureaulaw11_ours.f t162 t163 t164 t165 t166).bind fun bt170 => ((bureauref11_Tell.f kj8 bt170.1 bt170.2.1 bt170.2.2.1 bt170.2.2.2.1 bt170.2.2.2.2).bind fun t175 => ((gram_Parse.f t175 a1).bind fun bt178 => (if (t162 == bt178.1 && (t163 == bt178.2.1 && (t164 == bt178.2.2.1 && (t165 == bt178.2.2.2.1 && (t166 == bt178.2.2.2.2.1))))) = true then (if bt178.2.2.2.2.2.1 = (t175.length : Int) then (some (bt178.2.2.2.2.2.2 == 1)) else (some false)) else (some false))))) = some r := by rw [if_neg (show ¬ (false = true) by decide)] at H; exact H
              clear H
              have H := H1
              clear H1
              replace H := Option.bind_eq_some_iff.mp H
              obtain ⟨⟨t170, t171, t172, t173, t174⟩, A180, H⟩ := H
              replace H : ((bureauref11_Tell.f kj8 t170 t171 t172 t173 t174).bind fun t175 => ((gram_Parse.f t175 a1).bind fun bt178 => (if (t162 == bt178.1 && (t163 == bt178.2.1 && (t164 == bt178.2.2.1 && (t165 == bt178.2.2.2.1 && (t166 == bt178.2.2.2.2.1))))) = true then (if bt178.2.2.2.2.2.1 = (t175.length : Int) then (some (bt178.2.2.2.2.2.2 == 1)) else (some false)) else (some false)))) = some r := H
              have A18 := Aside0.mk A180
              clear A180
              replace H := Option.bind_eq_some_iff.mp H
              obtain ⟨t175, A190, H⟩ := H
              replace H : ((gram_Parse.f t175 a1).bind fun bt178 => (if (t162 == bt178.1 && (t163 == bt178.2.1 && (t164 == bt178.2.2.1 && (t165 == bt178.2.2.2.1 && (t166 == bt178.2.2.2.2.1))))) = true then (if bt178.2.2.2.2.2.1 = (t175.length : Int) then (some (bt178.2.2.2.2.2.2 == 1)) else (some false)) else (some false))) = some r := H
              have A19 := Aside0.mk A190
              clear A190
              replace H := Option.bind_eq_some_iff.mp H
              obtain ⟨⟨t178, t179, t180, t181, t182, t183, t184⟩, A200, H⟩ := H
              replace H : (if (t162 == t178 && (t163 == t179 && (t164 == t180 && (t165 == t181 && (t166 == t182))))) = true then (if t183 = (t175.length : Int) then (some (t184 == 1)) else (some false)) else (some false)) = some r := H
              have A20 := Aside0.mk A200
              clear A200
              by_cases c21 : (t162 == t178 && (t163 == t179 && (t164 == t180 && (t165 == t181 && (t166 == t182))))) = true
              · rw [if_pos c21] at H
                have c21b0 : (t162 == t178 && (t163 == t179 && (t164 == t180 && (t165 == t181 && (t166 == t182))))) = true := c21
                (try (have c21b1 : decide (t162 = t178 && (t163 == t179 && (t164 == t180 && (t165 == t181 && (t166 == t182))))) = true := by simpa using c21))
                (try (have c21b2 : (t162 == t178 && (t163 == t179 && (t164 == t180 && (t165 == t181 && (t166 == t182))))) = true := by simpa using c21))
                clear c21
                by_cases c22 : t183 = (t175.length : Int)
                · rw [if_pos c22] at H
                  have c22b0 : (t183 == (t175.length : Int)) = true := beq_iff_eq.mpr c22
                  have c22b1 : (t183 != (t175.length : Int)) = false := bne_eq_false_iff_eq.mpr c22
                  clear c22
                  obtain rfl := Option.some.inj H
                  have hcz23_0 : wc.cell? ⟨gb169, 0, none⟩ = some (.int .i32 t162) := (blk_cell BK169.out 0).trans rfl
                  have hcz23_1 : wc.cell? ⟨gb169, 1, none⟩ = some (.int .i64 t163) := (blk_cell BK169.out 1).trans rfl
                  have hcz23_2 : wc.cell? ⟨gb169, 2, none⟩ = some (.int .i32 t164) := (blk_cell BK169.out 2).trans rfl
                  have hcz23_3 : wc.cell? ⟨gb169, 3, none⟩ = some (.int .i32 t165) := (blk_cell BK169.out 3).trans rfl
                  have hcz23_4 : wc.cell? ⟨gb169, 4, none⟩ = some (.int .i32 t166) := (blk_cell BK169.out 4).trans rfl
                  have hfz23_0 := blk_frozen BK169.out 0
                  have hfz23_1 := blk_frozen BK169.out 1
                  have hfz23_2 := blk_frozen BK169.out 2
                  have hfz23_3 := blk_frozen BK169.out 3
                  have hfz23_4 := blk_frozen BK169.out 4
                  go_wp2_with (first | ((with_reducible refine gate_callee (f := 14) rfl ?_); refine goesL_ (some 35) rfl rfl Try.func14 (by kernel_rfl) rfl #[.agg #[.int .i32 t162, .int .i64 t163, .int .i32 t164, .int .i32 t165, .int .i32 t166]] rfl (by (try simp only [List.map_toArray, List.map_cons, List.map_nil]); first | done | rfl | (simp only [List.length_drop, List.length_take]; rfl)) ?_; (with_reducible refine (bureaulaw11_ours.calls t162 t163 t164 t165 t166 t170 t171 t172 t173 t174 _ A18.out).mono ?_); rintro e w24 ⟨rfl, hb⟩; refine ⟨_, rfl, ?_⟩; have n0_ := Aside0.mk (blk_below (g := gb169) (o := .cells #[.int .i32 t162, .int .i64 t163, .int .i32 t164, .int .i32 t165, .int .i32 t166] 27 (0, 0)) (by (with_reducible repeat (first | refine blk_drewN ?_ _ | refine blk_drew ?_ | refine blk_alloc ?_ _)); exact BK169.out) hb); have n1_ := Aside0.mk (below_step (by repeat (first | (with_reducible first | exact HB.out | apply below_alloc | apply pw_below_drewN | apply below_drew1 | refine below_set ?_ GE169.out) | exact HB.out)) hb); clear BK169; clear HB; have BK169 := n0_; have HB := n1_; clear n0_ n1_; (try clear hb); (try clear hb2); (try clear hk); (try clear hi)) | ((with_reducible refine gate_callee (f := 13) rfl ?_); refine goesL_ (some 36) rfl rfl Try.func13 (by kernel_rfl) rfl #[.agg #[.int .i64 t170, .int .i64 t171, .int .i64 t172, .int .i64 t173, .int .i64 t174]] rfl (by (try simp only [List.map_toArray, List.map_cons, List.map_nil]); first | done | rfl | (simp only [List.length_drop, List.length_take]; rfl)) ?_; (with_reducible refine (bureauref11_Tell.calls kj8 t170 t171 t172 t173 t174 t175 _ A19.out).mono ?_); rintro e w25 ⟨v176, rfl, ho0, hb⟩; refine ⟨_, rfl, ?_⟩; have n0_ := Aside0.mk (Kd.R_lower ho0 (below_size (by repeat (first | (with_reducible first | exact HB.out | apply below_alloc | apply pw_below_drewN | apply below_drew1 | refine below_set ?_ GE169.out) | exact HB.out)))); have n1_ := Aside0.mk (blk_below (g := gb169) (o := .cells #[.int .i32 t162, .int .i64 t163, .int .i32 t164, .int .i32 t165, .int .i32 t166] 27 (0, 0)) (by (with_reducible repeat (first | refine blk_drewN ?_ _ | refine blk_drew ?_ | refine blk_alloc ?_ _)); exact BK169.out) hb); have n2_ := Aside0.mk (below_step (by repeat (first | (with_reducible first | exact HB.out | apply below_alloc | apply pw_below_drewN | apply below_drew1 | refine below_set ?_ GE169.out) | exact HB.out)) hb); clear BK169; clear HB; have HO177 := n0_; have BK169 := n1_; have HB := n2_; clear n0_ n1_ n2_; (try clear hb); (try clear hb2); (try clear hk); (try clear hi); (try clear ho0); obtain ⟨Ao26, co26, eo26⟩ := Kd.R_slice HO177.out; subst eo26) | ((with_reducible refine gate_callee (f := 12) rfl ?_); refine goesL_ (some 40) rfl rfl Try.func12 (by kernel_rfl) rfl #[.slice Ao26 t175.length co26, .bool a1] rfl (by (try simp only [List.map_toArray, List.map_cons, List.map_nil]); first | done | rfl | (simp only [List.length_drop, List.length_take]; rfl)) ?_; (with_reducible refine (gram_Parse.calls _ _ t175 a1 t178 t179 t180 t181 t182 t183 t184 _ ?side1 ?side2 A20.out).mono ?_); (case side1 => repeat (first | exact (Kd.R_reads' HO177.out).2.2 | (with_reducible refine Kd.C_alloc ?_ _) | (with_reducible refine Kd.C_drewN ?_ _) | (with_reducible refine Kd.C_drew ?_))); (case side2 => exact (Kd.R_reads' HO177.out).2.1); rintro e w27 ⟨rfl, hb⟩; refine ⟨_, rfl, ?_⟩; have n0_ := Aside0.mk (Kd.R_below (by (with_reducible repeat (first | apply Kd.R_alloc | apply Kd.R_drewN | apply Kd.R_drew)); exact HO177.out) hb); have n1_ := Aside0.mk (blk_below (g := gb169) (o := .cells #[.int .i32 t162, .int .i64 t163, .int .i32 t164, .int .i32 t165, .int .i32 t166] 27 (0, 0)) (by (with_reducible repeat (first | refine blk_drewN ?_ _ | refine blk_drew ?_ | refine blk_alloc ?_ _)); exact BK169.out) hb); have n2_ := Aside0.mk (below_step (by repeat (first | (with_reducible first | exact HB.out | apply below_alloc | apply pw_below_drewN | apply below_drew1 | refine below_set ?_ GE169.out) | exact HB.out)) hb); clear HO177; clear BK169; clear HB; have HO177 := n0_; have BK169 := n1_; have HB := n2_; clear n0_ n1_ n2_; (try clear hb); (try clear hb2); (try clear hk); (try clear hi)) | ((with_reducible refine gate_dst (N := 9) rfl ?_); (try (refine gate_guard (by rfl) ?_; dsimp only)); refine box_event ?hg (N := 9) ?hd (cs := #[.int .i32 0, .int .i64 0, .int .i32 0, .int .i32 0, .int .i32 0]) (t := 27) ?hr ?_; (case hd => rfl); (case hg => rfl); (case hr => first | (go_simp; done) | (go_simp; rfl)); intro gb185 hg w28 hbox hb; have n0_ := Aside0.mk (Kd.R_below (by (with_reducible repeat (first | apply Kd.R_alloc | apply Kd.R_drewN | apply Kd.R_drew)); exact HO177.out) hb); have n1_ := Aside0.mk (blk_below (g := gb169) (o := .cells #[.int .i32 t162, .int .i64 t163, .int .i32 t164, .int .i32 t165, .int .i32 t166] 27 (0, 0)) (by (with_reducible repeat (first | refine blk_drewN ?_ _ | refine blk_drew ?_ | refine blk_alloc ?_ _)); exact BK169.out) hb); have n2_ := Aside0.mk (below_step (by repeat (first | (with_reducible first | exact HB.out | apply below_alloc | apply pw_below_drewN | apply below_drew1 | refine below_set ?_ GE169.out) | exact HB.out)) hb); have n3_ := Aside0.mk (hbox); have n4_ := Aside0.mk ((by rw [hg]; exact (below_size (by repeat (first | (with_reducible first | exact HB.out | apply below_alloc | apply pw_below_drewN | apply below_drew1 | refine below_set ?_ GE169.out) | exact HB.out))) : w.heap.size ≤ gb185)); have n5_ := Aside0.mk ((by rw [hg]; exact (below_size (by repeat (first | (with_reducible first | exact HB.out | apply below_alloc | apply pw_below_drewN | apply below_drew1 | refine below_set ?_ GE169.out) | exact HB.out))) : w.heap.size ≤ gb185)); have n6_ := Aside0.mk ((by rw [hg]; exact Nat.ne_of_lt (blk_lt (g := gb169) (o := .cells #[.int .i32 t162, .int .i64 t163, .int .i32 t164, .int .i32 t165, .int .i32 t166] 27 (0, 0)) (by (with_reducible repeat (first | refine blk_drewN ?_ _ | refine blk_drew ?_ | refine blk_alloc ?_ _)); exact BK169.out)) : gb169 ≠ gb185)); have n7_ := Aside0.mk ((by rw [hg]; exact Nat.ne_of_gt (blk_lt (g := gb169) (o := .cells #[.int .i32 t162, .int .i64 t163, .int .i32 t164, .int .i32 t165, .int .i32 t166] 27 (0, 0)) (by (with_reducible repeat (first | refine blk_drewN ?_ _ | refine blk_drew ?_ | refine blk_alloc ?_ _)); exact BK169.out)) : gb185 ≠ gb169)); clear HO177; clear BK169; clear HB; have HO177 := n0_; have BK169 := n1_; have HB := n2_; have BK185 := n3_; have GW185 := n4_; have GE185 := n5_; have NB169_185 := n6_; have NB185_169 := n7_; clear n0_ n1_ n2_ n3_ n4_ n5_ n6_ n7_; clear hb hbox hg; have hnb29 := NB185_169.out; have hnc29 := NB169_185.out; have hcz30_0 : w28.cell? ⟨gb185, 0, none⟩ = some (.int .i32 0) := (blk_cell BK185.out 0).trans rfl; have hcz30_1 : w28.cell? ⟨gb185, 1, none⟩ = some (.int .i64 0) := (blk_cell BK185.out 1).trans rfl; have hcz30_2 : w28.cell? ⟨gb185, 2, none⟩ = some (.int .i32 0) := (blk_cell BK185.out 2).trans rfl; have hcz30_3 : w28.cell? ⟨gb185, 3, none⟩ = some (.int .i32 0) := (blk_cell BK185.out 3).trans rfl; have hcz30_4 : w28.cell? ⟨gb185, 4, none⟩ = some (.int .i32 0) := (blk_cell BK185.out 4).trans rfl; have hfz30_0 := blk_frozen BK185.out 0; have hfz30_1 := blk_frozen BK185.out 1; have hfz30_2 := blk_frozen BK185.out 2; have hfz30_3 := blk_frozen BK185.out 3; have hfz30_4 := blk_frozen BK185.out 4; have hcz31_0 : w28.cell? ⟨gb169, 0, none⟩ = some (.int .i32 t162) := (blk_cell BK169.out 0).trans rfl; have hcz31_1 : w28.cell? ⟨gb169, 1, none⟩ = some (.int .i64 t163) := (blk_cell BK169.out 1).trans rfl; have hcz31_2 : w28.cell? ⟨gb169, 2, none⟩ = some (.int .i32 t164) := (blk_cell BK169.out 2).trans rfl; have hcz31_3 : w28.cell? ⟨gb169, 3, none⟩ = some (.int .i32 t165) := (blk_cell BK169.out 3).trans rfl; have hcz31_4 : w28.cell? ⟨gb169, 4, none⟩ = some (.int .i32 t166) := (blk_cell BK169.out 4).trans rfl; have hfz31_0 := blk_frozen BK169.out 0; have hfz31_1 := blk_frozen BK169.out 1; have hfz31_2 := blk_frozen BK169.out 2; have hfz31_3 := blk_frozen BK169.out 3; have hfz31_4 := blk_frozen BK169.out 4))
                  go_ret
                  exact ⟨by first | rfl | (simp [errW_none, errW_some] <;> rfl) | (simp [*, errW_none, errW_some] <;> rfl), by repeat (first | (with_reducible first | exact HB.out | apply below_alloc | apply pw_below_drewN | apply below_drew1 | refine below_set ?_ GE169.out | refine below_set ?_ GE185.out) | exact HB.out)⟩
                · rw [if_neg c22] at H
                  have c22b0 : (t183 == (t175.length : Int)) = false := beq_eq_false_iff_ne.mpr c22
                  have c22b1 : (t183 != (t175.length : Int)) = true := bne_iff_ne.mpr c22
                  obtain rfl := Option.some.inj H
                  have hcz32_0 : wc.cell? ⟨gb169, 0, none⟩ = some (.int .i32 t162) := (blk_cell BK169.out 0).trans rfl
                  have hcz32_1 : wc.cell? ⟨gb169, 1, none⟩ = some (.int .i64 t163) := (blk_cell BK169.out 1).trans rfl
                  have hcz32_2 : wc.cell? ⟨gb169, 2, none⟩ = some (.int .i32 t164) := (blk_cell BK169.out 2).trans rfl
                  have hcz32_3 : wc.cell? ⟨gb169, 3, none⟩ = some (.int .i32 t165) := (blk_cell BK169.out 3).trans rfl
                  have hcz32_4 : wc.cell? ⟨gb169, 4, none⟩ = some (.int .i32 t166) := (blk_cell BK169.out 4).trans rfl
                  have hfz32_0 := blk_frozen BK169.out 0
                  have hfz32_1 := blk_frozen BK169.out 1
                  have hfz32_2 := blk_frozen BK169.out 2
                  have hfz32_3 := blk_frozen BK169.out 3
                  have hfz32_4 := blk_frozen BK169.out 4
                  go_wp2_with (first | ((with_reducible refine gate_callee (f := 14) rfl ?_); refine goesL_ (some 35) rfl rfl Try.func14 (by kernel_rfl) rfl #[.agg #[.int .i32 t162, .int .i64 t163, .int .i32 t164, .int .i32 t165, .int .i32 t166]] rfl (by (try simp only [List.map_toArray, List.map_cons, List.map_nil]); first | done | rfl | (simp only [List.length_drop, List.length_take]; rfl)) ?_; (with_reducible refine (bureaulaw11_ours.calls t162 t163 t164 t165 t166 t170 t171 t172 t173 t174 _ A18.out).mono ?_); rintro e w33 ⟨rfl, hb⟩; refine ⟨_, rfl, ?_⟩; have n0_ := Aside0.mk (blk_below (g := gb169) (o := .cells #[.int .i32 t162, .int .i64 t163, .int .i32 t164, .int .i32 t165, .int .i32 t166] 27 (0, 0)) (by (with_reducible repeat (first | refine blk_drewN ?_ _ | refine blk_drew ?_ | refine blk_alloc ?_ _)); exact BK169.out) hb); have n1_ := Aside0.mk (below_step (by repeat (first | (with_reducible first | exact HB.out | apply below_alloc | apply pw_below_drewN | apply below_drew1 | refine below_set ?_ GE169.out) | exact HB.out)) hb); clear BK169; clear HB; have BK169 := n0_; have HB := n1_; clear n0_ n1_; (try clear hb); (try clear hb2); (try clear hk); (try clear hi)) | ((with_reducible refine gate_callee (f := 13) rfl ?_); refine goesL_ (some 36) rfl rfl Try.func13 (by kernel_rfl) rfl #[.agg #[.int .i64 t170, .int .i64 t171, .int .i64 t172, .int .i64 t173, .int .i64 t174]] rfl (by (try simp only [List.map_toArray, List.map_cons, List.map_nil]); first | done | rfl | (simp only [List.length_drop, List.length_take]; rfl)) ?_; (with_reducible refine (bureauref11_Tell.calls kj8 t170 t171 t172 t173 t174 t175 _ A19.out).mono ?_); rintro e w34 ⟨v176, rfl, ho0, hb⟩; refine ⟨_, rfl, ?_⟩; have n0_ := Aside0.mk (Kd.R_lower ho0 (below_size (by repeat (first | (with_reducible first | exact HB.out | apply below_alloc | apply pw_below_drewN | apply below_drew1 | refine below_set ?_ GE169.out) | exact HB.out)))); have n1_ := Aside0.mk (blk_below (g := gb169) (o := .cells #[.int .i32 t162, .int .i64 t163, .int .i32 t164, .int .i32 t165, .int .i32 t166] 27 (0, 0)) (by (with_reducible repeat (first | refine blk_drewN ?_ _ | refine blk_drew ?_ | refine blk_alloc ?_ _)); exact BK169.out) hb); have n2_ := Aside0.mk (below_step (by repeat (first | (with_reducible first | exact HB.out | apply below_alloc | apply pw_below_drewN | apply below_drew1 | refine below_set ?_ GE169.out) | exact HB.out)) hb); clear BK169; clear HB; have HO177 := n0_; have BK169 := n1_; have HB := n2_; clear n0_ n1_ n2_; (try clear hb); (try clear hb2); (try clear hk); (try clear hi); (try clear ho0); obtain ⟨Ao35, co35, eo35⟩ := Kd.R_slice HO177.out; subst eo35) | ((with_reducible refine gate_callee (f := 12) rfl ?_); refine goesL_ (some 40) rfl rfl Try.func12 (by kernel_rfl) rfl #[.slice Ao35 t175.length co35, .bool a1] rfl (by (try simp only [List.map_toArray, List.map_cons, List.map_nil]); first | done | rfl | (simp only [List.length_drop, List.length_take]; rfl)) ?_; (with_reducible refine (gram_Parse.calls _ _ t175 a1 t178 t179 t180 t181 t182 t183 t184 _ ?side1 ?side2 A20.out).mono ?_); (case side1 => repeat (first | exact (Kd.R_reads' HO177.out).2.2 | (with_reducible refine Kd.C_alloc ?_ _) | (with_reducible refine Kd.C_drewN ?_ _) | (with_reducible refine Kd.C_drew ?_))); (case side2 => exact (Kd.R_reads' HO177.out).2.1); rintro e w36 ⟨rfl, hb⟩; refine ⟨_, rfl, ?_⟩; have n0_ := Aside0.mk (Kd.R_below (by (with_reducible repeat (first | apply Kd.R_alloc | apply Kd.R_drewN | apply Kd.R_drew)); exact HO177.out) hb); have n1_ := Aside0.mk (blk_below (g := gb169) (o := .cells #[.int .i32 t162, .int .i64 t163, .int .i32 t164, .int .i32 t165, .int .i32 t166] 27 (0, 0)) (by (with_reducible repeat (first | refine blk_drewN ?_ _ | refine blk_drew ?_ | refine blk_alloc ?_ _)); exact BK169.out) hb); have n2_ := Aside0.mk (below_step (by repeat (first | (with_reducible first | exact HB.out | apply below_alloc | apply pw_below_drewN | apply below_drew1 | refine below_set ?_ GE169.out) | exact HB.out)) hb); clear HO177; clear BK169; clear HB; have HO177 := n0_; have BK169 := n1_; have HB := n2_; clear n0_ n1_ n2_; (try clear hb); (try clear hb2); (try clear hk); (try clear hi)) | ((with_reducible refine gate_dst (N := 9) rfl ?_); (try (refine gate_guard (by rfl) ?_; dsimp only)); refine box_event ?hg (N := 9) ?hd (cs := #[.int .i32 0, .int .i64 0, .int .i32 0, .int .i32 0, .int .i32 0]) (t := 27) ?hr ?_; (case hd => rfl); (case hg => rfl); (case hr => first | (go_simp; done) | (go_simp; rfl)); intro gb185 hg w37 hbox hb; have n0_ := Aside0.mk (Kd.R_below (by (with_reducible repeat (first | apply Kd.R_alloc | apply Kd.R_drewN | apply Kd.R_drew)); exact HO177.out) hb); have n1_ := Aside0.mk (blk_below (g := gb169) (o := .cells #[.int .i32 t162, .int .i64 t163, .int .i32 t164, .int .i32 t165, .int .i32 t166] 27 (0, 0)) (by (with_reducible repeat (first | refine blk_drewN ?_ _ | refine blk_drew ?_ | refine blk_alloc ?_ _)); exact BK169.out) hb); have n2_ := Aside0.mk (below_step (by repeat (first | (with_reducible first | exact HB.out | apply below_alloc | apply pw_below_drewN | apply below_drew1 | refine below_set ?_ GE169.out) | exact HB.out)) hb); have n3_ := Aside0.mk (hbox); have n4_ := Aside0.mk ((by rw [hg]; exact (below_size (by repeat (first | (with_reducible first | exact HB.out | apply below_alloc | apply pw_below_drewN | apply below_drew1 | refine below_set ?_ GE169.out) | exact HB.out))) : w.heap.size ≤ gb185)); have n5_ := Aside0.mk ((by rw [hg]; exact (below_size (by repeat (first | (with_reducible first | exact HB.out | apply below_alloc | apply pw_below_drewN | apply below_drew1 | refine below_set ?_ GE169.out) | exact HB.out))) : w.heap.size ≤ gb185)); have n6_ := Aside0.mk ((by rw [hg]; exact Nat.ne_of_lt (blk_lt (g := gb169) (o := .cells #[.int .i32 t162, .int .i64 t163, .int .i32 t164, .int .i32 t165, .int .i32 t166] 27 (0, 0)) (by (with_reducible repeat (first | refine blk_drewN ?_ _ | refine blk_drew ?_ | refine blk_alloc ?_ _)); exact BK169.out)) : gb169 ≠ gb185)); have n7_ := Aside0.mk ((by rw [hg]; exact Nat.ne_of_gt (blk_lt (g := gb169) (o := .cells #[.int .i32 t162, .int .i64 t163, .int .i32 t164, .int .i32 t165, .int .i32 t166] 27 (0, 0)) (by (with_reducible repeat (first | refine blk_drewN ?_ _ | refine blk_drew ?_ | refine blk_alloc ?_ _)); exact BK169.out)) : gb185 ≠ gb169)); clear HO177; clear BK169; clear HB; have HO177 := n0_; have BK169 := n1_; have HB := n2_; have BK185 := n3_; have GW185 := n4_; have GE185 := n5_; have NB169_185 := n6_; have NB185_169 := n7_; clear n0_ n1_ n2_ n3_ n4_ n5_ n6_ n7_; clear hb hbox hg; have hnb38 := NB185_169.out; have hnc38 := NB169_185.out; have hcz39_0 : w37.cell? ⟨gb185, 0, none⟩ = some (.int .i32 0) := (blk_cell BK185.out 0).trans rfl; have hcz39_1 : w37.cell? ⟨gb185, 1, none⟩ = some (.int .i64 0) := (blk_cell BK185.out 1).trans rfl; have hcz39_2 : w37.cell? ⟨gb185, 2, none⟩ = some (.int .i32 0) := (blk_cell BK185.out 2).trans rfl; have hcz39_3 : w37.cell? ⟨gb185, 3, none⟩ = some (.int .i32 0) := (blk_cell BK185.out 3).trans rfl; have hcz39_4 : w37.cell? ⟨gb185, 4, none⟩ = some (.int .i32 0) := (blk_cell BK185.out 4).trans rfl; have hfz39_0 := blk_frozen BK185.out 0; have hfz39_1 := blk_frozen BK185.out 1; have hfz39_2 := blk_frozen BK185.out 2; have hfz39_3 := blk_frozen BK185.out 3; have hfz39_4 := blk_frozen BK185.out 4; have hcz40_0 : w37.cell? ⟨gb169, 0, none⟩ = some (.int .i32 t162) := (blk_cell BK169.out 0).trans rfl; have hcz40_1 : w37.cell? ⟨gb169, 1, none⟩ = some (.int .i64 t163) := (blk_cell BK169.out 1).trans rfl; have hcz40_2 : w37.cell? ⟨gb169, 2, none⟩ = some (.int .i32 t164) := (blk_cell BK169.out 2).trans rfl; have hcz40_3 : w37.cell? ⟨gb169, 3, none⟩ = some (.int .i32 t165) := (blk_cell BK169.out 3).trans rfl; have hcz40_4 : w37.cell? ⟨gb169, 4, none⟩ = some (.int .i32 t166) := (blk_cell BK169.out 4).trans rfl; have hfz40_0 := blk_frozen BK169.out 0; have hfz40_1 := blk_frozen BK169.out 1; have hfz40_2 := blk_frozen BK169.out 2; have hfz40_3 := blk_frozen BK169.out 3; have hfz40_4 := blk_frozen BK169.out 4))
                  go_ret
                  exact ⟨by first | rfl | (simp [errW_none, errW_some] <;> rfl) | (simp [*, errW_none, errW_some] <;> rfl), by repeat (first | (with_reducible first | exact HB.out | apply below_alloc | apply pw_below_drewN | apply below_drew1 | refine below_set ?_ GE169.out | refine below_set ?_ GE185.out) | exact HB.out)⟩
              · rw [if_neg c21] at H
                have c21b0 : (t162 == t178 && (t163 == t179 && (t164 == t180 && (t165 == t181 && (t166 == t182))))) = false := by simpa using c21
                (try (have c21b1 : decide (t162 = t178 && (t163 == t179 && (t164 == t180 && (t165 == t181 && (t166 == t182))))) = false := by simpa using c21))
                (try (have c21b2 : (t162 == t178 && (t163 == t179 && (t164 == t180 && (t165 == t181 && (t166 == t182))))) = false := by simpa using c21))
                (try (have c21b3 : ¬ (t162 = t178 && (t163 == t179 && (t164 == t180 && (t165 == t181 && (t166 == t182))))) := by simpa using c21))
                clear c21
                obtain rfl := Option.some.inj H
                have hcz41_0 : wc.cell? ⟨gb169, 0, none⟩ = some (.int .i32 t162) := (blk_cell BK169.out 0).trans rfl
                have hcz41_1 : wc.cell? ⟨gb169, 1, none⟩ = some (.int .i64 t163) := (blk_cell BK169.out 1).trans rfl
                have hcz41_2 : wc.cell? ⟨gb169, 2, none⟩ = some (.int .i32 t164) := (blk_cell BK169.out 2).trans rfl
                have hcz41_3 : wc.cell? ⟨gb169, 3, none⟩ = some (.int .i32 t165) := (blk_cell BK169.out 3).trans rfl
                have hcz41_4 : wc.cell? ⟨gb169, 4, none⟩ = some (.int .i32 t166) := (blk_cell BK169.out 4).trans rfl
                have hfz41_0 := blk_frozen BK169.out 0
                have hfz41_1 := blk_frozen BK169.out 1
                have hfz41_2 := blk_frozen BK169.out 2
                have hfz41_3 := blk_frozen BK169.out 3
                have hfz41_4 := blk_frozen BK169.out 4
                go_wp2_with (first | ((with_reducible refine gate_callee (f := 14) rfl ?_); refine goesL_ (some 35) rfl rfl Try.func14 (by kernel_rfl) rfl #[.agg #[.int .i32 t162, .int .i64 t163, .int .i32 t164, .int .i32 t165, .int .i32 t166]] rfl (by (try simp only [List.map_toArray, List.map_cons, List.map_nil]); first | done | rfl | (simp only [List.length_drop, List.length_take]; rfl)) ?_; (with_reducible refine (bureaulaw11_ours.calls t162 t163 t164 t165 t166 t170 t171 t172 t173 t174 _ A18.out).mono ?_); rintro e w42 ⟨rfl, hb⟩; refine ⟨_, rfl, ?_⟩; have n0_ := Aside0.mk (blk_below (g := gb169) (o := .cells #[.int .i32 t162, .int .i64 t163, .int .i32 t164, .int .i32 t165, .int .i32 t166] 27 (0, 0)) (by (with_reducible repeat (first | refine blk_drewN ?_ _ | refine blk_drew ?_ | refine blk_alloc ?_ _)); exact BK169.out) hb); have n1_ := Aside0.mk (below_step (by repeat (first | (with_reducible first | exact HB.out | apply below_alloc | apply pw_below_drewN | apply below_drew1 | refine below_set ?_ GE169.out) | exact HB.out)) hb); clear BK169; clear HB; have BK169 := n0_; have HB := n1_; clear n0_ n1_; (try clear hb); (try clear hb2); (try clear hk); (try clear hi)) | ((with_reducible refine gate_callee (f := 13) rfl ?_); refine goesL_ (some 36) rfl rfl Try.func13 (by kernel_rfl) rfl #[.agg #[.int .i64 t170, .int .i64 t171, .int .i64 t172, .int .i64 t173, .int .i64 t174]] rfl (by (try simp only [List.map_toArray, List.map_cons, List.map_nil]); first | done | rfl | (simp only [List.length_drop, List.length_take]; rfl)) ?_; (with_reducible refine (bureauref11_Tell.calls kj8 t170 t171 t172 t173 t174 t175 _ A19.out).mono ?_); rintro e w43 ⟨v176, rfl, ho0, hb⟩; refine ⟨_, rfl, ?_⟩; have n0_ := Aside0.mk (Kd.R_lower ho0 (below_size (by repeat (first | (with_reducible first | exact HB.out | apply below_alloc | apply pw_below_drewN | apply below_drew1 | refine below_set ?_ GE169.out) | exact HB.out)))); have n1_ := Aside0.mk (blk_below (g := gb169) (o := .cells #[.int .i32 t162, .int .i64 t163, .int .i32 t164, .int .i32 t165, .int .i32 t166] 27 (0, 0)) (by (with_reducible repeat (first | refine blk_drewN ?_ _ | refine blk_drew ?_ | refine blk_alloc ?_ _)); exact BK169.out) hb); have n2_ := Aside0.mk (below_step (by repeat (first | (with_reducible first | exact HB.out | apply below_alloc | apply pw_below_drewN | apply below_drew1 | refine below_set ?_ GE169.out) | exact HB.out)) hb); clear BK169; clear HB; have HO177 := n0_; have BK169 := n1_; have HB := n2_; clear n0_ n1_ n2_; (try clear hb); (try clear hb2); (try clear hk); (try clear hi); (try clear ho0); obtain ⟨Ao44, co44, eo44⟩ := Kd.R_slice HO177.out; subst eo44) | ((with_reducible refine gate_callee (f := 12) rfl ?_); refine goesL_ (some 40) rfl rfl Try.func12 (by kernel_rfl) rfl #[.slice Ao44 t175.length co44, .bool a1] rfl (by (try simp only [List.map_toArray, List.map_cons, List.map_nil]); first | done | rfl | (simp only [List.length_drop, List.length_take]; rfl)) ?_; (with_reducible refine (gram_Parse.calls _ _ t175 a1 t178 t179 t180 t181 t182 t183 t184 _ ?side1 ?side2 A20.out).mono ?_); (case side1 => repeat (first | exact (Kd.R_reads' HO177.out).2.2 | (with_reducible refine Kd.C_alloc ?_ _) | (with_reducible refine Kd.C_drewN ?_ _) | (with_reducible refine Kd.C_drew ?_))); (case side2 => exact (Kd.R_reads' HO177.out).2.1); rintro e w45 ⟨rfl, hb⟩; refine ⟨_, rfl, ?_⟩; have n0_ := Aside0.mk (Kd.R_below (by (with_reducible repeat (first | apply Kd.R_alloc | apply Kd.R_drewN | apply Kd.R_drew)); exact HO177.out) hb); have n1_ := Aside0.mk (blk_below (g := gb169) (o := .cells #[.int .i32 t162, .int .i64 t163, .int .i32 t164, .int .i32 t165, .int .i32 t166] 27 (0, 0)) (by (with_reducible repeat (first | refine blk_drewN ?_ _ | refine blk_drew ?_ | refine blk_alloc ?_ _)); exact BK169.out) hb); have n2_ := Aside0.mk (below_step (by repeat (first | (with_reducible first | exact HB.out | apply below_alloc | apply pw_below_drewN | apply below_drew1 | refine below_set ?_ GE169.out) | exact HB.out)) hb); clear HO177; clear BK169; clear HB; have HO177 := n0_; have BK169 := n1_; have HB := n2_; clear n0_ n1_ n2_; (try clear hb); (try clear hb2); (try clear hk); (try clear hi)) | ((with_reducible refine gate_dst (N := 9) rfl ?_); (try (refine gate_guard (by rfl) ?_; dsimp only)); refine box_event ?hg (N := 9) ?hd (cs := #[.int .i32 0, .int .i64 0, .int .i32 0, .int .i32 0, .int .i32 0]) (t := 27) ?hr ?_; (case hd => rfl); (case hg => rfl); (case hr => first | (go_simp; done) | (go_simp; rfl)); intro gb185 hg w46 hbox hb; have n0_ := Aside0.mk (Kd.R_below (by (with_reducible repeat (first | apply Kd.R_alloc | apply Kd.R_drewN | apply Kd.R_drew)); exact HO177.out) hb); have n1_ := Aside0.mk (blk_below (g := gb169) (o := .cells #[.int .i32 t162, .int .i64 t163, .int .i32 t164, .int .i32 t165, .int .i32 t166] 27 (0, 0)) (by (with_reducible repeat (first | refine blk_drewN ?_ _ | refine blk_drew ?_ | refine blk_alloc ?_ _)); exact BK169.out) hb); have n2_ := Aside0.mk (below_step (by repeat (first | (with_reducible first | exact HB.out | apply below_alloc | apply pw_below_drewN | apply below_drew1 | refine below_set ?_ GE169.out) | exact HB.out)) hb); have n3_ := Aside0.mk (hbox); have n4_ := Aside0.mk ((by rw [hg]; exact (below_size (by repeat (first | (with_reducible first | exact HB.out | apply below_alloc | apply pw_below_drewN | apply below_drew1 | refine below_set ?_ GE169.out) | exact HB.out))) : w.heap.size ≤ gb185)); have n5_ := Aside0.mk ((by rw [hg]; exact (below_size (by repeat (first | (with_reducible first | exact HB.out | apply below_alloc | apply pw_below_drewN | apply below_drew1 | refine below_set ?_ GE169.out) | exact HB.out))) : w.heap.size ≤ gb185)); have n6_ := Aside0.mk ((by rw [hg]; exact Nat.ne_of_lt (blk_lt (g := gb169) (o := .cells #[.int .i32 t162, .int .i64 t163, .int .i32 t164, .int .i32 t165, .int .i32 t166] 27 (0, 0)) (by (with_reducible repeat (first | refine blk_drewN ?_ _ | refine blk_drew ?_ | refine blk_alloc ?_ _)); exact BK169.out)) : gb169 ≠ gb185)); have n7_ := Aside0.mk ((by rw [hg]; exact Nat.ne_of_gt (blk_lt (g := gb169) (o := .cells #[.int .i32 t162, .int .i64 t163, .int .i32 t164, .int .i32 t165, .int .i32 t166] 27 (0, 0)) (by (with_reducible repeat (first | refine blk_drewN ?_ _ | refine blk_drew ?_ | refine blk_alloc ?_ _)); exact BK169.out)) : gb185 ≠ gb169)); clear HO177; clear BK169; clear HB; have HO177 := n0_; have BK169 := n1_; have HB := n2_; have BK185 := n3_; have GW185 := n4_; have GE185 := n5_; have NB169_185 := n6_; have NB185_169 := n7_; clear n0_ n1_ n2_ n3_ n4_ n5_ n6_ n7_; clear hb hbox hg; have hnb47 := NB185_169.out; have hnc47 := NB169_185.out; have hcz48_0 : w46.cell? ⟨gb185, 0, none⟩ = some (.int .i32 0) := (blk_cell BK185.out 0).trans rfl; have hcz48_1 : w46.cell? ⟨gb185, 1, none⟩ = some (.int .i64 0) := (blk_cell BK185.out 1).trans rfl; have hcz48_2 : w46.cell? ⟨gb185, 2, none⟩ = some (.int .i32 0) := (blk_cell BK185.out 2).trans rfl; have hcz48_3 : w46.cell? ⟨gb185, 3, none⟩ = some (.int .i32 0) := (blk_cell BK185.out 3).trans rfl; have hcz48_4 : w46.cell? ⟨gb185, 4, none⟩ = some (.int .i32 0) := (blk_cell BK185.out 4).trans rfl; have hfz48_0 := blk_frozen BK185.out 0; have hfz48_1 := blk_frozen BK185.out 1; have hfz48_2 := blk_frozen BK185.out 2; have hfz48_3 := blk_frozen BK185.out 3; have hfz48_4 := blk_frozen BK185.out 4; have hcz49_0 : w46.cell? ⟨gb169, 0, none⟩ = some (.int .i32 t162) := (blk_cell BK169.out 0).trans rfl; have hcz49_1 : w46.cell? ⟨gb169, 1, none⟩ = some (.int .i64 t163) := (blk_cell BK169.out 1).trans rfl; have hcz49_2 : w46.cell? ⟨gb169, 2, none⟩ = some (.int .i32 t164) := (blk_cell BK169.out 2).trans rfl; have hcz49_3 : w46.cell? ⟨gb169, 3, none⟩ = some (.int .i32 t165) := (blk_cell BK169.out 3).trans rfl; have hcz49_4 : w46.cell? ⟨gb169, 4, none⟩ = some (.int .i32 t166) := (blk_cell BK169.out 4).trans rfl; have hfz49_0 := blk_frozen BK169.out 0; have hfz49_1 := blk_frozen BK169.out 1; have hfz49_2 := blk_frozen BK169.out 2; have hfz49_3 := blk_frozen BK169.out 3; have hfz49_4 := blk_frozen BK169.out 4))
                go_ret
                exact ⟨by first | rfl | (simp [errW_none, errW_some] <;> rfl) | (simp [*, errW_none, errW_some] <;> rfl), by repeat (first | (with_reducible first | exact HB.out | apply below_alloc | apply pw_below_drewN | apply below_drew1 | refine below_set ?_ GE169.out | refine below_set ?_ GE185.out) | exact HB.out)⟩
      · rw [if_neg c8] at H
        have c8b0 : (t168 == 1) = false := beq_eq_false_iff_ne.mpr c8
        have c8b1 : (t168 != 1) = true := bne_iff_ne.mpr c8
        obtain rfl := Option.some.inj H
        go_enter Try.func5, Try.ntmps5
        go_wp2_with (first | ((with_reducible refine gate_callee (f := 7) rfl ?_); refine goesL_ (some 12) rfl rfl Try.func7 (by kernel_rfl) rfl #[] rfl (by (try simp only [List.map_toArray, List.map_cons, List.map_nil]); first | done | rfl | (simp only [List.length_drop, List.length_take]; rfl)) ?_; (with_reducible refine (bureaulaw11_alive.calls  true _ A3.out).mono ?_); rintro e w50 ⟨rfl, hb⟩; refine ⟨_, rfl, ?_⟩; have n0_ := Aside0.mk (below_step (by repeat (first | (with_reducible first | exact HB.out | apply below_alloc | apply pw_below_drewN | apply below_drew1) | exact HB.out)) hb); clear HB; have HB := n0_; clear n0_; (try clear hb); (try clear hb2); (try clear hk); (try clear hi)) | ((with_reducible refine gate_callee (f := 12) rfl ?_); refine goesL_ (some 20) rfl rfl Try.func12 (by kernel_rfl) rfl #[.slice A0 l0.length c0, .bool a1] rfl (by (try simp only [List.map_toArray, List.map_cons, List.map_nil]); first | done | rfl | (simp only [List.length_drop, List.length_take]; rfl)) ?_; (with_reducible refine (gram_Parse.calls _ _ l0 a1 t162 t163 t164 t165 t166 t167 t168 _ ?side1 ?side2 A7.out).mono ?_); (case side1 => repeat (first | exact (Kd.C_below HR0.out HB.out) | (with_reducible refine Kd.C_alloc ?_ _) | (with_reducible refine Kd.C_drewN ?_ _) | (with_reducible refine Kd.C_drew ?_))); (case side2 => exact HC0.out); rintro e w51 ⟨rfl, hb⟩; refine ⟨_, rfl, ?_⟩; have n0_ := Aside0.mk (below_step (by repeat (first | (with_reducible first | exact HB.out | apply below_alloc | apply pw_below_drewN | apply below_drew1) | exact HB.out)) hb); clear HB; have HB := n0_; clear n0_; (try clear hb); (try clear hb2); (try clear hk); (try clear hi)) | ((with_reducible refine gate_dst (N := 5) rfl ?_); (try (refine gate_guard (by rfl) ?_; dsimp only)); refine box_event ?hg (N := 5) ?hd (cs := #[.int .i32 0, .int .i64 0, .int .i32 0, .int .i32 0, .int .i32 0]) (t := 27) ?hr ?_; (case hd => rfl); (case hg => rfl); (case hr => first | (go_simp; done) | (go_simp; rfl)); intro gb169 hg w52 hbox hb; have n0_ := Aside0.mk (below_step (by repeat (first | (with_reducible first | exact HB.out | apply below_alloc | apply pw_below_drewN | apply below_drew1) | exact HB.out)) hb); have n1_ := Aside0.mk (hbox); have n2_ := Aside0.mk ((by rw [hg]; exact (below_size (by repeat (first | (with_reducible first | exact HB.out | apply below_alloc | apply pw_below_drewN | apply below_drew1) | exact HB.out))) : w.heap.size ≤ gb169)); have n3_ := Aside0.mk ((by rw [hg]; exact (below_size (by repeat (first | (with_reducible first | exact HB.out | apply below_alloc | apply pw_below_drewN | apply below_drew1) | exact HB.out))) : w.heap.size ≤ gb169)); clear HB; have HB := n0_; have BK169 := n1_; have GW169 := n2_; have GE169 := n3_; clear n0_ n1_ n2_ n3_; clear hb hbox hg; have hcz53_0 : w52.cell? ⟨gb169, 0, none⟩ = some (.int .i32 0) := (blk_cell BK169.out 0).trans rfl; have hcz53_1 : w52.cell? ⟨gb169, 1, none⟩ = some (.int .i64 0) := (blk_cell BK169.out 1).trans rfl; have hcz53_2 : w52.cell? ⟨gb169, 2, none⟩ = some (.int .i32 0) := (blk_cell BK169.out 2).trans rfl; have hcz53_3 : w52.cell? ⟨gb169, 3, none⟩ = some (.int .i32 0) := (blk_cell BK169.out 3).trans rfl; have hcz53_4 : w52.cell? ⟨gb169, 4, none⟩ = some (.int .i32 0) := (blk_cell BK169.out 4).trans rfl; have hfz53_0 := blk_frozen BK169.out 0; have hfz53_1 := blk_frozen BK169.out 1; have hfz53_2 := blk_frozen BK169.out 2; have hfz53_3 := blk_frozen BK169.out 3; have hfz53_4 := blk_frozen BK169.out 4))
        go_ret
        exact ⟨by first | rfl | (simp [errW_none, errW_some] <;> rfl) | (simp [*, errW_none, errW_some] <;> rfl), by repeat (first | (with_reducible first | exact HB.out | apply below_alloc | apply pw_below_drewN | apply below_drew1 | refine below_set ?_ GE169.out) | exact HB.out)⟩
  · replace c4 := Bool.eq_false_iff.mpr c4
    subst c4
    have H1 : (some false) = some r := by rw [if_neg (show ¬ (false = true) by decide)] at H; exact H
    clear H
    have H := H1
    clear H1
    obtain rfl := Option.some.inj H
    go_enter Try.func5, Try.ntmps5
    go_wp2_with (first | ((with_reducible refine gate_callee (f := 7) rfl ?_); refine goesL_ (some 12) rfl rfl Try.func7 (by kernel_rfl) rfl #[] rfl (by (try simp only [List.map_toArray, List.map_cons, List.map_nil]); first | done | rfl | (simp only [List.length_drop, List.length_take]; rfl)) ?_; (with_reducible refine (bureaulaw11_alive.calls  false _ A3.out).mono ?_); rintro e w54 ⟨rfl, hb⟩; refine ⟨_, rfl, ?_⟩; have n0_ := Aside0.mk (below_step (by repeat (first | (with_reducible first | exact HB.out | apply below_alloc | apply pw_below_drewN | apply below_drew1) | exact HB.out)) hb); clear HB; have HB := n0_; clear n0_; (try clear hb); (try clear hb2); (try clear hk); (try clear hi)))
    go_ret
    exact ⟨by first | rfl | (simp [errW_none, errW_some] <;> rfl) | (simp [*, errW_none, errW_some] <;> rfl), by repeat (first | (with_reducible first | exact HB.out | apply below_alloc | apply pw_below_drewN | apply below_drew1) | exact HB.out)⟩

/-- What is to be proved of bureaulaw11_GramTold: no program in it. -/
def bureaulaw11_GramTold.Pure : Prop := ∀ (l0 : List Int) (a1 : Bool), l0.length ≤ maxLen → (∀ x ∈ l0, (Lit.int .i32 x).wf = true) → ∃ k, bureaulaw11_GramTold.f k l0 a1 = some true

end Go.Proofs.Ytfhlohmhacfngaa.XGramTold
