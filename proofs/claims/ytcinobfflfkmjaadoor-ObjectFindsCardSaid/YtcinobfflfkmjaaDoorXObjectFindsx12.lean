-- Written by this session's program (wip/xprint.py) with the kit's print, for this claim.
import Derived.Test.YtcinobfflfkmjaaDoorXObjectFindsx0
import Derived.Test.YtcinobfflfkmjaaDoorXObjectFindsx4
import Derived.Test.YtcinobfflfkmjaaDoorXObjectFindsx11
namespace Go.Proofs.YtcinobfflfkmjaaDoor.XObjectFinds
open Go.RowKit Go.Proofs.YtcinobfflfkmjaaDoorW.PrintWords Go.Proofs.YtcinobfflfkmjaaDoorW.PrintLast Go.Proofs.YtcinobfflfkmjaaDoorW.PrintMore Go.Proofs.YtcinobfflfkmjaaDoor.Ext
attribute [local go_sem] max2_int min2_int max_two min_two max_three min_three max_four min_four   -- for this text's walks alone
set_option linter.unusedVariables false
set_option linter.unusedSimpArgs false

/-! ### bureaulaw13_ObjectFinds: function 3 -/
def bureaulaw13_ObjectFinds.l0 : Nat → ByteArray → Int → Int → List Bool → Int → Int → Option (Bool)
  | 0, _, _, _, _, _, _ => none
  | k + 1, x0, x1, x2, x20, x21, x22 => if x22 < x21 then (if 0 ≤ x22 then (if x22 < (x20.length : Int) then ((object_Find.f k x0 x1 (rdOf false x20 x22) x2).bind fun bt347 => ((bureauref13_Find.f k x0 x1 (rdOf false x20 x22) (wrap64 (x2))).bind fun bt350 => (if bt347.1 = bt350.1 then (if bt347.2.1 = bt350.2.1 then (if bt347.2.2 = true then (if bt350.2.2 = true then (bureaulaw13_ObjectFinds.l0 k x0 x1 x2 x20 x21 (wrap64 (x22 + 1))) else (some false)) else (if bt350.2.2 = true then (some false) else (bureaulaw13_ObjectFinds.l0 k x0 x1 x2 x20 x21 (wrap64 (x22 + 1))))) else (some false)) else (some false)))) else (none)) else (none)) else (some true)
def bureaulaw13_ObjectFinds.f (k : Nat) (a0 : ByteArray) (a1 : Int) (a2 : Int) : Option (Bool) := (bureaulaw13_alive.f k).bind fun t342 => (if t342 = true then (if (a0.size : Int) > 2048 then (some true) else ((some (([false, true] : List Bool) : List Bool)).bind fun y343 => (bureaulaw13_ObjectFinds.l0 k a0 a1 a2 y343 (y343.length : Int) 0))) else (some false))
theorem bureaulaw13_ObjectFinds.mono_l : ∀ k, (∀ y0 y1 y2 y3 y4 y5, LeO (bureaulaw13_ObjectFinds.l0 k y0 y1 y2 y3 y4 y5) (bureaulaw13_ObjectFinds.l0 (k + 1) y0 y1 y2 y3 y4 y5))
  | 0 => fun _ _ _ _ _ _ r h => by simp [bureaulaw13_ObjectFinds.l0] at h
  | k + 1 => by
    have ih0 := bureaulaw13_ObjectFinds.mono_l k
    · intro y0 y1 y2 y3 y4 y5
      unfold bureaulaw13_ObjectFinds.l0
      repeat' first
      | (with_reducible exact ih0 _ _ _ _ _ _)
      | (with_reducible exact bureaulaw13_alive.mono _)
      | (with_reducible exact bureauref13_Find.mono _ _ _ _ _)
      | (with_reducible exact object_Find.mono _ _ _ _ _)
      | (with_reducible exact LeO.refl _)
      | (with_reducible exact LeO.none _)
      | (with_reducible refine LeO.ite ?_ ?_)
      | (with_reducible refine LeO.bind ?_ (fun _ => ?_))
      | exact ih0 _ _ _ _ _ _
      | exact bureaulaw13_alive.mono _
      | exact bureauref13_Find.mono _ _ _ _ _
      | exact object_Find.mono _ _ _ _ _
      | exact LeO.none _
      | refine LeO.ite ?_ ?_
      | refine LeO.bind ?_ (fun _ => ?_)
theorem bureaulaw13_ObjectFinds.mono : ∀ a0 a1 a2 k, LeO (bureaulaw13_ObjectFinds.f k a0 a1 a2) (bureaulaw13_ObjectFinds.f (k + 1) a0 a1 a2) := by
  intro a0 a1 a2 k
  have ih0 := bureaulaw13_ObjectFinds.mono_l k
  unfold bureaulaw13_ObjectFinds.f
  repeat' first
      | (with_reducible exact ih0 _ _ _ _ _ _)
      | (with_reducible exact bureaulaw13_alive.mono _)
      | (with_reducible exact bureauref13_Find.mono _ _ _ _ _)
      | (with_reducible exact object_Find.mono _ _ _ _ _)
      | (with_reducible exact LeO.refl _)
      | (with_reducible exact LeO.none _)
      | (with_reducible refine LeO.ite ?_ ?_)
      | (with_reducible refine LeO.bind ?_ (fun _ => ?_))
      | exact ih0 _ _ _ _ _ _
      | exact bureaulaw13_alive.mono _
      | exact bureauref13_Find.mono _ _ _ _ _
      | exact object_Find.mono _ _ _ _ _
      | exact LeO.none _
      | refine LeO.ite ?_ ?_
      | refine LeO.bind ?_ (fun _ => ?_)
set_option maxHeartbeats 8000000 in
set_option maxRecDepth 100000 in
theorem bureaulaw13_ObjectFinds.calls (k : Nat) (a0 : ByteArray) (a1 : Int) (a2 : Int) (r : Bool) (w : World) (h : bureaulaw13_ObjectFinds.f k a0 a1 a2 = some r) (hTabs : Tabs w) :
    Calls Tryd.prog 3 #[.string a0, .int .i64 a1, .int .i32 a2] w fun e w' => e = .returned (.bool r) ∧ Below w.heap.size w w' := by
  have HTABS := Aside0.mk hTabs
  clear hTabs
  have HB := Aside0.mk (Below.refl w.heap.size w)
  have H : ((bureaulaw13_alive.f k).bind fun t342 => (if t342 = true then (if (a0.size : Int) > 2048 then (some true) else ((some (([false, true] : List Bool) : List Bool)).bind fun y343 => (bureaulaw13_ObjectFinds.l0 k a0 a1 a2 y343 (y343.length : Int) 0))) else (some false))) = some r := h
  clear h
  replace H := Option.bind_eq_some_iff.mp H
  obtain ⟨t342, A40, H⟩ := H
  replace H : (if t342 = true then (if (a0.size : Int) > 2048 then (some true) else ((some (([false, true] : List Bool) : List Bool)).bind fun y343 => (bureaulaw13_ObjectFinds.l0 k a0 a1 a2 y343 (y343.length : Int) 0))) else (some false)) = some r := H
  have A4 := Aside0.mk A40
  clear A40
  by_cases c5 : t342 = true
  · subst c5
    have H1 : (if (a0.size : Int) > 2048 then (some true) else ((some (([false, true] : List Bool) : List Bool)).bind fun y343 => (bureaulaw13_ObjectFinds.l0 k a0 a1 a2 y343 (y343.length : Int) 0))) = some r := by rw [if_pos rfl] at H; exact H
    clear H
    have H := H1
    clear H1
    by_cases c6 : (a0.size : Int) > 2048
    · rw [if_pos c6] at H
      have c6b0 : decide (2048 < (a0.size : Int)) = true := decide_eq_true c6
      have c6b1 : decide (2048 < a0.size) = true := decide_eq_true (by omega)
      clear c6
      obtain rfl := Option.some.inj H
      go_enter Tryd.func3, Tryd.ntmps3
      go_wp2_with (first | ((with_reducible refine gate_callee (f := 7) rfl ?_); refine goesL_ (some 15) rfl rfl Tryd.func7 (by kernel_rfl) rfl #[] rfl (by (try simp only [List.map_toArray, List.map_cons, List.map_nil]); first | done | rfl | (simp only [List.length_drop, List.length_take]; rfl)) ?_; (with_reducible refine (bureaulaw13_alive.calls k  true _ A4.out ?sideT).mono ?_); (case sideT => first | exact HTABS.out | exact HTABS.out.below (by repeat (first | (with_reducible first | exact HB.out | apply below_alloc | apply pw_below_drewN | apply below_drew1) | exact HB.out)) (Nat.le_refl _) | exact HTABS.out.below (Below.drew (Below.refl _ _)) (Nat.le_refl _)); rintro e w7 ⟨rfl, hb⟩; refine ⟨_, rfl, ?_⟩; have n0_ := Aside0.mk (below_step (by repeat (first | (with_reducible first | exact HB.out | apply below_alloc | apply pw_below_drewN | apply below_drew1) | exact HB.out)) hb); clear HB; have HB := n0_; clear n0_; (try clear hb); (try clear hb2); (try clear hk); (try clear hi)))
      go_ret
      exact ⟨by first | rfl | (simp [errW_none, errW_some] <;> rfl) | (simp [*, errW_none, errW_some] <;> rfl), by repeat (first | (with_reducible first | exact HB.out | apply below_alloc | apply pw_below_drewN | apply below_drew1) | exact HB.out)⟩
    · rw [if_neg c6] at H
      have c6b0 : decide (2048 < (a0.size : Int)) = false := decide_eq_false c6
      have c6b1 : decide (2048 < a0.size) = false := decide_eq_false (by omega)
      clear c6
      obtain ⟨y343, hy343⟩ : ∃ y_ : List Bool, y_ = (([false, true] : List Bool)) := ⟨_, rfl⟩
      replace H : (bureaulaw13_ObjectFinds.l0 k a0 a1 a2 y343 (y343.length : Int) 0) = some r := by first | (rw [hy343]; with_reducible exact H) | (have H2_ := (Option.bind_some _ _).symm.trans H; rw [hy343]; with_reducible exact H2_) | (have H2_ := (Option.bind_some _ _).symm.trans H; with_reducible exact H2_) | with_reducible exact H | (rw [hy343]; exact H) | exact H
      have Ny343 := Aside0.mk hy343
      clear hy343
      have H' := Aside0.mk H
      clear H
      go_enter Tryd.func3, Tryd.ntmps3
      go_wp2_with (first | ((with_reducible refine gate_callee (f := 7) rfl ?_); refine goesL_ (some 15) rfl rfl Tryd.func7 (by kernel_rfl) rfl #[] rfl (by (try simp only [List.map_toArray, List.map_cons, List.map_nil]); first | done | rfl | (simp only [List.length_drop, List.length_take]; rfl)) ?_; (with_reducible refine (bureaulaw13_alive.calls k  true _ A4.out ?sideT).mono ?_); (case sideT => first | exact HTABS.out | exact HTABS.out.below (by repeat (first | (with_reducible first | exact HB.out | apply below_alloc | apply pw_below_drewN | apply below_drew1) | exact HB.out)) (Nat.le_refl _) | exact HTABS.out.below (Below.drew (Below.refl _ _)) (Nat.le_refl _)); rintro e w8 ⟨rfl, hb⟩; refine ⟨_, rfl, ?_⟩; have n0_ := Aside0.mk (below_step (by repeat (first | (with_reducible first | exact HB.out | apply below_alloc | apply pw_below_drewN | apply below_drew1) | exact HB.out)) hb); clear HB; have HB := n0_; clear n0_; (try clear hb); (try clear hb2); (try clear hk); (try clear hi)) | ((with_reducible refine gate_dst (N := 20) rfl ?_); refine Kd.R_lit Kd.bool _ 4 ?hg (N := 20) ?hd (xs := ([false, true] : List Bool)) (inner := [.bool false, .bool true]) (ok := fun _ => True) (okp := fun _ => True) ?hr ?hp (fun _ hk => hk) trivial (Below.refl _ _) (Nat.le_refl _) (by simp) ?_; (case hd => rfl); (case hg => rfl); (case hr => first | (go_simp; done) | (go_simp; rfl)); (case hp => exact (Reps.one (show Kd.M Kd.bool _ _ _ false [.bool false] from rfl) (Reps.one (show Kd.M Kd.bool _ _ _ true [.bool true] from rfl) (Reps.none _ _)))); intro v344 w9 ho10 hb hg_ hnew_; clear hg_ hnew_; (first | rw [← Ny343.out] at ho10 | (simp only [Int.reduceToNat] at ho10; rw [← Ny343.out] at ho10)); have n0_ := Aside0.mk (Kd.R_lower ho10 (below_size (by repeat (first | (with_reducible first | exact HB.out | apply below_alloc | apply pw_below_drewN | apply below_drew1) | exact HB.out)))); have n1_ := Aside0.mk (below_step (by repeat (first | (with_reducible first | exact HB.out | apply below_alloc | apply pw_below_drewN | apply below_drew1) | exact HB.out)) hb); clear HB; have HO345 := n0_; have HB := n1_; clear n0_ n1_; clear hb ho10; obtain ⟨Ao11, co11, eo11⟩ := Kd.R_slice HO345.out; subst eo11))
      go_loopg [22] k (fun kq v22 w' => ∃ (x22_1 : Int), v22 = .int .i64 x22_1 ∧ Aside0 (bureaulaw13_ObjectFinds.l0 kq a0 a1 a2 y343 (y343.length : Int) x22_1 = some r) ∧ Aside0 (kq ≤ k) ∧ Aside0 (Kd.R Kd.bool 4 w' w.heap.size (fun _ => True) (.slice Ao11 y343.length co11) y343) ∧ Aside0 (Below w.heap.size w w'))
      case atStart => exact ⟨(0), (by first | rfl | (simp; done) | (simp [*]; done)), H', ⟨Nat.le_refl _⟩, ⟨by (with_reducible repeat (first | apply Kd.R_alloc | apply Kd.R_drewN | apply Kd.R_drew)); exact HO345.out⟩, ⟨by repeat (first | (with_reducible first | exact HB.out | apply below_alloc | apply pw_below_drewN | apply below_drew1) | exact HB.out)⟩⟩
      case round =>
        clear H'
        (try clear p2); (try clear c3); (try clear c5); (try clear c6); (try clear c6b0); (try clear c6b1); (try clear c7)
        obtain ⟨x22_1, rfl, HA, HK1, HO_20, HB⟩ := hrel
        cases gk with
        | zero => exact absurd HA.out (by simp [bureaulaw13_ObjectFinds.l0])
        | succ k1 =>
          have H := HA.out
          clear HA
          simp only [bureaulaw13_ObjectFinds.l0] at H
          by_cases c12 : x22_1 < (y343.length : Int)
          · rw [if_pos c12] at H
            have c12b0 : decide (x22_1 < (y343.length : Int)) = true := decide_eq_true c12
            clear c12
            by_cases c13 : 0 ≤ x22_1
            · rw [if_pos c13] at H
              have c13b0 : decide (0 ≤ x22_1) = true := decide_eq_true c13
              clear c13
              by_cases c14 : x22_1 < (y343.length : Int)
              · rw [if_pos c14] at H
                have c14b0 : decide (x22_1 < (y343.length : Int)) = true := decide_eq_true c14
                clear c14
                replace H := Option.bind_eq_some_iff.mp H
                obtain ⟨⟨t347, t348, t349⟩, A150, H⟩ := H
                replace H : ((bureauref13_Find.f k1 a0 a1 (rdOf false y343 x22_1) (wrap64 (a2))).bind fun bt350 => (if t347 = bt350.1 then (if t348 = bt350.2.1 then (if t349 = true then (if bt350.2.2 = true then (bureaulaw13_ObjectFinds.l0 k1 a0 a1 a2 y343 (y343.length : Int) (wrap64 (x22_1 + 1))) else (some false)) else (if bt350.2.2 = true then (some false) else (bureaulaw13_ObjectFinds.l0 k1 a0 a1 a2 y343 (y343.length : Int) (wrap64 (x22_1 + 1))))) else (some false)) else (some false))) = some r := H
                have A15 := Aside0.mk A150
                clear A150
                replace H := Option.bind_eq_some_iff.mp H
                obtain ⟨⟨t350, t351, t352⟩, A160, H⟩ := H
                replace H : (if t347 = t350 then (if t348 = t351 then (if t349 = true then (if t352 = true then (bureaulaw13_ObjectFinds.l0 k1 a0 a1 a2 y343 (y343.length : Int) (wrap64 (x22_1 + 1))) else (some false)) else (if t352 = true then (some false) else (bureaulaw13_ObjectFinds.l0 k1 a0 a1 a2 y343 (y343.length : Int) (wrap64 (x22_1 + 1))))) else (some false)) else (some false)) = some r := H
                have A16 := Aside0.mk A160
                clear A160
                by_cases c17 : t347 = t350
                · rw [if_pos c17] at H
                  have c17b0 : (t347 == t350) = true := beq_iff_eq.mpr c17
                  have c17b1 : (t347 != t350) = false := bne_eq_false_iff_eq.mpr c17
                  clear c17
                  by_cases c18 : t348 = t351
                  · rw [if_pos c18] at H
                    have c18b0 : (t348 == t351) = true := beq_iff_eq.mpr c18
                    have c18b1 : (t348 != t351) = false := bne_eq_false_iff_eq.mpr c18
                    clear c18
                    by_cases c19 : t349 = true
                    · subst c19
                      have H1 : (if t352 = true then (bureaulaw13_ObjectFinds.l0 k1 a0 a1 a2 y343 (y343.length : Int) (wrap64 (x22_1 + 1))) else (some false)) = some r := by rw [if_pos rfl] at H; exact H
                      clear H
                      have H := H1
                      clear H1
                      by_cases c20 : t352 = true
                      · subst c20
                        have H1 : (bureaulaw13_ObjectFinds.l0 k1 a0 a1 a2 y343 (y343.length : Int) (wrap64 (x22_1 + 1))) = some r := by rw [if_pos rfl] at H; exact H
                        clear H
                        have H := H1
                        clear H1
                        have H' := Aside0.mk H
                        clear H
                        have p346 : 0 ≤ (x22_1 : Int) := of_decide_eq_true (by first | (with_reducible assumption) | assumption)
                        have q346 : x22_1 < (y343.length : Int) := of_decide_eq_true (by first | (with_reducible assumption) | assumption)
                        obtain ⟨ad346, e346, hx346_0⟩ := Kd.at_bool (Kd.R_reads' HO_20.out).2.2 x22_1 p346 q346
                        cases e346
                        replace p346 := eq_true p346
                        replace q346 := eq_true q346
                        go_wp2_with (first | ((with_reducible refine gate_callee (f := 8) rfl ?_); refine goesL_ (some 31) rfl rfl Tryd.func8 (by kernel_rfl) rfl #[.string a0, .int .i64 a1, .bool (rdOf false y343 x22_1), .int .i32 a2] rfl (by (try simp only [List.map_toArray, List.map_cons, List.map_nil]); first | done | rfl | (simp only [List.length_drop, List.length_take]; rfl)) ?_; (with_reducible refine (object_Find.calls k1 a0 a1 (rdOf false y343 x22_1) a2 t347 t348 true _ A15.out ?sideT).mono ?_); (case sideT => first | exact HTABS.out | exact HTABS.out.below (by repeat (first | (with_reducible first | exact HB.out | apply below_alloc | apply pw_below_drewN | apply below_drew1) | exact HB.out)) (Nat.le_refl _) | exact HTABS.out.below (Below.drew (Below.refl _ _)) (Nat.le_refl _)); rintro e w21 ⟨rfl, hb⟩; refine ⟨_, rfl, ?_⟩; have n0_ := Aside0.mk (Kd.R_below (by (with_reducible repeat (first | apply Kd.R_alloc | apply Kd.R_drewN | apply Kd.R_drew)); exact HO_20.out) hb); have n1_ := Aside0.mk (below_step (by repeat (first | (with_reducible first | exact HB.out | apply below_alloc | apply pw_below_drewN | apply below_drew1) | exact HB.out)) hb); clear HO_20; clear HB; have HO_20 := n0_; have HB := n1_; clear n0_ n1_; (try clear hb); (try clear hb2); (try clear hk); (try clear hi)) | ((with_reducible refine gate_callee (f := 9) rfl ?_); refine goesL_ (some 41) rfl rfl Tryd.func9 (by kernel_rfl) rfl #[.string a0, .int .i64 a1, .bool (rdOf false y343 x22_1), .int .i64 (wrap64 (a2))] rfl (by (try simp only [List.map_toArray, List.map_cons, List.map_nil]); first | done | rfl | (simp only [List.length_drop, List.length_take]; rfl)) ?_; (with_reducible refine (bureauref13_Find.calls k1 a0 a1 (rdOf false y343 x22_1) (wrap64 (a2)) t350 t351 true _ A16.out ?sideT).mono ?_); (case sideT => first | exact HTABS.out | exact HTABS.out.below (by repeat (first | (with_reducible first | exact HB.out | apply below_alloc | apply pw_below_drewN | apply below_drew1) | exact HB.out)) (Nat.le_refl _) | exact HTABS.out.below (Below.drew (Below.refl _ _)) (Nat.le_refl _)); rintro e w22 ⟨rfl, hb⟩; refine ⟨_, rfl, ?_⟩; have n0_ := Aside0.mk (Kd.R_below (by (with_reducible repeat (first | apply Kd.R_alloc | apply Kd.R_drewN | apply Kd.R_drew)); exact HO_20.out) hb); have n1_ := Aside0.mk (below_step (by repeat (first | (with_reducible first | exact HB.out | apply below_alloc | apply pw_below_drewN | apply below_drew1) | exact HB.out)) hb); clear HO_20; clear HB; have HO_20 := n0_; have HB := n1_; clear n0_ n1_; (try clear hb); (try clear hb2); (try clear hk); (try clear hi)))
                        go_roundg k1
                        case measure => have := HK1.out; omega
                        case rel => exact ⟨(wrap64 (x22_1 + 1)), (by first | rfl | (simp; done) | (simp [*]; done)), H', ⟨by have := HK1.out; omega⟩, ⟨by (with_reducible repeat (first | apply Kd.R_alloc | apply Kd.R_drewN | apply Kd.R_drew)); exact HO_20.out⟩, ⟨by repeat (first | (with_reducible first | exact HB.out | apply below_alloc | apply pw_below_drewN | apply below_drew1) | exact HB.out)⟩⟩
                      · replace c20 := Bool.eq_false_iff.mpr c20
                        subst c20
                        have H1 : (some false) = some r := by rw [if_neg (show ¬ (false = true) by decide)] at H; exact H
                        clear H
                        have H := H1
                        clear H1
                        obtain rfl := Option.some.inj H
                        have p346 : 0 ≤ (x22_1 : Int) := of_decide_eq_true (by first | (with_reducible assumption) | assumption)
                        have q346 : x22_1 < (y343.length : Int) := of_decide_eq_true (by first | (with_reducible assumption) | assumption)
                        obtain ⟨ad346, e346, hx346_0⟩ := Kd.at_bool (Kd.R_reads' HO_20.out).2.2 x22_1 p346 q346
                        cases e346
                        replace p346 := eq_true p346
                        replace q346 := eq_true q346
                        go_wp2_with (first | ((with_reducible refine gate_callee (f := 8) rfl ?_); refine goesL_ (some 31) rfl rfl Tryd.func8 (by kernel_rfl) rfl #[.string a0, .int .i64 a1, .bool (rdOf false y343 x22_1), .int .i32 a2] rfl (by (try simp only [List.map_toArray, List.map_cons, List.map_nil]); first | done | rfl | (simp only [List.length_drop, List.length_take]; rfl)) ?_; (with_reducible refine (object_Find.calls k1 a0 a1 (rdOf false y343 x22_1) a2 t347 t348 true _ A15.out ?sideT).mono ?_); (case sideT => first | exact HTABS.out | exact HTABS.out.below (by repeat (first | (with_reducible first | exact HB.out | apply below_alloc | apply pw_below_drewN | apply below_drew1) | exact HB.out)) (Nat.le_refl _) | exact HTABS.out.below (Below.drew (Below.refl _ _)) (Nat.le_refl _)); rintro e w23 ⟨rfl, hb⟩; refine ⟨_, rfl, ?_⟩; have n0_ := Aside0.mk (Kd.R_below (by (with_reducible repeat (first | apply Kd.R_alloc | apply Kd.R_drewN | apply Kd.R_drew)); exact HO_20.out) hb); have n1_ := Aside0.mk (below_step (by repeat (first | (with_reducible first | exact HB.out | apply below_alloc | apply pw_below_drewN | apply below_drew1) | exact HB.out)) hb); clear HO_20; clear HB; have HO_20 := n0_; have HB := n1_; clear n0_ n1_; (try clear hb); (try clear hb2); (try clear hk); (try clear hi)) | ((with_reducible refine gate_callee (f := 9) rfl ?_); refine goesL_ (some 41) rfl rfl Tryd.func9 (by kernel_rfl) rfl #[.string a0, .int .i64 a1, .bool (rdOf false y343 x22_1), .int .i64 (wrap64 (a2))] rfl (by (try simp only [List.map_toArray, List.map_cons, List.map_nil]); first | done | rfl | (simp only [List.length_drop, List.length_take]; rfl)) ?_; (with_reducible refine (bureauref13_Find.calls k1 a0 a1 (rdOf false y343 x22_1) (wrap64 (a2)) t350 t351 false _ A16.out ?sideT).mono ?_); (case sideT => first | exact HTABS.out | exact HTABS.out.below (by repeat (first | (with_reducible first | exact HB.out | apply below_alloc | apply pw_below_drewN | apply below_drew1) | exact HB.out)) (Nat.le_refl _) | exact HTABS.out.below (Below.drew (Below.refl _ _)) (Nat.le_refl _)); rintro e w24 ⟨rfl, hb⟩; refine ⟨_, rfl, ?_⟩; have n0_ := Aside0.mk (Kd.R_below (by (with_reducible repeat (first | apply Kd.R_alloc | apply Kd.R_drewN | apply Kd.R_drew)); exact HO_20.out) hb); have n1_ := Aside0.mk (below_step (by repeat (first | (with_reducible first | exact HB.out | apply below_alloc | apply pw_below_drewN | apply below_drew1) | exact HB.out)) hb); clear HO_20; clear HB; have HO_20 := n0_; have HB := n1_; clear n0_ n1_; (try clear hb); (try clear hb2); (try clear hk); (try clear hi)))
                        go_ret
                        exact ⟨by first | rfl | (simp [errW_none, errW_some] <;> rfl) | (simp [*, errW_none, errW_some] <;> rfl), by repeat (first | (with_reducible first | exact HB.out | apply below_alloc | apply pw_below_drewN | apply below_drew1) | exact HB.out)⟩
                    · replace c19 := Bool.eq_false_iff.mpr c19
                      subst c19
                      have H1 : (if t352 = true then (some false) else (bureaulaw13_ObjectFinds.l0 k1 a0 a1 a2 y343 (y343.length : Int) (wrap64 (x22_1 + 1)))) = some r := by rw [if_neg (show ¬ (false = true) by decide)] at H; exact H
                      clear H
                      have H := H1
                      clear H1
                      by_cases c25 : t352 = true
                      · subst c25
                        have H1 : (some false) = some r := by rw [if_pos rfl] at H; exact H
                        clear H
                        have H := H1
                        clear H1
                        obtain rfl := Option.some.inj H
                        have p346 : 0 ≤ (x22_1 : Int) := of_decide_eq_true (by first | (with_reducible assumption) | assumption)
                        have q346 : x22_1 < (y343.length : Int) := of_decide_eq_true (by first | (with_reducible assumption) | assumption)
                        obtain ⟨ad346, e346, hx346_0⟩ := Kd.at_bool (Kd.R_reads' HO_20.out).2.2 x22_1 p346 q346
                        cases e346
                        replace p346 := eq_true p346
                        replace q346 := eq_true q346
                        go_wp2_with (first | ((with_reducible refine gate_callee (f := 8) rfl ?_); refine goesL_ (some 31) rfl rfl Tryd.func8 (by kernel_rfl) rfl #[.string a0, .int .i64 a1, .bool (rdOf false y343 x22_1), .int .i32 a2] rfl (by (try simp only [List.map_toArray, List.map_cons, List.map_nil]); first | done | rfl | (simp only [List.length_drop, List.length_take]; rfl)) ?_; (with_reducible refine (object_Find.calls k1 a0 a1 (rdOf false y343 x22_1) a2 t347 t348 false _ A15.out ?sideT).mono ?_); (case sideT => first | exact HTABS.out | exact HTABS.out.below (by repeat (first | (with_reducible first | exact HB.out | apply below_alloc | apply pw_below_drewN | apply below_drew1) | exact HB.out)) (Nat.le_refl _) | exact HTABS.out.below (Below.drew (Below.refl _ _)) (Nat.le_refl _)); rintro e w26 ⟨rfl, hb⟩; refine ⟨_, rfl, ?_⟩; have n0_ := Aside0.mk (Kd.R_below (by (with_reducible repeat (first | apply Kd.R_alloc | apply Kd.R_drewN | apply Kd.R_drew)); exact HO_20.out) hb); have n1_ := Aside0.mk (below_step (by repeat (first | (with_reducible first | exact HB.out | apply below_alloc | apply pw_below_drewN | apply below_drew1) | exact HB.out)) hb); clear HO_20; clear HB; have HO_20 := n0_; have HB := n1_; clear n0_ n1_; (try clear hb); (try clear hb2); (try clear hk); (try clear hi)) | ((with_reducible refine gate_callee (f := 9) rfl ?_); refine goesL_ (some 41) rfl rfl Tryd.func9 (by kernel_rfl) rfl #[.string a0, .int .i64 a1, .bool (rdOf false y343 x22_1), .int .i64 (wrap64 (a2))] rfl (by (try simp only [List.map_toArray, List.map_cons, List.map_nil]); first | done | rfl | (simp only [List.length_drop, List.length_take]; rfl)) ?_; (with_reducible refine (bureauref13_Find.calls k1 a0 a1 (rdOf false y343 x22_1) (wrap64 (a2)) t350 t351 true _ A16.out ?sideT).mono ?_); (case sideT => first | exact HTABS.out | exact HTABS.out.below (by repeat (first | (with_reducible first | exact HB.out | apply below_alloc | apply pw_below_drewN | apply below_drew1) | exact HB.out)) (Nat.le_refl _) | exact HTABS.out.below (Below.drew (Below.refl _ _)) (Nat.le_refl _)); rintro e w27 ⟨rfl, hb⟩; refine ⟨_, rfl, ?_⟩; have n0_ := Aside0.mk (Kd.R_below (by (with_reducible repeat (first | apply Kd.R_alloc | apply Kd.R_drewN | apply Kd.R_drew)); exact HO_20.out) hb); have n1_ := Aside0.mk (below_step (by repeat (first | (with_reducible first | exact HB.out | apply below_alloc | apply pw_below_drewN | apply below_drew1) | exact HB.out)) hb); clear HO_20; clear HB; have HO_20 := n0_; have HB := n1_; clear n0_ n1_; (try clear hb); (try clear hb2); (try clear hk); (try clear hi)))
                        go_ret
                        exact ⟨by first | rfl | (simp [errW_none, errW_some] <;> rfl) | (simp [*, errW_none, errW_some] <;> rfl), by repeat (first | (with_reducible first | exact HB.out | apply below_alloc | apply pw_below_drewN | apply below_drew1) | exact HB.out)⟩
                      · replace c25 := Bool.eq_false_iff.mpr c25
                        subst c25
                        have H1 : (bureaulaw13_ObjectFinds.l0 k1 a0 a1 a2 y343 (y343.length : Int) (wrap64 (x22_1 + 1))) = some r := by rw [if_neg (show ¬ (false = true) by decide)] at H; exact H
                        clear H
                        have H := H1
                        clear H1
                        have H' := Aside0.mk H
                        clear H
                        have p346 : 0 ≤ (x22_1 : Int) := of_decide_eq_true (by first | (with_reducible assumption) | assumption)
                        have q346 : x22_1 < (y343.length : Int) := of_decide_eq_true (by first | (with_reducible assumption) | assumption)
                        obtain ⟨ad346, e346, hx346_0⟩ := Kd.at_bool (Kd.R_reads' HO_20.out).2.2 x22_1 p346 q346
                        cases e346
                        replace p346 := eq_true p346
                        replace q346 := eq_true q346
                        go_wp2_with (first | ((with_reducible refine gate_callee (f := 8) rfl ?_); refine goesL_ (some 31) rfl rfl Tryd.func8 (by kernel_rfl) rfl #[.string a0, .int .i64 a1, .bool (rdOf false y343 x22_1), .int .i32 a2] rfl (by (try simp only [List.map_toArray, List.map_cons, List.map_nil]); first | done | rfl | (simp only [List.length_drop, List.length_take]; rfl)) ?_; (with_reducible refine (object_Find.calls k1 a0 a1 (rdOf false y343 x22_1) a2 t347 t348 false _ A15.out ?sideT).mono ?_); (case sideT => first | exact HTABS.out | exact HTABS.out.below (by repeat (first | (with_reducible first | exact HB.out | apply below_alloc | apply pw_below_drewN | apply below_drew1) | exact HB.out)) (Nat.le_refl _) | exact HTABS.out.below (Below.drew (Below.refl _ _)) (Nat.le_refl _)); rintro e w28 ⟨rfl, hb⟩; refine ⟨_, rfl, ?_⟩; have n0_ := Aside0.mk (Kd.R_below (by (with_reducible repeat (first | apply Kd.R_alloc | apply Kd.R_drewN | apply Kd.R_drew)); exact HO_20.out) hb); have n1_ := Aside0.mk (below_step (by repeat (first | (with_reducible first | exact HB.out | apply below_alloc | apply pw_below_drewN | apply below_drew1) | exact HB.out)) hb); clear HO_20; clear HB; have HO_20 := n0_; have HB := n1_; clear n0_ n1_; (try clear hb); (try clear hb2); (try clear hk); (try clear hi)) | ((with_reducible refine gate_callee (f := 9) rfl ?_); refine goesL_ (some 41) rfl rfl Tryd.func9 (by kernel_rfl) rfl #[.string a0, .int .i64 a1, .bool (rdOf false y343 x22_1), .int .i64 (wrap64 (a2))] rfl (by (try simp only [List.map_toArray, List.map_cons, List.map_nil]); first | done | rfl | (simp only [List.length_drop, List.length_take]; rfl)) ?_; (with_reducible refine (bureauref13_Find.calls k1 a0 a1 (rdOf false y343 x22_1) (wrap64 (a2)) t350 t351 false _ A16.out ?sideT).mono ?_); (case sideT => first | exact HTABS.out | exact HTABS.out.below (by repeat (first | (with_reducible first | exact HB.out | apply below_alloc | apply pw_below_drewN | apply below_drew1) | exact HB.out)) (Nat.le_refl _) | exact HTABS.out.below (Below.drew (Below.refl _ _)) (Nat.le_refl _)); rintro e w29 ⟨rfl, hb⟩; refine ⟨_, rfl, ?_⟩; have n0_ := Aside0.mk (Kd.R_below (by (with_reducible repeat (first | apply Kd.R_alloc | apply Kd.R_drewN | apply Kd.R_drew)); exact HO_20.out) hb); have n1_ := Aside0.mk (below_step (by repeat (first | (with_reducible first | exact HB.out | apply below_alloc | apply pw_below_drewN | apply below_drew1) | exact HB.out)) hb); clear HO_20; clear HB; have HO_20 := n0_; have HB := n1_; clear n0_ n1_; (try clear hb); (try clear hb2); (try clear hk); (try clear hi)))
                        go_roundg k1
                        case measure => have := HK1.out; omega
                        case rel => exact ⟨(wrap64 (x22_1 + 1)), (by first | rfl | (simp; done) | (simp [*]; done)), H', ⟨by have := HK1.out; omega⟩, ⟨by (with_reducible repeat (first | apply Kd.R_alloc | apply Kd.R_drewN | apply Kd.R_drew)); exact HO_20.out⟩, ⟨by repeat (first | (with_reducible first | exact HB.out | apply below_alloc | apply pw_below_drewN | apply below_drew1) | exact HB.out)⟩⟩
                  · rw [if_neg c18] at H
                    have c18b0 : (t348 == t351) = false := beq_eq_false_iff_ne.mpr c18
                    have c18b1 : (t348 != t351) = true := bne_iff_ne.mpr c18
                    obtain rfl := Option.some.inj H
                    have p346 : 0 ≤ (x22_1 : Int) := of_decide_eq_true (by first | (with_reducible assumption) | assumption)
                    have q346 : x22_1 < (y343.length : Int) := of_decide_eq_true (by first | (with_reducible assumption) | assumption)
                    obtain ⟨ad346, e346, hx346_0⟩ := Kd.at_bool (Kd.R_reads' HO_20.out).2.2 x22_1 p346 q346
                    cases e346
                    replace p346 := eq_true p346
                    replace q346 := eq_true q346
                    go_wp2_with (first | ((with_reducible refine gate_callee (f := 8) rfl ?_); refine goesL_ (some 31) rfl rfl Tryd.func8 (by kernel_rfl) rfl #[.string a0, .int .i64 a1, .bool (rdOf false y343 x22_1), .int .i32 a2] rfl (by (try simp only [List.map_toArray, List.map_cons, List.map_nil]); first | done | rfl | (simp only [List.length_drop, List.length_take]; rfl)) ?_; (with_reducible refine (object_Find.calls k1 a0 a1 (rdOf false y343 x22_1) a2 t347 t348 t349 _ A15.out ?sideT).mono ?_); (case sideT => first | exact HTABS.out | exact HTABS.out.below (by repeat (first | (with_reducible first | exact HB.out | apply below_alloc | apply pw_below_drewN | apply below_drew1) | exact HB.out)) (Nat.le_refl _) | exact HTABS.out.below (Below.drew (Below.refl _ _)) (Nat.le_refl _)); rintro e w30 ⟨rfl, hb⟩; refine ⟨_, rfl, ?_⟩; have n0_ := Aside0.mk (Kd.R_below (by (with_reducible repeat (first | apply Kd.R_alloc | apply Kd.R_drewN | apply Kd.R_drew)); exact HO_20.out) hb); have n1_ := Aside0.mk (below_step (by repeat (first | (with_reducible first | exact HB.out | apply below_alloc | apply pw_below_drewN | apply below_drew1) | exact HB.out)) hb); clear HO_20; clear HB; have HO_20 := n0_; have HB := n1_; clear n0_ n1_; (try clear hb); (try clear hb2); (try clear hk); (try clear hi)) | ((with_reducible refine gate_callee (f := 9) rfl ?_); refine goesL_ (some 41) rfl rfl Tryd.func9 (by kernel_rfl) rfl #[.string a0, .int .i64 a1, .bool (rdOf false y343 x22_1), .int .i64 (wrap64 (a2))] rfl (by (try simp only [List.map_toArray, List.map_cons, List.map_nil]); first | done | rfl | (simp only [List.length_drop, List.length_take]; rfl)) ?_; (with_reducible refine (bureauref13_Find.calls k1 a0 a1 (rdOf false y343 x22_1) (wrap64 (a2)) t350 t351 t352 _ A16.out ?sideT).mono ?_); (case sideT => first | exact HTABS.out | exact HTABS.out.below (by repeat (first | (with_reducible first | exact HB.out | apply below_alloc | apply pw_below_drewN | apply below_drew1) | exact HB.out)) (Nat.le_refl _) | exact HTABS.out.below (Below.drew (Below.refl _ _)) (Nat.le_refl _)); rintro e w31 ⟨rfl, hb⟩; refine ⟨_, rfl, ?_⟩; have n0_ := Aside0.mk (Kd.R_below (by (with_reducible repeat (first | apply Kd.R_alloc | apply Kd.R_drewN | apply Kd.R_drew)); exact HO_20.out) hb); have n1_ := Aside0.mk (below_step (by repeat (first | (with_reducible first | exact HB.out | apply below_alloc | apply pw_below_drewN | apply below_drew1) | exact HB.out)) hb); clear HO_20; clear HB; have HO_20 := n0_; have HB := n1_; clear n0_ n1_; (try clear hb); (try clear hb2); (try clear hk); (try clear hi)))
                    go_ret
                    exact ⟨by first | rfl | (simp [errW_none, errW_some] <;> rfl) | (simp [*, errW_none, errW_some] <;> rfl), by repeat (first | (with_reducible first | exact HB.out | apply below_alloc | apply pw_below_drewN | apply below_drew1) | exact HB.out)⟩
                · rw [if_neg c17] at H
                  have c17b0 : (t347 == t350) = false := beq_eq_false_iff_ne.mpr c17
                  have c17b1 : (t347 != t350) = true := bne_iff_ne.mpr c17
                  obtain rfl := Option.some.inj H
                  have p346 : 0 ≤ (x22_1 : Int) := of_decide_eq_true (by first | (with_reducible assumption) | assumption)
                  have q346 : x22_1 < (y343.length : Int) := of_decide_eq_true (by first | (with_reducible assumption) | assumption)
                  obtain ⟨ad346, e346, hx346_0⟩ := Kd.at_bool (Kd.R_reads' HO_20.out).2.2 x22_1 p346 q346
                  cases e346
                  replace p346 := eq_true p346
                  replace q346 := eq_true q346
                  go_wp2_with (first | ((with_reducible refine gate_callee (f := 8) rfl ?_); refine goesL_ (some 31) rfl rfl Tryd.func8 (by kernel_rfl) rfl #[.string a0, .int .i64 a1, .bool (rdOf false y343 x22_1), .int .i32 a2] rfl (by (try simp only [List.map_toArray, List.map_cons, List.map_nil]); first | done | rfl | (simp only [List.length_drop, List.length_take]; rfl)) ?_; (with_reducible refine (object_Find.calls k1 a0 a1 (rdOf false y343 x22_1) a2 t347 t348 t349 _ A15.out ?sideT).mono ?_); (case sideT => first | exact HTABS.out | exact HTABS.out.below (by repeat (first | (with_reducible first | exact HB.out | apply below_alloc | apply pw_below_drewN | apply below_drew1) | exact HB.out)) (Nat.le_refl _) | exact HTABS.out.below (Below.drew (Below.refl _ _)) (Nat.le_refl _)); rintro e w32 ⟨rfl, hb⟩; refine ⟨_, rfl, ?_⟩; have n0_ := Aside0.mk (Kd.R_below (by (with_reducible repeat (first | apply Kd.R_alloc | apply Kd.R_drewN | apply Kd.R_drew)); exact HO_20.out) hb); have n1_ := Aside0.mk (below_step (by repeat (first | (with_reducible first | exact HB.out | apply below_alloc | apply pw_below_drewN | apply below_drew1) | exact HB.out)) hb); clear HO_20; clear HB; have HO_20 := n0_; have HB := n1_; clear n0_ n1_; (try clear hb); (try clear hb2); (try clear hk); (try clear hi)) | ((with_reducible refine gate_callee (f := 9) rfl ?_); refine goesL_ (some 41) rfl rfl Tryd.func9 (by kernel_rfl) rfl #[.string a0, .int .i64 a1, .bool (rdOf false y343 x22_1), .int .i64 (wrap64 (a2))] rfl (by (try simp only [List.map_toArray, List.map_cons, List.map_nil]); first | done | rfl | (simp only [List.length_drop, List.length_take]; rfl)) ?_; (with_reducible refine (bureauref13_Find.calls k1 a0 a1 (rdOf false y343 x22_1) (wrap64 (a2)) t350 t351 t352 _ A16.out ?sideT).mono ?_); (case sideT => first | exact HTABS.out | exact HTABS.out.below (by repeat (first | (with_reducible first | exact HB.out | apply below_alloc | apply pw_below_drewN | apply below_drew1) | exact HB.out)) (Nat.le_refl _) | exact HTABS.out.below (Below.drew (Below.refl _ _)) (Nat.le_refl _)); rintro e w33 ⟨rfl, hb⟩; refine ⟨_, rfl, ?_⟩; have n0_ := Aside0.mk (Kd.R_below (by (with_reducible repeat (first | apply Kd.R_alloc | apply Kd.R_drewN | apply Kd.R_drew)); exact HO_20.out) hb); have n1_ := Aside0.mk (below_step (by repeat (first | (with_reducible first | exact HB.out | apply below_alloc | apply pw_below_drewN | apply below_drew1) | exact HB.out)) hb); clear HO_20; clear HB; have HO_20 := n0_; have HB := n1_; clear n0_ n1_; (try clear hb); (try clear hb2); (try clear hk); (try clear hi)))
                  go_ret
                  exact ⟨by first | rfl | (simp [errW_none, errW_some] <;> rfl) | (simp [*, errW_none, errW_some] <;> rfl), by repeat (first | (with_reducible first | exact HB.out | apply below_alloc | apply pw_below_drewN | apply below_drew1) | exact HB.out)⟩
              · rw [if_neg c14] at H
                exact absurd H (by simp)
            · rw [if_neg c13] at H
              exact absurd H (by simp)
          · rw [if_neg c12] at H
            have c12b0 : decide (x22_1 < (y343.length : Int)) = false := decide_eq_false c12
            clear c12
            obtain rfl := Option.some.inj H
            go_wp2
            go_ret
            exact ⟨by first | rfl | (simp [errW_none, errW_some] <;> rfl) | (simp [*, errW_none, errW_some] <;> rfl), by repeat (first | (with_reducible first | exact HB.out | apply below_alloc | apply pw_below_drewN | apply below_drew1) | exact HB.out)⟩
  · replace c5 := Bool.eq_false_iff.mpr c5
    subst c5
    have H1 : (some false) = some r := by rw [if_neg (show ¬ (false = true) by decide)] at H; exact H
    clear H
    have H := H1
    clear H1
    obtain rfl := Option.some.inj H
    go_enter Tryd.func3, Tryd.ntmps3
    go_wp2_with (first | ((with_reducible refine gate_callee (f := 7) rfl ?_); refine goesL_ (some 15) rfl rfl Tryd.func7 (by kernel_rfl) rfl #[] rfl (by (try simp only [List.map_toArray, List.map_cons, List.map_nil]); first | done | rfl | (simp only [List.length_drop, List.length_take]; rfl)) ?_; (with_reducible refine (bureaulaw13_alive.calls k  false _ A4.out ?sideT).mono ?_); (case sideT => first | exact HTABS.out | exact HTABS.out.below (by repeat (first | (with_reducible first | exact HB.out | apply below_alloc | apply pw_below_drewN | apply below_drew1) | exact HB.out)) (Nat.le_refl _) | exact HTABS.out.below (Below.drew (Below.refl _ _)) (Nat.le_refl _)); rintro e w34 ⟨rfl, hb⟩; refine ⟨_, rfl, ?_⟩; have n0_ := Aside0.mk (below_step (by repeat (first | (with_reducible first | exact HB.out | apply below_alloc | apply pw_below_drewN | apply below_drew1) | exact HB.out)) hb); clear HB; have HB := n0_; clear n0_; (try clear hb); (try clear hb2); (try clear hk); (try clear hi)))
    go_ret
    exact ⟨by first | rfl | (simp [errW_none, errW_some] <;> rfl) | (simp [*, errW_none, errW_some] <;> rfl), by repeat (first | (with_reducible first | exact HB.out | apply below_alloc | apply pw_below_drewN | apply below_drew1) | exact HB.out)⟩

/-- What is to be proved of bureaulaw13_ObjectFinds: no program in it. -/
def bureaulaw13_ObjectFinds.Pure : Prop := ∀ (a0 : ByteArray) (a1 : Int) (a2 : Int), a0.size ≤ maxLen → (Lit.int .i64 a1).wf = true → (Lit.int .i32 a2).wf = true → ∃ k, bureaulaw13_ObjectFinds.f k a0 a1 a2 = some true

end Go.Proofs.YtcinobfflfkmjaaDoor.XObjectFinds
