-- Written by this session's program (wip/xprint.py) with the kit's print, for this claim.
import Derived.Test.YtcinobfflfkmjaaDoorXObjectQuotesx0
import Derived.Test.YtcinobfflfkmjaaDoorXObjectQuotesx4
import Derived.Test.YtcinobfflfkmjaaDoorXObjectQuotesx5
namespace Go.Proofs.YtcinobfflfkmjaaDoor.XObjectQuotes
open Go.RowKit Go.Proofs.YtcinobfflfkmjaaDoorW.PrintWords Go.Proofs.YtcinobfflfkmjaaDoorW.PrintLast Go.Proofs.YtcinobfflfkmjaaDoorW.PrintMore Go.Proofs.YtcinobfflfkmjaaDoor.Ext
attribute [local go_sem] max2_int min2_int max_two min_two max_three min_three max_four min_four   -- for this text's walks alone
set_option linter.unusedVariables false
set_option linter.unusedSimpArgs false

/-! ### bureaulaw13_ObjectQuotes: function 6 -/
mutual
def bureaulaw13_ObjectQuotes.j0 : Nat → ByteArray → Int → Int → Option (Bool)
  | 0, _, _, _ => none
  | k + 1, x0, x1, x7 => (object_Find.f k x0 x1 false (wrap32 (x7))).bind fun bt212 => ((object_Find.f k x0 x1 true (wrap32 (x7))).bind fun bt215 => (if bt212.2.2 = true then (if bt215.2.2 = true then (if bt212.1 < 1 then (bureaulaw13_ObjectQuotes.j1 k x0 x7 bt212.1 bt212.2.1 true) else (if bt212.1 > bt212.2.1 then (bureaulaw13_ObjectQuotes.j1 k x0 x7 bt212.1 bt212.2.1 true) else (if bt212.2.1 ≥ (x0.size : Int) then (bureaulaw13_ObjectQuotes.j1 k x0 x7 bt212.1 bt212.2.1 true) else (if bt215.1 = (wrap64 (bt212.1 - 1)) then (if bt215.2.1 = (wrap64 (bt212.2.1 + 1)) then (if 0 ≤ bt215.1 then (if bt215.1 < (x0.size : Int) then (if (bt x0 bt215.1) = x7 then (if 0 ≤ bt212.2.1 then (if bt212.2.1 < (x0.size : Int) then (if (bt x0 bt212.2.1) = x7 then ((bureauref02_Align.f k x0 x1).bind fun t218 => (bureaulaw13_ObjectQuotes.j1 k x0 x7 bt212.1 bt212.2.1 (decide (bt212.2.1 < t218)))) else (bureaulaw13_ObjectQuotes.j1 k x0 x7 bt212.1 bt212.2.1 true)) else (none)) else (none)) else (bureaulaw13_ObjectQuotes.j1 k x0 x7 bt212.1 bt212.2.1 true)) else (none)) else (none)) else (bureaulaw13_ObjectQuotes.j1 k x0 x7 bt212.1 bt212.2.1 true)) else (bureaulaw13_ObjectQuotes.j1 k x0 x7 bt212.1 bt212.2.1 true))))) else (some false)) else (if bt215.2.2 = true then (some false) else (some true))))
def bureaulaw13_ObjectQuotes.j1 : Nat → ByteArray → Int → Int → Int → Bool → Option (Bool)
  | 0, _, _, _, _, _ => none
  | k + 1, x0, x7, x8, x9, x89 => if x89 = true then (some false) else (bureaulaw13_ObjectQuotes.l0 k x0 x7 x9 x8)
def bureaulaw13_ObjectQuotes.l0 : Nat → ByteArray → Int → Int → Int → Option (Bool)
  | 0, _, _, _, _ => none
  | k + 1, x0, x7, x9, x14 => if x14 < x9 then (if 0 ≤ x14 then (if x14 < (x0.size : Int) then (if (bt x0 x14) = x7 then (some false) else (if (bt x0 x14) = 10 then (some false) else (bureaulaw13_ObjectQuotes.l0 k x0 x7 x9 (wrap64 (x14 + 1))))) else (none)) else (none)) else (some true)
end
def bureaulaw13_ObjectQuotes.f (k : Nat) (a0 : ByteArray) (a1 : Int) (a2 : Bool) : Option (Bool) := (bureaulaw13_alive.f k).bind fun t211 => (if t211 = true then (if (a0.size : Int) > 2048 then (some true) else (if a2 = true then (bureaulaw13_ObjectQuotes.j0 k a0 a1 39) else (bureaulaw13_ObjectQuotes.j0 k a0 a1 34))) else (some false))
theorem bureaulaw13_ObjectQuotes.mono_l : ∀ k, (∀ y0 y1 y2, LeO (bureaulaw13_ObjectQuotes.j0 k y0 y1 y2) (bureaulaw13_ObjectQuotes.j0 (k + 1) y0 y1 y2)) ∧ (∀ y0 y1 y2 y3 y4, LeO (bureaulaw13_ObjectQuotes.j1 k y0 y1 y2 y3 y4) (bureaulaw13_ObjectQuotes.j1 (k + 1) y0 y1 y2 y3 y4)) ∧ (∀ y0 y1 y2 y3, LeO (bureaulaw13_ObjectQuotes.l0 k y0 y1 y2 y3) (bureaulaw13_ObjectQuotes.l0 (k + 1) y0 y1 y2 y3))
  | 0 => ⟨fun _ _ _ r h => by simp [bureaulaw13_ObjectQuotes.j0] at h, fun _ _ _ _ _ r h => by simp [bureaulaw13_ObjectQuotes.j1] at h, fun _ _ _ _ r h => by simp [bureaulaw13_ObjectQuotes.l0] at h⟩
  | k + 1 => by
    obtain ⟨ih0, ih1, ih2⟩ := bureaulaw13_ObjectQuotes.mono_l k
    refine ⟨?_, ?_, ?_⟩
    · intro y0 y1 y2
      unfold bureaulaw13_ObjectQuotes.j0
      repeat' first
      | (with_reducible exact ih0 _ _ _)
      | (with_reducible exact ih1 _ _ _ _ _)
      | (with_reducible exact ih2 _ _ _ _)
      | (with_reducible exact bureaulaw13_alive.mono _)
      | (with_reducible exact bureauref02_Align.mono _ _ _)
      | (with_reducible exact object_Find.mono _ _ _ _ _)
      | (with_reducible exact LeO.refl _)
      | (with_reducible exact LeO.none _)
      | (with_reducible refine LeO.ite ?_ ?_)
      | (with_reducible refine LeO.bind ?_ (fun _ => ?_))
      | exact ih0 _ _ _
      | exact ih1 _ _ _ _ _
      | exact ih2 _ _ _ _
      | exact bureaulaw13_alive.mono _
      | exact bureauref02_Align.mono _ _ _
      | exact object_Find.mono _ _ _ _ _
      | exact LeO.none _
      | refine LeO.ite ?_ ?_
      | refine LeO.bind ?_ (fun _ => ?_)
    · intro y0 y1 y2 y3 y4
      unfold bureaulaw13_ObjectQuotes.j1
      repeat' first
      | (with_reducible exact ih0 _ _ _)
      | (with_reducible exact ih1 _ _ _ _ _)
      | (with_reducible exact ih2 _ _ _ _)
      | (with_reducible exact bureaulaw13_alive.mono _)
      | (with_reducible exact bureauref02_Align.mono _ _ _)
      | (with_reducible exact object_Find.mono _ _ _ _ _)
      | (with_reducible exact LeO.refl _)
      | (with_reducible exact LeO.none _)
      | (with_reducible refine LeO.ite ?_ ?_)
      | (with_reducible refine LeO.bind ?_ (fun _ => ?_))
      | exact ih0 _ _ _
      | exact ih1 _ _ _ _ _
      | exact ih2 _ _ _ _
      | exact bureaulaw13_alive.mono _
      | exact bureauref02_Align.mono _ _ _
      | exact object_Find.mono _ _ _ _ _
      | exact LeO.none _
      | refine LeO.ite ?_ ?_
      | refine LeO.bind ?_ (fun _ => ?_)
    · intro y0 y1 y2 y3
      unfold bureaulaw13_ObjectQuotes.l0
      repeat' first
      | (with_reducible exact ih0 _ _ _)
      | (with_reducible exact ih1 _ _ _ _ _)
      | (with_reducible exact ih2 _ _ _ _)
      | (with_reducible exact bureaulaw13_alive.mono _)
      | (with_reducible exact bureauref02_Align.mono _ _ _)
      | (with_reducible exact object_Find.mono _ _ _ _ _)
      | (with_reducible exact LeO.refl _)
      | (with_reducible exact LeO.none _)
      | (with_reducible refine LeO.ite ?_ ?_)
      | (with_reducible refine LeO.bind ?_ (fun _ => ?_))
      | exact ih0 _ _ _
      | exact ih1 _ _ _ _ _
      | exact ih2 _ _ _ _
      | exact bureaulaw13_alive.mono _
      | exact bureauref02_Align.mono _ _ _
      | exact object_Find.mono _ _ _ _ _
      | exact LeO.none _
      | refine LeO.ite ?_ ?_
      | refine LeO.bind ?_ (fun _ => ?_)
theorem bureaulaw13_ObjectQuotes.mono : ∀ a0 a1 a2 k, LeO (bureaulaw13_ObjectQuotes.f k a0 a1 a2) (bureaulaw13_ObjectQuotes.f (k + 1) a0 a1 a2) := by
  intro a0 a1 a2 k
  obtain ⟨ih0, ih1, ih2⟩ := bureaulaw13_ObjectQuotes.mono_l k
  unfold bureaulaw13_ObjectQuotes.f
  repeat' first
      | (with_reducible exact ih0 _ _ _)
      | (with_reducible exact ih1 _ _ _ _ _)
      | (with_reducible exact ih2 _ _ _ _)
      | (with_reducible exact bureaulaw13_alive.mono _)
      | (with_reducible exact bureauref02_Align.mono _ _ _)
      | (with_reducible exact object_Find.mono _ _ _ _ _)
      | (with_reducible exact LeO.refl _)
      | (with_reducible exact LeO.none _)
      | (with_reducible refine LeO.ite ?_ ?_)
      | (with_reducible refine LeO.bind ?_ (fun _ => ?_))
      | exact ih0 _ _ _
      | exact ih1 _ _ _ _ _
      | exact ih2 _ _ _ _
      | exact bureaulaw13_alive.mono _
      | exact bureauref02_Align.mono _ _ _
      | exact object_Find.mono _ _ _ _ _
      | exact LeO.none _
      | refine LeO.ite ?_ ?_
      | refine LeO.bind ?_ (fun _ => ?_)
set_option maxHeartbeats 8000000 in
set_option maxRecDepth 100000 in
theorem bureaulaw13_ObjectQuotes.calls (k : Nat) (a0 : ByteArray) (a1 : Int) (a2 : Bool) (r : Bool) (w : World) (h : bureaulaw13_ObjectQuotes.f k a0 a1 a2 = some r) (hTabs : Tabs w) :
    Calls Tryd.prog 6 #[.string a0, .int .i64 a1, .bool a2] w fun e w' => e = .returned (.bool r) ∧ Below w.heap.size w w' := by
  have HTABS := Aside0.mk hTabs
  clear hTabs
  have HB := Aside0.mk (Below.refl w.heap.size w)
  have H : ((bureaulaw13_alive.f k).bind fun t211 => (if t211 = true then (if (a0.size : Int) > 2048 then (some true) else (if a2 = true then (bureaulaw13_ObjectQuotes.j0 k a0 a1 39) else (bureaulaw13_ObjectQuotes.j0 k a0 a1 34))) else (some false))) = some r := h
  clear h
  replace H := Option.bind_eq_some_iff.mp H
  obtain ⟨t211, A40, H⟩ := H
  replace H : (if t211 = true then (if (a0.size : Int) > 2048 then (some true) else (if a2 = true then (bureaulaw13_ObjectQuotes.j0 k a0 a1 39) else (bureaulaw13_ObjectQuotes.j0 k a0 a1 34))) else (some false)) = some r := H
  have A4 := Aside0.mk A40
  clear A40
  by_cases c5 : t211 = true
  · subst c5
    have H1 : (if (a0.size : Int) > 2048 then (some true) else (if a2 = true then (bureaulaw13_ObjectQuotes.j0 k a0 a1 39) else (bureaulaw13_ObjectQuotes.j0 k a0 a1 34))) = some r := by rw [if_pos rfl] at H; exact H
    clear H
    have H := H1
    clear H1
    by_cases c6 : (a0.size : Int) > 2048
    · rw [if_pos c6] at H
      have c6b0 : decide (2048 < (a0.size : Int)) = true := decide_eq_true c6
      have c6b1 : decide (2048 < a0.size) = true := decide_eq_true (by omega)
      clear c6
      obtain rfl := Option.some.inj H
      go_enter Tryd.func6, Tryd.ntmps6
      go_wp2_with (first | ((with_reducible refine gate_callee (f := 7) rfl ?_); refine goesL_ (some 15) rfl rfl Tryd.func7 (by kernel_rfl) rfl #[] rfl (by (try simp only [List.map_toArray, List.map_cons, List.map_nil]); first | done | rfl | (simp only [List.length_drop, List.length_take]; rfl)) ?_; (with_reducible refine (bureaulaw13_alive.calls k  true _ A4.out ?sideT).mono ?_); (case sideT => first | exact HTABS.out | exact HTABS.out.below (by repeat (first | (with_reducible first | exact HB.out | apply below_alloc | apply pw_below_drewN | apply below_drew1) | exact HB.out)) (Nat.le_refl _) | exact HTABS.out.below (Below.drew (Below.refl _ _)) (Nat.le_refl _)); rintro e w7 ⟨rfl, hb⟩; refine ⟨_, rfl, ?_⟩; have n0_ := Aside0.mk (below_step (by repeat (first | (with_reducible first | exact HB.out | apply below_alloc | apply pw_below_drewN | apply below_drew1) | exact HB.out)) hb); clear HB; have HB := n0_; clear n0_; (try clear hb); (try clear hb2); (try clear hk); (try clear hi)))
      go_ret
      exact ⟨by first | rfl | (simp [errW_none, errW_some] <;> rfl) | (simp [*, errW_none, errW_some] <;> rfl), by repeat (first | (with_reducible first | exact HB.out | apply below_alloc | apply pw_below_drewN | apply below_drew1) | exact HB.out)⟩
    · rw [if_neg c6] at H
      have c6b0 : decide (2048 < (a0.size : Int)) = false := decide_eq_false c6
      have c6b1 : decide (2048 < a0.size) = false := decide_eq_false (by omega)
      clear c6
      have HC8 := Aside0.mk H
      clear H
      go_enter Tryd.func6, Tryd.ntmps6
      go_upto_if 20 with (first | ((with_reducible refine gate_callee (f := 7) rfl ?_); refine goesL_ (some 15) rfl rfl Tryd.func7 (by kernel_rfl) rfl #[] rfl (by (try simp only [List.map_toArray, List.map_cons, List.map_nil]); first | done | rfl | (simp only [List.length_drop, List.length_take]; rfl)) ?_; (with_reducible refine (bureaulaw13_alive.calls k  true _ A4.out ?sideT).mono ?_); (case sideT => first | exact HTABS.out | exact HTABS.out.below (by repeat (first | (with_reducible first | exact HB.out | apply below_alloc | apply pw_below_drewN | apply below_drew1) | exact HB.out)) (Nat.le_refl _) | exact HTABS.out.below (Below.drew (Below.refl _ _)) (Nat.le_refl _)); rintro e w9 ⟨rfl, hb⟩; refine ⟨_, rfl, ?_⟩; have n0_ := Aside0.mk (below_step (by repeat (first | (with_reducible first | exact HB.out | apply below_alloc | apply pw_below_drewN | apply below_drew1) | exact HB.out)) hb); clear HB; have HB := n0_; clear n0_; (try clear hb); (try clear hb2); (try clear hk); (try clear hi)))
      (try simp only [Act.put, List.setIfInBounds_toArray, List.set_cons_zero, List.set_cons_succ])
      go_cut [7] (fun v7 wc => ∃ (kq : Nat) (x7_7 : Int), v7 = .int .u8 x7_7 ∧ Aside0 (bureaulaw13_ObjectQuotes.j0 kq a0 a1 x7_7 = some r) ∧ Aside0 (kq ≤ k) ∧ Aside0 (Below w.heap.size w wc))
      case first =>
        have H := HC8.out
        clear HC8
        by_cases c10 : a2 = true
        · subst c10
          have H1 : (bureaulaw13_ObjectQuotes.j0 k a0 a1 39) = some r := by rw [if_pos rfl] at H; exact H
          clear H
          have H := H1
          clear H1
          have H' := Aside0.mk H
          clear H
          go_wp2
          go_meet
          case rel => exact ⟨_, (39), (by first | rfl | (simp; done) | (simp [*]; done)), H', ⟨by first | omega | exact Nat.le_refl _⟩, ⟨by repeat (first | (with_reducible first | exact HB.out | apply below_alloc | apply pw_below_drewN | apply below_drew1) | exact HB.out)⟩⟩
        · replace c10 := Bool.eq_false_iff.mpr c10
          subst c10
          have H1 : (bureaulaw13_ObjectQuotes.j0 k a0 a1 34) = some r := by rw [if_neg (show ¬ (false = true) by decide)] at H; exact H
          clear H
          have H := H1
          clear H1
          have H' := Aside0.mk H
          clear H
          go_wp2
          go_meet
          case rel => exact ⟨_, (34), (by first | rfl | (simp; done) | (simp [*]; done)), H', ⟨by first | omega | exact Nat.le_refl _⟩, ⟨by repeat (first | (with_reducible first | exact HB.out | apply below_alloc | apply pw_below_drewN | apply below_drew1) | exact HB.out)⟩⟩
      case rest =>
        clear HC8
        try clear c1
        try clear p2
        try clear c5
        try clear c6
        try clear c6b0
        try clear c6b1
        try clear c7
        try clear c10
        obtain ⟨kq, x7_7, rfl, HA, HJ7, HB⟩ := hcut
        cases kq with
        | zero => exact absurd HA.out (by simp [bureaulaw13_ObjectQuotes.j0])
        | succ kj7 =>
          have H := HA.out
          clear HA
          simp only [bureaulaw13_ObjectQuotes.j0] at H
          replace H := Option.bind_eq_some_iff.mp H
          obtain ⟨⟨t212, t213, t214⟩, A110, H⟩ := H
          replace H : ((object_Find.f kj7 a0 a1 true (wrap32 (x7_7))).bind fun bt215 => (if t214 = true then (if bt215.2.2 = true then (if t212 < 1 then (bureaulaw13_ObjectQuotes.j1 kj7 a0 x7_7 t212 t213 true) else (if t212 > t213 then (bureaulaw13_ObjectQuotes.j1 kj7 a0 x7_7 t212 t213 true) else (if t213 ≥ (a0.size : Int) then (bureaulaw13_ObjectQuotes.j1 kj7 a0 x7_7 t212 t213 true) else (if bt215.1 = (wrap64 (t212 - 1)) then (if bt215.2.1 = (wrap64 (t213 + 1)) then (if 0 ≤ bt215.1 then (if bt215.1 < (a0.size : Int) then (if (bt a0 bt215.1) = x7_7 then (if 0 ≤ t213 then (if t213 < (a0.size : Int) then (if (bt a0 t213) = x7_7 then ((bureauref02_Align.f kj7 a0 a1).bind fun t218 => (bureaulaw13_ObjectQuotes.j1 kj7 a0 x7_7 t212 t213 (decide (t213 < t218)))) else (bureaulaw13_ObjectQuotes.j1 kj7 a0 x7_7 t212 t213 true)) else (none)) else (none)) else (bureaulaw13_ObjectQuotes.j1 kj7 a0 x7_7 t212 t213 true)) else (none)) else (none)) else (bureaulaw13_ObjectQuotes.j1 kj7 a0 x7_7 t212 t213 true)) else (bureaulaw13_ObjectQuotes.j1 kj7 a0 x7_7 t212 t213 true))))) else (some false)) else (if bt215.2.2 = true then (some false) else (some true)))) = some r := H
          have A11 := Aside0.mk A110
          clear A110
          replace H := Option.bind_eq_some_iff.mp H
          obtain ⟨⟨t215, t216, t217⟩, A120, H⟩ := H
          replace H : (if t214 = true then (if t217 = true then (if t212 < 1 then (bureaulaw13_ObjectQuotes.j1 kj7 a0 x7_7 t212 t213 true) else (if t212 > t213 then (bureaulaw13_ObjectQuotes.j1 kj7 a0 x7_7 t212 t213 true) else (if t213 ≥ (a0.size : Int) then (bureaulaw13_ObjectQuotes.j1 kj7 a0 x7_7 t212 t213 true) else (if t215 = (wrap64 (t212 - 1)) then (if t216 = (wrap64 (t213 + 1)) then (if 0 ≤ t215 then (if t215 < (a0.size : Int) then (if (bt a0 t215) = x7_7 then (if 0 ≤ t213 then (if t213 < (a0.size : Int) then (if (bt a0 t213) = x7_7 then ((bureauref02_Align.f kj7 a0 a1).bind fun t218 => (bureaulaw13_ObjectQuotes.j1 kj7 a0 x7_7 t212 t213 (decide (t213 < t218)))) else (bureaulaw13_ObjectQuotes.j1 kj7 a0 x7_7 t212 t213 true)) else (none)) else (none)) else (bureaulaw13_ObjectQuotes.j1 kj7 a0 x7_7 t212 t213 true)) else (none)) else (none)) else (bureaulaw13_ObjectQuotes.j1 kj7 a0 x7_7 t212 t213 true)) else (bureaulaw13_ObjectQuotes.j1 kj7 a0 x7_7 t212 t213 true))))) else (some false)) else (if t217 = true then (some false) else (some true))) = some r := H
          have A12 := Aside0.mk A120
          clear A120
          by_cases c13 : t214 = true
          · subst c13
            have H1 : (if t217 = true then (if t212 < 1 then (bureaulaw13_ObjectQuotes.j1 kj7 a0 x7_7 t212 t213 true) else (if t212 > t213 then (bureaulaw13_ObjectQuotes.j1 kj7 a0 x7_7 t212 t213 true) else (if t213 ≥ (a0.size : Int) then (bureaulaw13_ObjectQuotes.j1 kj7 a0 x7_7 t212 t213 true) else (if t215 = (wrap64 (t212 - 1)) then (if t216 = (wrap64 (t213 + 1)) then (if 0 ≤ t215 then (if t215 < (a0.size : Int) then (if (bt a0 t215) = x7_7 then (if 0 ≤ t213 then (if t213 < (a0.size : Int) then (if (bt a0 t213) = x7_7 then ((bureauref02_Align.f kj7 a0 a1).bind fun t218 => (bureaulaw13_ObjectQuotes.j1 kj7 a0 x7_7 t212 t213 (decide (t213 < t218)))) else (bureaulaw13_ObjectQuotes.j1 kj7 a0 x7_7 t212 t213 true)) else (none)) else (none)) else (bureaulaw13_ObjectQuotes.j1 kj7 a0 x7_7 t212 t213 true)) else (none)) else (none)) else (bureaulaw13_ObjectQuotes.j1 kj7 a0 x7_7 t212 t213 true)) else (bureaulaw13_ObjectQuotes.j1 kj7 a0 x7_7 t212 t213 true))))) else (some false)) = some r := by rw [if_pos rfl] at H; exact H
            clear H
            have H := H1
            clear H1
            by_cases c14 : t217 = true
            · subst c14
              have H1 : (if t212 < 1 then (bureaulaw13_ObjectQuotes.j1 kj7 a0 x7_7 t212 t213 true) else (if t212 > t213 then (bureaulaw13_ObjectQuotes.j1 kj7 a0 x7_7 t212 t213 true) else (if t213 ≥ (a0.size : Int) then (bureaulaw13_ObjectQuotes.j1 kj7 a0 x7_7 t212 t213 true) else (if t215 = (wrap64 (t212 - 1)) then (if t216 = (wrap64 (t213 + 1)) then (if 0 ≤ t215 then (if t215 < (a0.size : Int) then (if (bt a0 t215) = x7_7 then (if 0 ≤ t213 then (if t213 < (a0.size : Int) then (if (bt a0 t213) = x7_7 then ((bureauref02_Align.f kj7 a0 a1).bind fun t218 => (bureaulaw13_ObjectQuotes.j1 kj7 a0 x7_7 t212 t213 (decide (t213 < t218)))) else (bureaulaw13_ObjectQuotes.j1 kj7 a0 x7_7 t212 t213 true)) else (none)) else (none)) else (bureaulaw13_ObjectQuotes.j1 kj7 a0 x7_7 t212 t213 true)) else (none)) else (none)) else (bureaulaw13_ObjectQuotes.j1 kj7 a0 x7_7 t212 t213 true)) else (bureaulaw13_ObjectQuotes.j1 kj7 a0 x7_7 t212 t213 true))))) = some r := by rw [if_pos rfl] at H; exact H
              clear H
              have H := H1
              clear H1
              have HC15 := Aside0.mk H
              clear H
              go_upto_region 14 with (first | ((with_reducible refine gate_callee (f := 8) rfl ?_); refine goesL_ (some 26) rfl rfl Tryd.func8 (by kernel_rfl) rfl #[.string a0, .int .i64 a1, .bool false, .int .i32 (wrap32 (x7_7))] rfl (by (try simp only [List.map_toArray, List.map_cons, List.map_nil]); first | done | rfl | (simp only [List.length_drop, List.length_take]; rfl)) ?_; (with_reducible refine (object_Find.calls kj7 a0 a1 false (wrap32 (x7_7)) t212 t213 true _ A11.out ?sideT).mono ?_); (case sideT => first | exact HTABS.out | exact HTABS.out.below (by repeat (first | (with_reducible first | exact HB.out | apply below_alloc | apply pw_below_drewN | apply below_drew1) | exact HB.out)) (Nat.le_refl _) | exact HTABS.out.below (Below.drew (Below.refl _ _)) (Nat.le_refl _)); rintro e w16 ⟨rfl, hb⟩; refine ⟨_, rfl, ?_⟩; have n0_ := Aside0.mk (below_step (by repeat (first | (with_reducible first | exact HB.out | apply below_alloc | apply pw_below_drewN | apply below_drew1) | exact HB.out)) hb); clear HB; have HB := n0_; clear n0_; (try clear hb); (try clear hb2); (try clear hk); (try clear hi)) | ((with_reducible refine gate_callee (f := 8) rfl ?_); refine goesL_ (some 35) rfl rfl Tryd.func8 (by kernel_rfl) rfl #[.string a0, .int .i64 a1, .bool true, .int .i32 (wrap32 (x7_7))] rfl (by (try simp only [List.map_toArray, List.map_cons, List.map_nil]); first | done | rfl | (simp only [List.length_drop, List.length_take]; rfl)) ?_; (with_reducible refine (object_Find.calls kj7 a0 a1 true (wrap32 (x7_7)) t215 t216 true _ A12.out ?sideT).mono ?_); (case sideT => first | exact HTABS.out | exact HTABS.out.below (by repeat (first | (with_reducible first | exact HB.out | apply below_alloc | apply pw_below_drewN | apply below_drew1) | exact HB.out)) (Nat.le_refl _) | exact HTABS.out.below (Below.drew (Below.refl _ _)) (Nat.le_refl _)); rintro e w17 ⟨rfl, hb⟩; refine ⟨_, rfl, ?_⟩; have n0_ := Aside0.mk (below_step (by repeat (first | (with_reducible first | exact HB.out | apply below_alloc | apply pw_below_drewN | apply below_drew1) | exact HB.out)) hb); clear HB; have HB := n0_; clear n0_; (try clear hb); (try clear hb2); (try clear hk); (try clear hi)))
              (try simp only [Act.put, List.setIfInBounds_toArray, List.set_cons_zero, List.set_cons_succ])
              go_cut [89] (fun v89 wc => ∃ (kq : Nat) (x89_14 : Bool), v89 = .bool x89_14 ∧ Aside0 (bureaulaw13_ObjectQuotes.j1 kq a0 x7_7 t212 t213 x89_14 = some r) ∧ Aside0 (kq ≤ kj7) ∧ Aside0 (Below w.heap.size w wc))
              case first =>
                have H := HC15.out
                clear HC15
                by_cases c18 : t212 < 1
                · rw [if_pos c18] at H
                  have c18b0 : decide (t212 < 1) = true := decide_eq_true c18
                  clear c18
                  (first | rw [c18b0] | (simp only [i64_w, i32_w]; rw [c18b0]) | skip)
                  have H' := Aside0.mk H
                  clear H
                  go_wp2
                  go_meet
                  case rel => exact ⟨_, (true), (by first | rfl | (simp; done) | (simp [*]; done)), H', ⟨by have := HJ7.out; first | omega | exact Nat.le_refl _⟩, ⟨by repeat (first | (with_reducible first | exact HB.out | apply below_alloc | apply pw_below_drewN | apply below_drew1) | exact HB.out)⟩⟩
                · rw [if_neg c18] at H
                  have c18b0 : decide (t212 < 1) = false := decide_eq_false c18
                  clear c18
                  (first | rw [c18b0] | (simp only [i64_w, i32_w]; rw [c18b0]) | skip)
                  by_cases c19 : t212 > t213
                  · rw [if_pos c19] at H
                    have c19b0 : decide (t213 < t212) = true := decide_eq_true c19
                    clear c19
                    have H' := Aside0.mk H
                    clear H
                    go_wp2
                    go_meet
                    case rel => exact ⟨_, (true), (by first | rfl | (simp; done) | (simp [*]; done)), H', ⟨by have := HJ7.out; first | omega | exact Nat.le_refl _⟩, ⟨by repeat (first | (with_reducible first | exact HB.out | apply below_alloc | apply pw_below_drewN | apply below_drew1) | exact HB.out)⟩⟩
                  · rw [if_neg c19] at H
                    have c19b0 : decide (t213 < t212) = false := decide_eq_false c19
                    clear c19
                    by_cases c20 : t213 ≥ (a0.size : Int)
                    · rw [if_pos c20] at H
                      have c20b0 : decide ((a0.size : Int) ≤ t213) = true := decide_eq_true c20
                      clear c20
                      have H' := Aside0.mk H
                      clear H
                      go_wp2
                      go_meet
                      case rel => exact ⟨_, (true), (by first | rfl | (simp; done) | (simp [*]; done)), H', ⟨by have := HJ7.out; first | omega | exact Nat.le_refl _⟩, ⟨by repeat (first | (with_reducible first | exact HB.out | apply below_alloc | apply pw_below_drewN | apply below_drew1) | exact HB.out)⟩⟩
                    · rw [if_neg c20] at H
                      have c20b0 : decide ((a0.size : Int) ≤ t213) = false := decide_eq_false c20
                      clear c20
                      by_cases c21 : t215 = (wrap64 (t212 - 1))
                      · rw [if_pos c21] at H
                        have c21b0 : (t215 == (wrap64 (t212 - 1))) = true := beq_iff_eq.mpr c21
                        have c21b1 : (t215 != (wrap64 (t212 - 1))) = false := bne_eq_false_iff_eq.mpr c21
                        clear c21
                        by_cases c22 : t216 = (wrap64 (t213 + 1))
                        · rw [if_pos c22] at H
                          have c22b0 : (t216 == (wrap64 (t213 + 1))) = true := beq_iff_eq.mpr c22
                          have c22b1 : (t216 != (wrap64 (t213 + 1))) = false := bne_eq_false_iff_eq.mpr c22
                          clear c22
                          by_cases c23 : 0 ≤ t215
                          · rw [if_pos c23] at H
                            have c23b0 : decide (0 ≤ t215) = true := decide_eq_true c23
                            clear c23
                            by_cases c24 : t215 < (a0.size : Int)
                            · rw [if_pos c24] at H
                              have c24b0 : decide (t215 < (a0.size : Int)) = true := decide_eq_true c24
                              clear c24
                              by_cases c26 : (bt a0 t215) = x7_7
                              · rw [if_pos c26] at H
                                have c26b0 : ((bt a0 t215) == x7_7) = true := beq_iff_eq.mpr c26
                                have c26b1 : ((bt a0 t215) != x7_7) = false := bne_eq_false_iff_eq.mpr c26
                                clear c26
                                by_cases c27 : 0 ≤ t213
                                · rw [if_pos c27] at H
                                  have c27b0 : decide (0 ≤ t213) = true := decide_eq_true c27
                                  clear c27
                                  by_cases c28 : t213 < (a0.size : Int)
                                  · rw [if_pos c28] at H
                                    have c28b0 : decide (t213 < (a0.size : Int)) = true := decide_eq_true c28
                                    clear c28
                                    by_cases c30 : (bt a0 t213) = x7_7
                                    · rw [if_pos c30] at H
                                      have c30b0 : ((bt a0 t213) == x7_7) = true := beq_iff_eq.mpr c30
                                      have c30b1 : ((bt a0 t213) != x7_7) = false := bne_eq_false_iff_eq.mpr c30
                                      clear c30
                                      replace H := Option.bind_eq_some_iff.mp H
                                      obtain ⟨t218, A310, H⟩ := H
                                      replace H : (bureaulaw13_ObjectQuotes.j1 kj7 a0 x7_7 t212 t213 (decide (t213 < t218))) = some r := H
                                      have A31 := Aside0.mk A310
                                      clear A310
                                      have H' := Aside0.mk H
                                      clear H
                                      have p25 : 0 ≤ (t215 : Int) := of_decide_eq_true (by first | (with_reducible assumption) | assumption)
                                      have q25 : t215 < (a0.size : Int) := of_decide_eq_true (by first | (with_reducible assumption) | assumption)
                                      have hx25 := bt_at a0 t215
                                      replace p25 := eq_true p25
                                      replace q25 := eq_true q25
                                      have p29 : 0 ≤ (t213 : Int) := of_decide_eq_true (by first | (with_reducible assumption) | assumption)
                                      have q29 : t213 < (a0.size : Int) := of_decide_eq_true (by first | (with_reducible assumption) | assumption)
                                      have hx29 := bt_at a0 t213
                                      replace p29 := eq_true p29
                                      replace q29 := eq_true q29
                                      go_wp2_with (first | (go_at_call 10; (with_reducible refine (bureauref02_Align.calls kj7 a0 a1 t218 _ A31.out ?sideT).mono ?_); (case sideT => first | exact HTABS.out | exact HTABS.out.below (by repeat (first | (with_reducible first | exact HB.out | apply below_alloc | apply pw_below_drewN | apply below_drew1) | exact HB.out)) (Nat.le_refl _) | exact HTABS.out.below (Below.drew (Below.refl _ _)) (Nat.le_refl _)); rintro e w32 ⟨rfl, hb⟩; have n0_ := Aside0.mk (below_step (by repeat (first | (with_reducible first | exact HB.out | apply below_alloc | apply pw_below_drewN | apply below_drew1) | exact HB.out)) hb); clear HB; have HB := n0_; clear n0_; (try clear hb); (try clear hb2); (try clear hk); (try clear hi)))
                                      go_meet
                                      case rel => exact ⟨_, (decide (t213 < t218)), (by first | rfl | (simp; done) | (simp [*]; done)), H', ⟨by have := HJ7.out; first | omega | exact Nat.le_refl _⟩, ⟨by repeat (first | (with_reducible first | exact HB.out | apply below_alloc | apply pw_below_drewN | apply below_drew1) | exact HB.out)⟩⟩
                                    · rw [if_neg c30] at H
                                      have c30b0 : ((bt a0 t213) == x7_7) = false := beq_eq_false_iff_ne.mpr c30
                                      have c30b1 : ((bt a0 t213) != x7_7) = true := bne_iff_ne.mpr c30
                                      have H' := Aside0.mk H
                                      clear H
                                      have p25 : 0 ≤ (t215 : Int) := of_decide_eq_true (by first | (with_reducible assumption) | assumption)
                                      have q25 : t215 < (a0.size : Int) := of_decide_eq_true (by first | (with_reducible assumption) | assumption)
                                      have hx25 := bt_at a0 t215
                                      replace p25 := eq_true p25
                                      replace q25 := eq_true q25
                                      have p29 : 0 ≤ (t213 : Int) := of_decide_eq_true (by first | (with_reducible assumption) | assumption)
                                      have q29 : t213 < (a0.size : Int) := of_decide_eq_true (by first | (with_reducible assumption) | assumption)
                                      have hx29 := bt_at a0 t213
                                      replace p29 := eq_true p29
                                      replace q29 := eq_true q29
                                      go_wp2
                                      go_meet
                                      case rel => exact ⟨_, (true), (by first | rfl | (simp; done) | (simp [*]; done)), H', ⟨by have := HJ7.out; first | omega | exact Nat.le_refl _⟩, ⟨by repeat (first | (with_reducible first | exact HB.out | apply below_alloc | apply pw_below_drewN | apply below_drew1) | exact HB.out)⟩⟩
                                  · rw [if_neg c28] at H
                                    exact absurd H (by simp)
                                · rw [if_neg c27] at H
                                  exact absurd H (by simp)
                              · rw [if_neg c26] at H
                                have c26b0 : ((bt a0 t215) == x7_7) = false := beq_eq_false_iff_ne.mpr c26
                                have c26b1 : ((bt a0 t215) != x7_7) = true := bne_iff_ne.mpr c26
                                have H' := Aside0.mk H
                                clear H
                                have p25 : 0 ≤ (t215 : Int) := of_decide_eq_true (by first | (with_reducible assumption) | assumption)
                                have q25 : t215 < (a0.size : Int) := of_decide_eq_true (by first | (with_reducible assumption) | assumption)
                                have hx25 := bt_at a0 t215
                                replace p25 := eq_true p25
                                replace q25 := eq_true q25
                                go_wp2
                                go_meet
                                case rel => exact ⟨_, (true), (by first | rfl | (simp; done) | (simp [*]; done)), H', ⟨by have := HJ7.out; first | omega | exact Nat.le_refl _⟩, ⟨by repeat (first | (with_reducible first | exact HB.out | apply below_alloc | apply pw_below_drewN | apply below_drew1) | exact HB.out)⟩⟩
                            · rw [if_neg c24] at H
                              exact absurd H (by simp)
                          · rw [if_neg c23] at H
                            exact absurd H (by simp)
                        · rw [if_neg c22] at H
                          have c22b0 : (t216 == (wrap64 (t213 + 1))) = false := beq_eq_false_iff_ne.mpr c22
                          have c22b1 : (t216 != (wrap64 (t213 + 1))) = true := bne_iff_ne.mpr c22
                          have H' := Aside0.mk H
                          clear H
                          go_wp2
                          go_meet
                          case rel => exact ⟨_, (true), (by first | rfl | (simp; done) | (simp [*]; done)), H', ⟨by have := HJ7.out; first | omega | exact Nat.le_refl _⟩, ⟨by repeat (first | (with_reducible first | exact HB.out | apply below_alloc | apply pw_below_drewN | apply below_drew1) | exact HB.out)⟩⟩
                      · rw [if_neg c21] at H
                        have c21b0 : (t215 == (wrap64 (t212 - 1))) = false := beq_eq_false_iff_ne.mpr c21
                        have c21b1 : (t215 != (wrap64 (t212 - 1))) = true := bne_iff_ne.mpr c21
                        have H' := Aside0.mk H
                        clear H
                        go_wp2
                        go_meet
                        case rel => exact ⟨_, (true), (by first | rfl | (simp; done) | (simp [*]; done)), H', ⟨by have := HJ7.out; first | omega | exact Nat.le_refl _⟩, ⟨by repeat (first | (with_reducible first | exact HB.out | apply below_alloc | apply pw_below_drewN | apply below_drew1) | exact HB.out)⟩⟩
              case rest =>
                clear HC15
                try clear c1
                try clear c2
                try clear p2
                try clear q2
                try clear hx2
                try clear c3
                try clear p3
                try clear c5
                try clear c6
                try clear c6b0
                try clear c6b1
                try clear p6
                try clear c7
                try clear c8
                try clear c10
                try clear c13
                try clear c14
                try clear c18
                try clear c18b0
                try clear c19
                try clear c19b0
                try clear c20
                try clear c20b0
                try clear c21
                try clear c21b0
                try clear c21b1
                try clear c22
                try clear c22b0
                try clear c22b1
                try clear c23
                try clear c23b0
                try clear c24
                try clear c24b0
                try clear p25
                try clear q25
                try clear hx25
                try clear c26
                try clear c26b0
                try clear c26b1
                try clear c27
                try clear c27b0
                try clear c28
                try clear c28b0
                try clear p29
                try clear q29
                try clear hx29
                try clear c30
                try clear c30b0
                try clear c30b1
                try clear p32
                try clear p2
                try clear p25
                try clear p29
                try clear q25
                try clear q29
                obtain ⟨kq, x89_14, rfl, HA, HJ14, HB⟩ := hcut
                cases kq with
                | zero => exact absurd HA.out (by simp [bureaulaw13_ObjectQuotes.j1])
                | succ kj14 =>
                  have H := HA.out
                  clear HA
                  simp only [bureaulaw13_ObjectQuotes.j1] at H
                  by_cases c33 : x89_14 = true
                  · subst c33
                    have H1 : (some false) = some r := by rw [if_pos rfl] at H; exact H
                    clear H
                    have H := H1
                    clear H1
                    obtain rfl := Option.some.inj H
                    go_wp2
                    go_ret
                    exact ⟨by first | rfl | (simp [errW_none, errW_some] <;> rfl) | (simp [*, errW_none, errW_some] <;> rfl), by repeat (first | (with_reducible first | exact HB.out | apply below_alloc | apply pw_below_drewN | apply below_drew1) | exact HB.out)⟩
                  · replace c33 := Bool.eq_false_iff.mpr c33
                    subst c33
                    have H1 : (bureaulaw13_ObjectQuotes.l0 kj14 a0 x7_7 t213 t212) = some r := by rw [if_neg (show ¬ (false = true) by decide)] at H; exact H
                    clear H
                    have H := H1
                    clear H1
                    have H' := Aside0.mk H
                    clear H
                    go_wp2
                    go_loopg [14] kj14 (fun kq v14 w' => ∃ (x14_3 : Int), v14 = .int .i64 x14_3 ∧ Aside0 (bureaulaw13_ObjectQuotes.l0 kq a0 x7_7 t213 x14_3 = some r) ∧ Aside0 (kq ≤ kj14) ∧ Aside0 (Below w.heap.size w w'))
                    case atStart => exact ⟨(t212), (by first | rfl | (simp; done) | (simp [*]; done)), H', ⟨Nat.le_refl _⟩, ⟨by repeat (first | (with_reducible first | exact HB.out | apply below_alloc | apply pw_below_drewN | apply below_drew1) | exact HB.out)⟩⟩
                    case round =>
                      clear H'
                      try clear c1
                      try clear c2
                      try clear p2
                      try clear q2
                      try clear hx2
                      try clear c3
                      try clear p3
                      try clear c5
                      try clear c6
                      try clear c6b0
                      try clear c6b1
                      try clear p6
                      try clear c7
                      try clear c8
                      try clear c10
                      try clear c13
                      try clear c14
                      try clear c18
                      try clear c18b0
                      try clear c19
                      try clear c19b0
                      try clear c20
                      try clear c20b0
                      try clear c21
                      try clear c21b0
                      try clear c21b1
                      try clear c22
                      try clear c22b0
                      try clear c22b1
                      try clear c23
                      try clear c23b0
                      try clear c24
                      try clear c24b0
                      try clear p25
                      try clear q25
                      try clear hx25
                      try clear c26
                      try clear c26b0
                      try clear c26b1
                      try clear c27
                      try clear c27b0
                      try clear c28
                      try clear c28b0
                      try clear p29
                      try clear q29
                      try clear hx29
                      try clear c30
                      try clear c30b0
                      try clear c30b1
                      try clear p32
                      try clear c33
                      try clear p2
                      try clear p25
                      try clear p29
                      try clear p3
                      try clear p32
                      try clear p6
                      try clear q2
                      try clear q25
                      try clear q29
                      obtain ⟨x14_3, rfl, HA, HK3, HB⟩ := hrel
                      cases gk with
                      | zero => exact absurd HA.out (by simp [bureaulaw13_ObjectQuotes.l0])
                      | succ k3 =>
                        have H := HA.out
                        clear HA
                        simp only [bureaulaw13_ObjectQuotes.l0] at H
                        by_cases c34 : x14_3 < t213
                        · rw [if_pos c34] at H
                          have c34b0 : decide (x14_3 < t213) = true := decide_eq_true c34
                          clear c34
                          by_cases c35 : 0 ≤ x14_3
                          · rw [if_pos c35] at H
                            have c35b0 : decide (0 ≤ x14_3) = true := decide_eq_true c35
                            clear c35
                            by_cases c36 : x14_3 < (a0.size : Int)
                            · rw [if_pos c36] at H
                              have c36b0 : decide (x14_3 < (a0.size : Int)) = true := decide_eq_true c36
                              clear c36
                              by_cases c38 : (bt a0 x14_3) = x7_7
                              · rw [if_pos c38] at H
                                have c38b0 : ((bt a0 x14_3) == x7_7) = true := beq_iff_eq.mpr c38
                                have c38b1 : ((bt a0 x14_3) != x7_7) = false := bne_eq_false_iff_eq.mpr c38
                                clear c38
                                obtain rfl := Option.some.inj H
                                have p37 : 0 ≤ (x14_3 : Int) := of_decide_eq_true (by first | (with_reducible assumption) | assumption)
                                have q37 : x14_3 < (a0.size : Int) := of_decide_eq_true (by first | (with_reducible assumption) | assumption)
                                have hx37 := bt_at a0 x14_3
                                replace p37 := eq_true p37
                                replace q37 := eq_true q37
                                go_wp2
                                go_ret
                                exact ⟨by first | rfl | (simp [errW_none, errW_some] <;> rfl) | (simp [*, errW_none, errW_some] <;> rfl), by repeat (first | (with_reducible first | exact HB.out | apply below_alloc | apply pw_below_drewN | apply below_drew1) | exact HB.out)⟩
                              · rw [if_neg c38] at H
                                have c38b0 : ((bt a0 x14_3) == x7_7) = false := beq_eq_false_iff_ne.mpr c38
                                have c38b1 : ((bt a0 x14_3) != x7_7) = true := bne_iff_ne.mpr c38
                                by_cases c40 : (bt a0 x14_3) = 10
                                · rw [if_pos c40] at H
                                  have c40b0 : ((bt a0 x14_3) == 10) = true := beq_iff_eq.mpr c40
                                  have c40b1 : ((bt a0 x14_3) != 10) = false := bne_eq_false_iff_eq.mpr c40
                                  clear c40
                                  obtain rfl := Option.some.inj H
                                  have p37 : 0 ≤ (x14_3 : Int) := of_decide_eq_true (by first | (with_reducible assumption) | assumption)
                                  have q37 : x14_3 < (a0.size : Int) := of_decide_eq_true (by first | (with_reducible assumption) | assumption)
                                  have hx37 := bt_at a0 x14_3
                                  replace p37 := eq_true p37
                                  replace q37 := eq_true q37
                                  have p39 : 0 ≤ (x14_3 : Int) := of_decide_eq_true (by first | (with_reducible assumption) | assumption)
                                  have q39 : x14_3 < (a0.size : Int) := of_decide_eq_true (by first | (with_reducible assumption) | assumption)
                                  have hx39 := bt_at a0 x14_3
                                  replace p39 := eq_true p39
                                  replace q39 := eq_true q39
                                  go_wp2
                                  go_ret
                                  exact ⟨by first | rfl | (simp [errW_none, errW_some] <;> rfl) | (simp [*, errW_none, errW_some] <;> rfl), by repeat (first | (with_reducible first | exact HB.out | apply below_alloc | apply pw_below_drewN | apply below_drew1) | exact HB.out)⟩
                                · rw [if_neg c40] at H
                                  have c40b0 : ((bt a0 x14_3) == 10) = false := beq_eq_false_iff_ne.mpr c40
                                  have c40b1 : ((bt a0 x14_3) != 10) = true := bne_iff_ne.mpr c40
                                  have H' := Aside0.mk H
                                  clear H
                                  have p37 : 0 ≤ (x14_3 : Int) := of_decide_eq_true (by first | (with_reducible assumption) | assumption)
                                  have q37 : x14_3 < (a0.size : Int) := of_decide_eq_true (by first | (with_reducible assumption) | assumption)
                                  have hx37 := bt_at a0 x14_3
                                  replace p37 := eq_true p37
                                  replace q37 := eq_true q37
                                  have p39 : 0 ≤ (x14_3 : Int) := of_decide_eq_true (by first | (with_reducible assumption) | assumption)
                                  have q39 : x14_3 < (a0.size : Int) := of_decide_eq_true (by first | (with_reducible assumption) | assumption)
                                  have hx39 := bt_at a0 x14_3
                                  replace p39 := eq_true p39
                                  replace q39 := eq_true q39
                                  go_wp2
                                  go_roundg k3
                                  case measure => have := HJ7.out; have := HJ14.out; have := HK3.out; omega
                                  case rel => exact ⟨(wrap64 (x14_3 + 1)), (by first | rfl | (simp; done) | (simp [*]; done)), H', ⟨by have := HJ7.out; have := HJ14.out; have := HK3.out; omega⟩, ⟨by repeat (first | (with_reducible first | exact HB.out | apply below_alloc | apply pw_below_drewN | apply below_drew1) | exact HB.out)⟩⟩
                            · rw [if_neg c36] at H
                              exact absurd H (by simp)
                          · rw [if_neg c35] at H
                            exact absurd H (by simp)
                        · rw [if_neg c34] at H
                          have c34b0 : decide (x14_3 < t213) = false := decide_eq_false c34
                          clear c34
                          obtain rfl := Option.some.inj H
                          go_wp2
                          go_ret
                          exact ⟨by first | rfl | (simp [errW_none, errW_some] <;> rfl) | (simp [*, errW_none, errW_some] <;> rfl), by repeat (first | (with_reducible first | exact HB.out | apply below_alloc | apply pw_below_drewN | apply below_drew1) | exact HB.out)⟩
            · replace c14 := Bool.eq_false_iff.mpr c14
              subst c14
              have H1 : (some false) = some r := by rw [if_neg (show ¬ (false = true) by decide)] at H; exact H
              clear H
              have H := H1
              clear H1
              obtain rfl := Option.some.inj H
              go_wp2_with (first | ((with_reducible refine gate_callee (f := 8) rfl ?_); refine goesL_ (some 26) rfl rfl Tryd.func8 (by kernel_rfl) rfl #[.string a0, .int .i64 a1, .bool false, .int .i32 (wrap32 (x7_7))] rfl (by (try simp only [List.map_toArray, List.map_cons, List.map_nil]); first | done | rfl | (simp only [List.length_drop, List.length_take]; rfl)) ?_; (with_reducible refine (object_Find.calls kj7 a0 a1 false (wrap32 (x7_7)) t212 t213 true _ A11.out ?sideT).mono ?_); (case sideT => first | exact HTABS.out | exact HTABS.out.below (by repeat (first | (with_reducible first | exact HB.out | apply below_alloc | apply pw_below_drewN | apply below_drew1) | exact HB.out)) (Nat.le_refl _) | exact HTABS.out.below (Below.drew (Below.refl _ _)) (Nat.le_refl _)); rintro e w41 ⟨rfl, hb⟩; refine ⟨_, rfl, ?_⟩; have n0_ := Aside0.mk (below_step (by repeat (first | (with_reducible first | exact HB.out | apply below_alloc | apply pw_below_drewN | apply below_drew1) | exact HB.out)) hb); clear HB; have HB := n0_; clear n0_; (try clear hb); (try clear hb2); (try clear hk); (try clear hi)) | ((with_reducible refine gate_callee (f := 8) rfl ?_); refine goesL_ (some 35) rfl rfl Tryd.func8 (by kernel_rfl) rfl #[.string a0, .int .i64 a1, .bool true, .int .i32 (wrap32 (x7_7))] rfl (by (try simp only [List.map_toArray, List.map_cons, List.map_nil]); first | done | rfl | (simp only [List.length_drop, List.length_take]; rfl)) ?_; (with_reducible refine (object_Find.calls kj7 a0 a1 true (wrap32 (x7_7)) t215 t216 false _ A12.out ?sideT).mono ?_); (case sideT => first | exact HTABS.out | exact HTABS.out.below (by repeat (first | (with_reducible first | exact HB.out | apply below_alloc | apply pw_below_drewN | apply below_drew1) | exact HB.out)) (Nat.le_refl _) | exact HTABS.out.below (Below.drew (Below.refl _ _)) (Nat.le_refl _)); rintro e w42 ⟨rfl, hb⟩; refine ⟨_, rfl, ?_⟩; have n0_ := Aside0.mk (below_step (by repeat (first | (with_reducible first | exact HB.out | apply below_alloc | apply pw_below_drewN | apply below_drew1) | exact HB.out)) hb); clear HB; have HB := n0_; clear n0_; (try clear hb); (try clear hb2); (try clear hk); (try clear hi)))
              go_ret
              exact ⟨by first | rfl | (simp [errW_none, errW_some] <;> rfl) | (simp [*, errW_none, errW_some] <;> rfl), by repeat (first | (with_reducible first | exact HB.out | apply below_alloc | apply pw_below_drewN | apply below_drew1) | exact HB.out)⟩
          · replace c13 := Bool.eq_false_iff.mpr c13
            subst c13
            have H1 : (if t217 = true then (some false) else (some true)) = some r := by rw [if_neg (show ¬ (false = true) by decide)] at H; exact H
            clear H
            have H := H1
            clear H1
            by_cases c43 : t217 = true
            · subst c43
              have H1 : (some false) = some r := by rw [if_pos rfl] at H; exact H
              clear H
              have H := H1
              clear H1
              obtain rfl := Option.some.inj H
              go_wp2_with (first | ((with_reducible refine gate_callee (f := 8) rfl ?_); refine goesL_ (some 26) rfl rfl Tryd.func8 (by kernel_rfl) rfl #[.string a0, .int .i64 a1, .bool false, .int .i32 (wrap32 (x7_7))] rfl (by (try simp only [List.map_toArray, List.map_cons, List.map_nil]); first | done | rfl | (simp only [List.length_drop, List.length_take]; rfl)) ?_; (with_reducible refine (object_Find.calls kj7 a0 a1 false (wrap32 (x7_7)) t212 t213 false _ A11.out ?sideT).mono ?_); (case sideT => first | exact HTABS.out | exact HTABS.out.below (by repeat (first | (with_reducible first | exact HB.out | apply below_alloc | apply pw_below_drewN | apply below_drew1) | exact HB.out)) (Nat.le_refl _) | exact HTABS.out.below (Below.drew (Below.refl _ _)) (Nat.le_refl _)); rintro e w44 ⟨rfl, hb⟩; refine ⟨_, rfl, ?_⟩; have n0_ := Aside0.mk (below_step (by repeat (first | (with_reducible first | exact HB.out | apply below_alloc | apply pw_below_drewN | apply below_drew1) | exact HB.out)) hb); clear HB; have HB := n0_; clear n0_; (try clear hb); (try clear hb2); (try clear hk); (try clear hi)) | ((with_reducible refine gate_callee (f := 8) rfl ?_); refine goesL_ (some 35) rfl rfl Tryd.func8 (by kernel_rfl) rfl #[.string a0, .int .i64 a1, .bool true, .int .i32 (wrap32 (x7_7))] rfl (by (try simp only [List.map_toArray, List.map_cons, List.map_nil]); first | done | rfl | (simp only [List.length_drop, List.length_take]; rfl)) ?_; (with_reducible refine (object_Find.calls kj7 a0 a1 true (wrap32 (x7_7)) t215 t216 true _ A12.out ?sideT).mono ?_); (case sideT => first | exact HTABS.out | exact HTABS.out.below (by repeat (first | (with_reducible first | exact HB.out | apply below_alloc | apply pw_below_drewN | apply below_drew1) | exact HB.out)) (Nat.le_refl _) | exact HTABS.out.below (Below.drew (Below.refl _ _)) (Nat.le_refl _)); rintro e w45 ⟨rfl, hb⟩; refine ⟨_, rfl, ?_⟩; have n0_ := Aside0.mk (below_step (by repeat (first | (with_reducible first | exact HB.out | apply below_alloc | apply pw_below_drewN | apply below_drew1) | exact HB.out)) hb); clear HB; have HB := n0_; clear n0_; (try clear hb); (try clear hb2); (try clear hk); (try clear hi)))
              go_ret
              exact ⟨by first | rfl | (simp [errW_none, errW_some] <;> rfl) | (simp [*, errW_none, errW_some] <;> rfl), by repeat (first | (with_reducible first | exact HB.out | apply below_alloc | apply pw_below_drewN | apply below_drew1) | exact HB.out)⟩
            · replace c43 := Bool.eq_false_iff.mpr c43
              subst c43
              have H1 : (some true) = some r := by rw [if_neg (show ¬ (false = true) by decide)] at H; exact H
              clear H
              have H := H1
              clear H1
              obtain rfl := Option.some.inj H
              go_wp2_with (first | ((with_reducible refine gate_callee (f := 8) rfl ?_); refine goesL_ (some 26) rfl rfl Tryd.func8 (by kernel_rfl) rfl #[.string a0, .int .i64 a1, .bool false, .int .i32 (wrap32 (x7_7))] rfl (by (try simp only [List.map_toArray, List.map_cons, List.map_nil]); first | done | rfl | (simp only [List.length_drop, List.length_take]; rfl)) ?_; (with_reducible refine (object_Find.calls kj7 a0 a1 false (wrap32 (x7_7)) t212 t213 false _ A11.out ?sideT).mono ?_); (case sideT => first | exact HTABS.out | exact HTABS.out.below (by repeat (first | (with_reducible first | exact HB.out | apply below_alloc | apply pw_below_drewN | apply below_drew1) | exact HB.out)) (Nat.le_refl _) | exact HTABS.out.below (Below.drew (Below.refl _ _)) (Nat.le_refl _)); rintro e w46 ⟨rfl, hb⟩; refine ⟨_, rfl, ?_⟩; have n0_ := Aside0.mk (below_step (by repeat (first | (with_reducible first | exact HB.out | apply below_alloc | apply pw_below_drewN | apply below_drew1) | exact HB.out)) hb); clear HB; have HB := n0_; clear n0_; (try clear hb); (try clear hb2); (try clear hk); (try clear hi)) | ((with_reducible refine gate_callee (f := 8) rfl ?_); refine goesL_ (some 35) rfl rfl Tryd.func8 (by kernel_rfl) rfl #[.string a0, .int .i64 a1, .bool true, .int .i32 (wrap32 (x7_7))] rfl (by (try simp only [List.map_toArray, List.map_cons, List.map_nil]); first | done | rfl | (simp only [List.length_drop, List.length_take]; rfl)) ?_; (with_reducible refine (object_Find.calls kj7 a0 a1 true (wrap32 (x7_7)) t215 t216 false _ A12.out ?sideT).mono ?_); (case sideT => first | exact HTABS.out | exact HTABS.out.below (by repeat (first | (with_reducible first | exact HB.out | apply below_alloc | apply pw_below_drewN | apply below_drew1) | exact HB.out)) (Nat.le_refl _) | exact HTABS.out.below (Below.drew (Below.refl _ _)) (Nat.le_refl _)); rintro e w47 ⟨rfl, hb⟩; refine ⟨_, rfl, ?_⟩; have n0_ := Aside0.mk (below_step (by repeat (first | (with_reducible first | exact HB.out | apply below_alloc | apply pw_below_drewN | apply below_drew1) | exact HB.out)) hb); clear HB; have HB := n0_; clear n0_; (try clear hb); (try clear hb2); (try clear hk); (try clear hi)))
              go_ret
              exact ⟨by first | rfl | (simp [errW_none, errW_some] <;> rfl) | (simp [*, errW_none, errW_some] <;> rfl), by repeat (first | (with_reducible first | exact HB.out | apply below_alloc | apply pw_below_drewN | apply below_drew1) | exact HB.out)⟩
  · replace c5 := Bool.eq_false_iff.mpr c5
    subst c5
    have H1 : (some false) = some r := by rw [if_neg (show ¬ (false = true) by decide)] at H; exact H
    clear H
    have H := H1
    clear H1
    obtain rfl := Option.some.inj H
    go_enter Tryd.func6, Tryd.ntmps6
    go_wp2_with (first | ((with_reducible refine gate_callee (f := 7) rfl ?_); refine goesL_ (some 15) rfl rfl Tryd.func7 (by kernel_rfl) rfl #[] rfl (by (try simp only [List.map_toArray, List.map_cons, List.map_nil]); first | done | rfl | (simp only [List.length_drop, List.length_take]; rfl)) ?_; (with_reducible refine (bureaulaw13_alive.calls k  false _ A4.out ?sideT).mono ?_); (case sideT => first | exact HTABS.out | exact HTABS.out.below (by repeat (first | (with_reducible first | exact HB.out | apply below_alloc | apply pw_below_drewN | apply below_drew1) | exact HB.out)) (Nat.le_refl _) | exact HTABS.out.below (Below.drew (Below.refl _ _)) (Nat.le_refl _)); rintro e w48 ⟨rfl, hb⟩; refine ⟨_, rfl, ?_⟩; have n0_ := Aside0.mk (below_step (by repeat (first | (with_reducible first | exact HB.out | apply below_alloc | apply pw_below_drewN | apply below_drew1) | exact HB.out)) hb); clear HB; have HB := n0_; clear n0_; (try clear hb); (try clear hb2); (try clear hk); (try clear hi)))
    go_ret
    exact ⟨by first | rfl | (simp [errW_none, errW_some] <;> rfl) | (simp [*, errW_none, errW_some] <;> rfl), by repeat (first | (with_reducible first | exact HB.out | apply below_alloc | apply pw_below_drewN | apply below_drew1) | exact HB.out)⟩

/-- What is to be proved of bureaulaw13_ObjectQuotes: no program in it. -/
def bureaulaw13_ObjectQuotes.Pure : Prop := ∀ (a0 : ByteArray) (a1 : Int) (a2 : Bool), a0.size ≤ maxLen → (Lit.int .i64 a1).wf = true → ∃ k, bureaulaw13_ObjectQuotes.f k a0 a1 a2 = some true

end Go.Proofs.YtcinobfflfkmjaaDoor.XObjectQuotes
