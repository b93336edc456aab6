-- Written by this session's program (wip/xprint.py) with the kit's print, for this claim.
import Derived.Test.YtcinobfflfkmjaaDoorXObjectFindsx0
import Derived.Test.YtcinobfflfkmjaaDoorXObjectFindsx1
import Derived.Test.YtcinobfflfkmjaaDoorXObjectFindsx2
import Derived.Test.YtcinobfflfkmjaaDoorXObjectFindsx3
namespace Go.Proofs.YtcinobfflfkmjaaDoor.XObjectFinds
open Go.RowKit Go.Proofs.YtcinobfflfkmjaaDoorW.PrintWords Go.Proofs.YtcinobfflfkmjaaDoorW.PrintLast Go.Proofs.YtcinobfflfkmjaaDoorW.PrintMore Go.Proofs.YtcinobfflfkmjaaDoor.Ext
attribute [local go_sem] max2_int min2_int max_two min_two max_three min_three max_four min_four   -- for this text's walks alone
set_option linter.unusedVariables false
set_option linter.unusedSimpArgs false

/-! ### object_Find: function 8 -/
mutual
def object_Find.j3 : Nat → Bool → Int → Int → Bool → Option (Int × Int × Bool)
  | 0, _, _, _, _ => none
  | k + 1, x2, x11, x12, x13 => if x13 = true then (if x2 = true then (some (x11, wrap64 (x12 + 1), true)) else (some (wrap64 (x11 + 1), x12, true))) else (some (0, 0, false))
def object_Find.j0 : Nat → ByteArray → Int → Bool → Int → Int → Int → Bool → Int → Bool → Option (Int × Int × Bool)
  | 0, _, _, _, _, _, _, _, _, _ => none
  | k + 1, x0, x1, x2, x3, x11, x12, x13, x21, x33 => if x33 = true then ((object_brackets.f k x0 x1 40 41).bind fun bt155 => (object_Find.j3 k x2 bt155.1 bt155.2.1 bt155.2.2)) else (if x21 = 91 then (object_Find.j1 k x0 x1 x2 x3 x11 x12 x13 x21 (x21 == 91)) else (object_Find.j1 k x0 x1 x2 x3 x11 x12 x13 x21 (x21 == 93)))
def object_Find.j1 : Nat → ByteArray → Int → Bool → Int → Int → Int → Bool → Int → Bool → Option (Int × Int × Bool)
  | 0, _, _, _, _, _, _, _, _, _ => none
  | k + 1, x0, x1, x2, x3, x11, x12, x13, x21, x44 => if x44 = true then ((object_brackets.f k x0 x1 91 93).bind fun bt158 => (object_Find.j3 k x2 bt158.1 bt158.2.1 bt158.2.2)) else (if x21 = 123 then (object_Find.j2 k x0 x1 x2 x3 x11 x12 x13 x21 (x21 == 123)) else (if x21 = 125 then (object_Find.j2 k x0 x1 x2 x3 x11 x12 x13 x21 (x21 == 125)) else (object_Find.j2 k x0 x1 x2 x3 x11 x12 x13 x21 (x21 == 66))))
def object_Find.j2 : Nat → ByteArray → Int → Bool → Int → Int → Int → Bool → Int → Bool → Option (Int × Int × Bool)
  | 0, _, _, _, _, _, _, _, _, _ => none
  | k + 1, x0, x1, x2, x3, x11, x12, x13, x21, x54 => if x54 = true then ((object_brackets.f k x0 x1 123 125).bind fun bt161 => (object_Find.j3 k x2 bt161.1 bt161.2.1 bt161.2.2)) else (if x21 = 34 then ((object_quotes.f k x0 x1 ((x3) % 256)).bind fun bt164 => (object_Find.j3 k x2 bt164.1 bt164.2.1 bt164.2.2)) else (if x21 = 39 then ((object_quotes.f k x0 x1 ((x3) % 256)).bind fun bt167 => (object_Find.j3 k x2 bt167.1 bt167.2.1 bt167.2.2)) else (object_Find.j3 k x2 x11 x12 x13)))
end
def object_Find.f (k : Nat) (a0 : ByteArray) (a1 : Int) (a2 : Bool) (a3 : Int) : Option (Int × Int × Bool) := (glyph_Align.f k a0 a1).bind fun t152 => (if t152 = (a0.size : Int) then (some (0, 0, false)) else (if a3 = 119 then ((object_word.f k a0 t152 a2).bind fun bt153 => (some (bt153.1, bt153.2, true))) else (if a3 = 40 then (object_Find.j0 k a0 t152 a2 a3 0 0 false a3 (a3 == 40)) else (if a3 = 41 then (object_Find.j0 k a0 t152 a2 a3 0 0 false a3 (a3 == 41)) else (object_Find.j0 k a0 t152 a2 a3 0 0 false a3 (a3 == 98))))))
theorem object_Find.mono_l : ∀ k, (∀ y0 y1 y2 y3, LeO (object_Find.j3 k y0 y1 y2 y3) (object_Find.j3 (k + 1) y0 y1 y2 y3)) ∧ (∀ y0 y1 y2 y3 y4 y5 y6 y7 y8, LeO (object_Find.j0 k y0 y1 y2 y3 y4 y5 y6 y7 y8) (object_Find.j0 (k + 1) y0 y1 y2 y3 y4 y5 y6 y7 y8)) ∧ (∀ y0 y1 y2 y3 y4 y5 y6 y7 y8, LeO (object_Find.j1 k y0 y1 y2 y3 y4 y5 y6 y7 y8) (object_Find.j1 (k + 1) y0 y1 y2 y3 y4 y5 y6 y7 y8)) ∧ (∀ y0 y1 y2 y3 y4 y5 y6 y7 y8, LeO (object_Find.j2 k y0 y1 y2 y3 y4 y5 y6 y7 y8) (object_Find.j2 (k + 1) y0 y1 y2 y3 y4 y5 y6 y7 y8))
  | 0 => ⟨fun _ _ _ _ r h => by simp [object_Find.j3] at h, fun _ _ _ _ _ _ _ _ _ r h => by simp [object_Find.j0] at h, fun _ _ _ _ _ _ _ _ _ r h => by simp [object_Find.j1] at h, fun _ _ _ _ _ _ _ _ _ r h => by simp [object_Find.j2] at h⟩
  | k + 1 => by
    obtain ⟨ih0, ih1, ih2, ih3⟩ := object_Find.mono_l k
    refine ⟨?_, ?_, ?_, ?_⟩
    · intro y0 y1 y2 y3
      unfold object_Find.j3
      repeat' first
      | (with_reducible exact ih0 _ _ _ _)
      | (with_reducible exact ih1 _ _ _ _ _ _ _ _ _)
      | (with_reducible exact ih2 _ _ _ _ _ _ _ _ _)
      | (with_reducible exact ih3 _ _ _ _ _ _ _ _ _)
      | (with_reducible exact glyph_Align.mono _ _ _)
      | (with_reducible exact object_brackets.mono _ _ _ _ _)
      | (with_reducible exact object_quotes.mono _ _ _ _)
      | (with_reducible exact object_word.mono _ _ _ _)
      | (with_reducible exact LeO.refl _)
      | (with_reducible exact LeO.none _)
      | (with_reducible refine LeO.ite ?_ ?_)
      | (with_reducible refine LeO.bind ?_ (fun _ => ?_))
      | exact ih0 _ _ _ _
      | exact ih1 _ _ _ _ _ _ _ _ _
      | exact ih2 _ _ _ _ _ _ _ _ _
      | exact ih3 _ _ _ _ _ _ _ _ _
      | exact glyph_Align.mono _ _ _
      | exact object_brackets.mono _ _ _ _ _
      | exact object_quotes.mono _ _ _ _
      | exact object_word.mono _ _ _ _
      | exact LeO.none _
      | refine LeO.ite ?_ ?_
      | refine LeO.bind ?_ (fun _ => ?_)
    · intro y0 y1 y2 y3 y4 y5 y6 y7 y8
      unfold object_Find.j0
      repeat' first
      | (with_reducible exact ih0 _ _ _ _)
      | (with_reducible exact ih1 _ _ _ _ _ _ _ _ _)
      | (with_reducible exact ih2 _ _ _ _ _ _ _ _ _)
      | (with_reducible exact ih3 _ _ _ _ _ _ _ _ _)
      | (with_reducible exact glyph_Align.mono _ _ _)
      | (with_reducible exact object_brackets.mono _ _ _ _ _)
      | (with_reducible exact object_quotes.mono _ _ _ _)
      | (with_reducible exact object_word.mono _ _ _ _)
      | (with_reducible exact LeO.refl _)
      | (with_reducible exact LeO.none _)
      | (with_reducible refine LeO.ite ?_ ?_)
      | (with_reducible refine LeO.bind ?_ (fun _ => ?_))
      | exact ih0 _ _ _ _
      | exact ih1 _ _ _ _ _ _ _ _ _
      | exact ih2 _ _ _ _ _ _ _ _ _
      | exact ih3 _ _ _ _ _ _ _ _ _
      | exact glyph_Align.mono _ _ _
      | exact object_brackets.mono _ _ _ _ _
      | exact object_quotes.mono _ _ _ _
      | exact object_word.mono _ _ _ _
      | exact LeO.none _
      | refine LeO.ite ?_ ?_
      | refine LeO.bind ?_ (fun _ => ?_)
    · intro y0 y1 y2 y3 y4 y5 y6 y7 y8
      unfold object_Find.j1
      repeat' first
      | (with_reducible exact ih0 _ _ _ _)
      | (with_reducible exact ih1 _ _ _ _ _ _ _ _ _)
      | (with_reducible exact ih2 _ _ _ _ _ _ _ _ _)
      | (with_reducible exact ih3 _ _ _ _ _ _ _ _ _)
      | (with_reducible exact glyph_Align.mono _ _ _)
      | (with_reducible exact object_brackets.mono _ _ _ _ _)
      | (with_reducible exact object_quotes.mono _ _ _ _)
      | (with_reducible exact object_word.mono _ _ _ _)
      | (with_reducible exact LeO.refl _)
      | (with_reducible exact LeO.none _)
      | (with_reducible refine LeO.ite ?_ ?_)
      | (with_reducible refine LeO.bind ?_ (fun _ => ?_))
      | exact ih0 _ _ _ _
      | exact ih1 _ _ _ _ _ _ _ _ _
      | exact ih2 _ _ _ _ _ _ _ _ _
      | exact ih3 _ _ _ _ _ _ _ _ _
      | exact glyph_Align.mono _ _ _
      | exact object_brackets.mono _ _ _ _ _
      | exact object_quotes.mono _ _ _ _
      | exact object_word.mono _ _ _ _
      | exact LeO.none _
      | refine LeO.ite ?_ ?_
      | refine LeO.bind ?_ (fun _ => ?_)
    · intro y0 y1 y2 y3 y4 y5 y6 y7 y8
      unfold object_Find.j2
      repeat' first
      | (with_reducible exact ih0 _ _ _ _)
      | (with_reducible exact ih1 _ _ _ _ _ _ _ _ _)
      | (with_reducible exact ih2 _ _ _ _ _ _ _ _ _)
      | (with_reducible exact ih3 _ _ _ _ _ _ _ _ _)
      | (with_reducible exact glyph_Align.mono _ _ _)
      | (with_reducible exact object_brackets.mono _ _ _ _ _)
      | (with_reducible exact object_quotes.mono _ _ _ _)
      | (with_reducible exact object_word.mono _ _ _ _)
      | (with_reducible exact LeO.refl _)
      | (with_reducible exact LeO.none _)
      | (with_reducible refine LeO.ite ?_ ?_)
      | (with_reducible refine LeO.bind ?_ (fun _ => ?_))
      | exact ih0 _ _ _ _
      | exact ih1 _ _ _ _ _ _ _ _ _
      | exact ih2 _ _ _ _ _ _ _ _ _
      | exact ih3 _ _ _ _ _ _ _ _ _
      | exact glyph_Align.mono _ _ _
      | exact object_brackets.mono _ _ _ _ _
      | exact object_quotes.mono _ _ _ _
      | exact object_word.mono _ _ _ _
      | exact LeO.none _
      | refine LeO.ite ?_ ?_
      | refine LeO.bind ?_ (fun _ => ?_)
theorem object_Find.mono : ∀ a0 a1 a2 a3 k, LeO (object_Find.f k a0 a1 a2 a3) (object_Find.f (k + 1) a0 a1 a2 a3) := by
  intro a0 a1 a2 a3 k
  obtain ⟨ih0, ih1, ih2, ih3⟩ := object_Find.mono_l k
  unfold object_Find.f
  repeat' first
      | (with_reducible exact ih0 _ _ _ _)
      | (with_reducible exact ih1 _ _ _ _ _ _ _ _ _)
      | (with_reducible exact ih2 _ _ _ _ _ _ _ _ _)
      | (with_reducible exact ih3 _ _ _ _ _ _ _ _ _)
      | (with_reducible exact glyph_Align.mono _ _ _)
      | (with_reducible exact object_brackets.mono _ _ _ _ _)
      | (with_reducible exact object_quotes.mono _ _ _ _)
      | (with_reducible exact object_word.mono _ _ _ _)
      | (with_reducible exact LeO.refl _)
      | (with_reducible exact LeO.none _)
      | (with_reducible refine LeO.ite ?_ ?_)
      | (with_reducible refine LeO.bind ?_ (fun _ => ?_))
      | exact ih0 _ _ _ _
      | exact ih1 _ _ _ _ _ _ _ _ _
      | exact ih2 _ _ _ _ _ _ _ _ _
      | exact ih3 _ _ _ _ _ _ _ _ _
      | exact glyph_Align.mono _ _ _
      | exact object_brackets.mono _ _ _ _ _
      | exact object_quotes.mono _ _ _ _
      | exact object_word.mono _ _ _ _
      | exact LeO.none _
      | refine LeO.ite ?_ ?_
      | refine LeO.bind ?_ (fun _ => ?_)
set_option maxHeartbeats 8000000 in
set_option maxRecDepth 100000 in
theorem object_Find.calls (k : Nat) (a0 : ByteArray) (a1 : Int) (a2 : Bool) (a3 : Int) (r1 : Int) (r2 : Int) (r3 : Bool) (w : World) (h : object_Find.f k a0 a1 a2 a3 = some (r1, r2, r3)) (hTabs : Tabs w) :
    Calls Tryd.prog 8 #[.string a0, .int .i64 a1, .bool a2, .int .i32 a3] w fun e w' => e = .returned (.tuple #[.int .i64 r1, .int .i64 r2, .bool r3]) ∧ Below w.heap.size w w' := by
  have HTABS := Aside0.mk hTabs
  clear hTabs
  have HB := Aside0.mk (Below.refl w.heap.size w)
  have H : ((glyph_Align.f k a0 a1).bind fun t152 => (if t152 = (a0.size : Int) then (some (0, 0, false)) else (if a3 = 119 then ((object_word.f k a0 t152 a2).bind fun bt153 => (some (bt153.1, bt153.2, true))) else (if a3 = 40 then (object_Find.j0 k a0 t152 a2 a3 0 0 false a3 (a3 == 40)) else (if a3 = 41 then (object_Find.j0 k a0 t152 a2 a3 0 0 false a3 (a3 == 41)) else (object_Find.j0 k a0 t152 a2 a3 0 0 false a3 (a3 == 98))))))) = some (r1, r2, r3) := h
  clear h
  replace H := Option.bind_eq_some_iff.mp H
  obtain ⟨t152, A50, H⟩ := H
  replace H : (if t152 = (a0.size : Int) then (some (0, 0, false)) else (if a3 = 119 then ((object_word.f k a0 t152 a2).bind fun bt153 => (some (bt153.1, bt153.2, true))) else (if a3 = 40 then (object_Find.j0 k a0 t152 a2 a3 0 0 false a3 (a3 == 40)) else (if a3 = 41 then (object_Find.j0 k a0 t152 a2 a3 0 0 false a3 (a3 == 41)) else (object_Find.j0 k a0 t152 a2 a3 0 0 false a3 (a3 == 98)))))) = some (r1, r2, r3) := H
  have A5 := Aside0.mk A50
  clear A50
  by_cases c6 : t152 = (a0.size : Int)
  · rw [if_pos c6] at H
    have c6b0 : (t152 == (a0.size : Int)) = true := beq_iff_eq.mpr c6
    have c6b1 : (t152 != (a0.size : Int)) = false := bne_eq_false_iff_eq.mpr c6
    clear c6
    simp only [Option.some.injEq, Prod.mk.injEq] at H
    obtain ⟨rfl, rfl, rfl⟩ := H
    go_enter Tryd.func8, Tryd.ntmps8
    go_wp2_with (first | ((with_reducible refine gate_callee (f := 14) rfl ?_); refine goesL_ (some 16) rfl rfl Tryd.func14 (by kernel_rfl) rfl #[.string a0, .int .i64 a1] rfl (by (try simp only [List.map_toArray, List.map_cons, List.map_nil]); first | done | rfl | (simp only [List.length_drop, List.length_take]; rfl)) ?_; (with_reducible refine (glyph_Align.calls k a0 a1 t152 _ A5.out ?sideT).mono ?_); (case sideT => first | exact HTABS.out | exact HTABS.out.below (by repeat (first | (with_reducible first | exact HB.out | apply below_alloc | apply pw_below_drewN | apply below_drew1) | exact HB.out)) (Nat.le_refl _) | exact HTABS.out.below (Below.drew (Below.refl _ _)) (Nat.le_refl _)); rintro e w7 ⟨rfl, hb⟩; refine ⟨_, rfl, ?_⟩; have n0_ := Aside0.mk (below_step (by repeat (first | (with_reducible first | exact HB.out | apply below_alloc | apply pw_below_drewN | apply below_drew1) | exact HB.out)) hb); clear HB; have HB := n0_; clear n0_; (try clear hb); (try clear hb2); (try clear hk); (try clear hi)))
    go_ret3
    exact ⟨by first | rfl | (simp [errW_none, errW_some] <;> rfl) | (simp [*, errW_none, errW_some] <;> rfl), by repeat (first | (with_reducible first | exact HB.out | apply below_alloc | apply pw_below_drewN | apply below_drew1) | exact HB.out)⟩
  · rw [if_neg c6] at H
    have c6b0 : (t152 == (a0.size : Int)) = false := beq_eq_false_iff_ne.mpr c6
    have c6b1 : (t152 != (a0.size : Int)) = true := bne_iff_ne.mpr c6
    have HC8 := Aside0.mk H
    clear H
    go_enter Tryd.func8, Tryd.ntmps8
    go_upto_block 0 with (first | ((with_reducible refine gate_callee (f := 14) rfl ?_); refine goesL_ (some 16) rfl rfl Tryd.func14 (by kernel_rfl) rfl #[.string a0, .int .i64 a1] rfl (by (try simp only [List.map_toArray, List.map_cons, List.map_nil]); first | done | rfl | (simp only [List.length_drop, List.length_take]; rfl)) ?_; (with_reducible refine (glyph_Align.calls k a0 a1 t152 _ A5.out ?sideT).mono ?_); (case sideT => first | exact HTABS.out | exact HTABS.out.below (by repeat (first | (with_reducible first | exact HB.out | apply below_alloc | apply pw_below_drewN | apply below_drew1) | exact HB.out)) (Nat.le_refl _) | exact HTABS.out.below (Below.drew (Below.refl _ _)) (Nat.le_refl _)); rintro e w9 ⟨rfl, hb⟩; refine ⟨_, rfl, ?_⟩; have n0_ := Aside0.mk (below_step (by repeat (first | (with_reducible first | exact HB.out | apply below_alloc | apply pw_below_drewN | apply below_drew1) | exact HB.out)) hb); clear HB; have HB := n0_; clear n0_; (try clear hb); (try clear hb2); (try clear hk); (try clear hi)))
    (try simp only [Act.put, List.setIfInBounds_toArray, List.set_cons_zero, List.set_cons_succ])
    go_cut [11, 12, 13] (fun v11 v12 v13 wc => ∃ (kq : Nat) (x11_7 : Int) (x12_7 : Int) (x13_7 : Bool), v11 = .int .i64 x11_7 ∧ v12 = .int .i64 x12_7 ∧ v13 = .bool x13_7 ∧ Aside0 (object_Find.j3 kq a2 x11_7 x12_7 x13_7 = some (r1, r2, r3)) ∧ Aside0 (kq ≤ k) ∧ Aside0 (Below w.heap.size w wc))
    case first =>
      have H := HC8.out
      clear HC8
      by_cases c10 : a3 = 119
      · rw [if_pos c10] at H
        have c10b0 : (a3 == 119) = true := beq_iff_eq.mpr c10
        have c10b1 : (a3 != 119) = false := bne_eq_false_iff_eq.mpr c10
        clear c10
        (first | rw [c10b0] | (simp only [i64_w, i32_w]; rw [c10b0]) | skip)
        replace H := Option.bind_eq_some_iff.mp H
        obtain ⟨⟨t153, t154⟩, A110, H⟩ := H
        replace H : (some (t153, t154, true)) = some (r1, r2, r3) := H
        have A11 := Aside0.mk A110
        clear A110
        simp only [Option.some.injEq, Prod.mk.injEq] at H
        obtain ⟨rfl, rfl, rfl⟩ := H
        go_wp2_with (first | ((with_reducible refine gate_callee (f := 15) rfl ?_); refine goesL_ (some 28) rfl rfl Tryd.func15 (by kernel_rfl) rfl #[.string a0, .int .i64 t152, .bool a2] rfl (by (try simp only [List.map_toArray, List.map_cons, List.map_nil]); first | done | rfl | (simp only [List.length_drop, List.length_take]; rfl)) ?_; (with_reducible refine (object_word.calls k a0 t152 a2 t153 t154 _ A11.out ?sideT).mono ?_); (case sideT => first | exact HTABS.out | exact HTABS.out.below (by repeat (first | (with_reducible first | exact HB.out | apply below_alloc | apply pw_below_drewN | apply below_drew1) | exact HB.out)) (Nat.le_refl _) | exact HTABS.out.below (Below.drew (Below.refl _ _)) (Nat.le_refl _)); rintro e w12 ⟨rfl, hb⟩; refine ⟨_, rfl, ?_⟩; have n0_ := Aside0.mk (below_step (by repeat (first | (with_reducible first | exact HB.out | apply below_alloc | apply pw_below_drewN | apply below_drew1) | exact HB.out)) hb); clear HB; have HB := n0_; clear n0_; (try clear hb); (try clear hb2); (try clear hk); (try clear hi)))
        go_ret3
        exact ⟨by first | rfl | (simp [errW_none, errW_some] <;> rfl) | (simp [*, errW_none, errW_some] <;> rfl), by repeat (first | (with_reducible first | exact HB.out | apply below_alloc | apply pw_below_drewN | apply below_drew1) | exact HB.out)⟩
      · rw [if_neg c10] at H
        have c10b0 : (a3 == 119) = false := beq_eq_false_iff_ne.mpr c10
        have c10b1 : (a3 != 119) = true := bne_iff_ne.mpr c10
        (first | rw [c10b0] | (simp only [i64_w, i32_w]; rw [c10b0]) | skip)
        have HC13 := Aside0.mk H
        clear H
        go_upto_if 33 with (fail)
        go_cut [33] (fun v33 wc => ∃ (kq : Nat) (x33_12 : Bool), v33 = .bool x33_12 ∧ Aside0 (object_Find.j0 kq a0 t152 a2 a3 0 0 false a3 x33_12 = some (r1, r2, r3)) ∧ Aside0 (kq ≤ k) ∧ Aside0 (Below w.heap.size w wc))
        case first =>
          have H := HC13.out
          clear HC13
          by_cases c14 : a3 = 40
          · rw [if_pos c14] at H
            have c14b0 : (a3 == 40) = true := beq_iff_eq.mpr c14
            have c14b1 : (a3 != 40) = false := bne_eq_false_iff_eq.mpr c14
            clear c14
            (first | rw [c14b0] | (simp only [i64_w, i32_w]; rw [c14b0]) | skip)
            have H' := Aside0.mk H
            clear H
            go_wp2
            go_meet
            case rel => exact ⟨_, ((a3 == 40)), (by first | rfl | (simp; done) | (simp [*]; done)), H', ⟨by first | omega | exact Nat.le_refl _⟩, ⟨by repeat (first | (with_reducible first | exact HB.out | apply below_alloc | apply pw_below_drewN | apply below_drew1) | exact HB.out)⟩⟩
          · rw [if_neg c14] at H
            have c14b0 : (a3 == 40) = false := beq_eq_false_iff_ne.mpr c14
            have c14b1 : (a3 != 40) = true := bne_iff_ne.mpr c14
            (first | rw [c14b0] | (simp only [i64_w, i32_w]; rw [c14b0]) | skip)
            by_cases c15 : a3 = 41
            · rw [if_pos c15] at H
              have c15b0 : (a3 == 41) = true := beq_iff_eq.mpr c15
              have c15b1 : (a3 != 41) = false := bne_eq_false_iff_eq.mpr c15
              clear c15
              have H' := Aside0.mk H
              clear H
              go_wp2
              go_meet
              case rel => exact ⟨_, ((a3 == 41)), (by first | rfl | (simp; done) | (simp [*]; done)), H', ⟨by first | omega | exact Nat.le_refl _⟩, ⟨by repeat (first | (with_reducible first | exact HB.out | apply below_alloc | apply pw_below_drewN | apply below_drew1) | exact HB.out)⟩⟩
            · rw [if_neg c15] at H
              have c15b0 : (a3 == 41) = false := beq_eq_false_iff_ne.mpr c15
              have c15b1 : (a3 != 41) = true := bne_iff_ne.mpr c15
              have H' := Aside0.mk H
              clear H
              go_wp2
              go_meet
              case rel => exact ⟨_, ((a3 == 98)), (by first | rfl | (simp; done) | (simp [*]; done)), H', ⟨by first | omega | exact Nat.le_refl _⟩, ⟨by repeat (first | (with_reducible first | exact HB.out | apply below_alloc | apply pw_below_drewN | apply below_drew1) | exact HB.out)⟩⟩
        case rest =>
          clear HC13
          (try clear c1); (try clear p2); (try clear c6); (try clear c6b0); (try clear c6b1); (try clear c8); (try clear c10); (try clear c10b0); (try clear c10b1); (try clear c14); (try clear c14b0); (try clear c14b1); (try clear c15); (try clear c15b0); (try clear c15b1)
          obtain ⟨kq, x33_12, rfl, HA, HJ12, HB⟩ := hcut
          cases kq with
          | zero => exact absurd HA.out (by simp [object_Find.j0])
          | succ kj12 =>
            have H := HA.out
            clear HA
            simp only [object_Find.j0] at H
            by_cases c16 : x33_12 = true
            · subst c16
              have H1 : ((object_brackets.f kj12 a0 t152 40 41).bind fun bt155 => (object_Find.j3 kj12 a2 bt155.1 bt155.2.1 bt155.2.2)) = some (r1, r2, r3) := by rw [if_pos rfl] at H; exact H
              clear H
              have H := H1
              clear H1
              replace H := Option.bind_eq_some_iff.mp H
              obtain ⟨⟨t155, t156, t157⟩, A170, H⟩ := H
              replace H : (object_Find.j3 kj12 a2 t155 t156 t157) = some (r1, r2, r3) := H
              have A17 := Aside0.mk A170
              clear A170
              have H' := Aside0.mk H
              clear H
              go_wp2_with (first | ((with_reducible refine gate_callee (f := 16) rfl ?_); refine goesL_ (some 40) rfl rfl Tryd.func16 (by kernel_rfl) rfl #[.string a0, .int .i64 t152, .int .u8 40, .int .u8 41] rfl (by (try simp only [List.map_toArray, List.map_cons, List.map_nil]); first | done | rfl | (simp only [List.length_drop, List.length_take]; rfl)) ?_; (with_reducible refine (object_brackets.calls kj12 a0 t152 40 41 t155 t156 t157 _ A17.out ?sideT).mono ?_); (case sideT => first | exact HTABS.out | exact HTABS.out.below (by repeat (first | (with_reducible first | exact HB.out | apply below_alloc | apply pw_below_drewN | apply below_drew1) | exact HB.out)) (Nat.le_refl _) | exact HTABS.out.below (Below.drew (Below.refl _ _)) (Nat.le_refl _)); rintro e w18 ⟨rfl, hb⟩; refine ⟨_, rfl, ?_⟩; have n0_ := Aside0.mk (below_step (by repeat (first | (with_reducible first | exact HB.out | apply below_alloc | apply pw_below_drewN | apply below_drew1) | exact HB.out)) hb); clear HB; have HB := n0_; clear n0_; (try clear hb); (try clear hb2); (try clear hk); (try clear hi)))
              go_meet
              case rel => exact ⟨_, (t155), (t156), (t157), (by first | rfl | (simp; done) | (simp [*]; done)), (by first | rfl | (simp; done) | (simp [*]; done)), (by first | rfl | (simp; done) | (simp [*]; done)), H', ⟨by have := HJ12.out; first | omega | exact Nat.le_refl _⟩, ⟨by repeat (first | (with_reducible first | exact HB.out | apply below_alloc | apply pw_below_drewN | apply below_drew1) | exact HB.out)⟩⟩
            · replace c16 := Bool.eq_false_iff.mpr c16
              subst c16
              have H1 : (if a3 = 91 then (object_Find.j1 kj12 a0 t152 a2 a3 0 0 false a3 (a3 == 91)) else (object_Find.j1 kj12 a0 t152 a2 a3 0 0 false a3 (a3 == 93))) = some (r1, r2, r3) := by rw [if_neg (show ¬ (false = true) by decide)] at H; exact H
              clear H
              have H := H1
              clear H1
              have HC19 := Aside0.mk H
              clear H
              go_upto_if 44 with (fail)
              go_cut [44] (fun v44 wc => ∃ (kq : Nat) (x44_18 : Bool), v44 = .bool x44_18 ∧ Aside0 (object_Find.j1 kq a0 t152 a2 a3 0 0 false a3 x44_18 = some (r1, r2, r3)) ∧ Aside0 (kq ≤ kj12) ∧ Aside0 (Below w.heap.size w wc))
              case first =>
                have H := HC19.out
                clear HC19
                by_cases c20 : a3 = 91
                · rw [if_pos c20] at H
                  have c20b0 : (a3 == 91) = true := beq_iff_eq.mpr c20
                  have c20b1 : (a3 != 91) = false := bne_eq_false_iff_eq.mpr c20
                  clear c20
                  (first | rw [c20b0] | (simp only [i64_w, i32_w]; rw [c20b0]) | skip)
                  have H' := Aside0.mk H
                  clear H
                  go_wp2
                  go_meet
                  case rel => exact ⟨_, ((a3 == 91)), (by first | rfl | (simp; done) | (simp [*]; done)), H', ⟨by have := HJ12.out; first | omega | exact Nat.le_refl _⟩, ⟨by repeat (first | (with_reducible first | exact HB.out | apply below_alloc | apply pw_below_drewN | apply below_drew1) | exact HB.out)⟩⟩
                · rw [if_neg c20] at H
                  have c20b0 : (a3 == 91) = false := beq_eq_false_iff_ne.mpr c20
                  have c20b1 : (a3 != 91) = true := bne_iff_ne.mpr c20
                  (first | rw [c20b0] | (simp only [i64_w, i32_w]; rw [c20b0]) | skip)
                  have H' := Aside0.mk H
                  clear H
                  go_wp2
                  go_meet
                  case rel => exact ⟨_, ((a3 == 93)), (by first | rfl | (simp; done) | (simp [*]; done)), H', ⟨by have := HJ12.out; first | omega | exact Nat.le_refl _⟩, ⟨by repeat (first | (with_reducible first | exact HB.out | apply below_alloc | apply pw_below_drewN | apply below_drew1) | exact HB.out)⟩⟩
              case rest =>
                clear HC19
                (try clear c1); (try clear c2); (try clear p2); (try clear c6); (try clear c6b0); (try clear c6b1); (try clear c8); (try clear c10); (try clear c10b0); (try clear c10b1); (try clear c14); (try clear c14b0); (try clear c14b1); (try clear c15); (try clear c15b0); (try clear c15b1); (try clear c16); (try clear c20); (try clear c20b0); (try clear c20b1)
                obtain ⟨kq, x44_18, rfl, HA, HJ18, HB⟩ := hcut
                cases kq with
                | zero => exact absurd HA.out (by simp [object_Find.j1])
                | succ kj18 =>
                  have H := HA.out
                  clear HA
                  simp only [object_Find.j1] at H
                  by_cases c21 : x44_18 = true
                  · subst c21
                    have H1 : ((object_brackets.f kj18 a0 t152 91 93).bind fun bt158 => (object_Find.j3 kj18 a2 bt158.1 bt158.2.1 bt158.2.2)) = some (r1, r2, r3) := by rw [if_pos rfl] at H; exact H
                    clear H
                    have H := H1
                    clear H1
                    replace H := Option.bind_eq_some_iff.mp H
                    obtain ⟨⟨t158, t159, t160⟩, A220, H⟩ := H
                    replace H : (object_Find.j3 kj18 a2 t158 t159 t160) = some (r1, r2, r3) := H
                    have A22 := Aside0.mk A220
                    clear A220
                    have H' := Aside0.mk H
                    clear H
                    go_wp2_with (first | ((with_reducible refine gate_callee (f := 16) rfl ?_); refine goesL_ (some 50) rfl rfl Tryd.func16 (by kernel_rfl) rfl #[.string a0, .int .i64 t152, .int .u8 91, .int .u8 93] rfl (by (try simp only [List.map_toArray, List.map_cons, List.map_nil]); first | done | rfl | (simp only [List.length_drop, List.length_take]; rfl)) ?_; (with_reducible refine (object_brackets.calls kj18 a0 t152 91 93 t158 t159 t160 _ A22.out ?sideT).mono ?_); (case sideT => first | exact HTABS.out | exact HTABS.out.below (by repeat (first | (with_reducible first | exact HB.out | apply below_alloc | apply pw_below_drewN | apply below_drew1) | exact HB.out)) (Nat.le_refl _) | exact HTABS.out.below (Below.drew (Below.refl _ _)) (Nat.le_refl _)); rintro e w23 ⟨rfl, hb⟩; refine ⟨_, rfl, ?_⟩; have n0_ := Aside0.mk (below_step (by repeat (first | (with_reducible first | exact HB.out | apply below_alloc | apply pw_below_drewN | apply below_drew1) | exact HB.out)) hb); clear HB; have HB := n0_; clear n0_; (try clear hb); (try clear hb2); (try clear hk); (try clear hi)))
                    go_meet
                    case rel => exact ⟨_, (t158), (t159), (t160), (by first | rfl | (simp; done) | (simp [*]; done)), (by first | rfl | (simp; done) | (simp [*]; done)), (by first | rfl | (simp; done) | (simp [*]; done)), H', ⟨by have := HJ12.out; have := HJ18.out; first | omega | exact Nat.le_refl _⟩, ⟨by repeat (first | (with_reducible first | exact HB.out | apply below_alloc | apply pw_below_drewN | apply below_drew1) | exact HB.out)⟩⟩
                  · replace c21 := Bool.eq_false_iff.mpr c21
                    subst c21
                    have H1 : (if a3 = 123 then (object_Find.j2 kj18 a0 t152 a2 a3 0 0 false a3 (a3 == 123)) else (if a3 = 125 then (object_Find.j2 kj18 a0 t152 a2 a3 0 0 false a3 (a3 == 125)) else (object_Find.j2 kj18 a0 t152 a2 a3 0 0 false a3 (a3 == 66)))) = some (r1, r2, r3) := by rw [if_neg (show ¬ (false = true) by decide)] at H; exact H
                    clear H
                    have H := H1
                    clear H1
                    have HC24 := Aside0.mk H
                    clear H
                    go_upto_if 54 with (fail)
                    go_cut [54] (fun v54 wc => ∃ (kq : Nat) (x54_23 : Bool), v54 = .bool x54_23 ∧ Aside0 (object_Find.j2 kq a0 t152 a2 a3 0 0 false a3 x54_23 = some (r1, r2, r3)) ∧ Aside0 (kq ≤ kj18) ∧ Aside0 (Below w.heap.size w wc))
                    case first =>
                      have H := HC24.out
                      clear HC24
                      by_cases c25 : a3 = 123
                      · rw [if_pos c25] at H
                        have c25b0 : (a3 == 123) = true := beq_iff_eq.mpr c25
                        have c25b1 : (a3 != 123) = false := bne_eq_false_iff_eq.mpr c25
                        clear c25
                        (first | rw [c25b0] | (simp only [i64_w, i32_w]; rw [c25b0]) | skip)
                        have H' := Aside0.mk H
                        clear H
                        go_wp2
                        go_meet
                        case rel => exact ⟨_, ((a3 == 123)), (by first | rfl | (simp; done) | (simp [*]; done)), H', ⟨by have := HJ12.out; have := HJ18.out; first | omega | exact Nat.le_refl _⟩, ⟨by repeat (first | (with_reducible first | exact HB.out | apply below_alloc | apply pw_below_drewN | apply below_drew1) | exact HB.out)⟩⟩
                      · rw [if_neg c25] at H
                        have c25b0 : (a3 == 123) = false := beq_eq_false_iff_ne.mpr c25
                        have c25b1 : (a3 != 123) = true := bne_iff_ne.mpr c25
                        (first | rw [c25b0] | (simp only [i64_w, i32_w]; rw [c25b0]) | skip)
                        by_cases c26 : a3 = 125
                        · rw [if_pos c26] at H
                          have c26b0 : (a3 == 125) = true := beq_iff_eq.mpr c26
                          have c26b1 : (a3 != 125) = false := bne_eq_false_iff_eq.mpr c26
                          clear c26
                          have H' := Aside0.mk H
                          clear H
                          go_wp2
                          go_meet
                          case rel => exact ⟨_, ((a3 == 125)), (by first | rfl | (simp; done) | (simp [*]; done)), H', ⟨by have := HJ12.out; have := HJ18.out; first | omega | exact Nat.le_refl _⟩, ⟨by repeat (first | (with_reducible first | exact HB.out | apply below_alloc | apply pw_below_drewN | apply below_drew1) | exact HB.out)⟩⟩
                        · rw [if_neg c26] at H
                          have c26b0 : (a3 == 125) = false := beq_eq_false_iff_ne.mpr c26
                          have c26b1 : (a3 != 125) = true := bne_iff_ne.mpr c26
                          have H' := Aside0.mk H
                          clear H
                          go_wp2
                          go_meet
                          case rel => exact ⟨_, ((a3 == 66)), (by first | rfl | (simp; done) | (simp [*]; done)), H', ⟨by have := HJ12.out; have := HJ18.out; first | omega | exact Nat.le_refl _⟩, ⟨by repeat (first | (with_reducible first | exact HB.out | apply below_alloc | apply pw_below_drewN | apply below_drew1) | exact HB.out)⟩⟩
                    case rest =>
                      clear HC24
                      (try clear c1); (try clear c2); (try clear p2); (try clear c6); (try clear c6b0); (try clear c6b1); (try clear c8); (try clear c10); (try clear c10b0); (try clear c10b1); (try clear c14); (try clear c14b0); (try clear c14b1); (try clear c15); (try clear c15b0); (try clear c15b1); (try clear c16); (try clear c20); (try clear c20b0); (try clear c20b1); (try clear c21); (try clear c25); (try clear c25b0); (try clear c25b1); (try clear c26); (try clear c26b0); (try clear c26b1)
                      obtain ⟨kq, x54_23, rfl, HA, HJ23, HB⟩ := hcut
                      cases kq with
                      | zero => exact absurd HA.out (by simp [object_Find.j2])
                      | succ kj23 =>
                        have H := HA.out
                        clear HA
                        simp only [object_Find.j2] at H
                        by_cases c27 : x54_23 = true
                        · subst c27
                          have H1 : ((object_brackets.f kj23 a0 t152 123 125).bind fun bt161 => (object_Find.j3 kj23 a2 bt161.1 bt161.2.1 bt161.2.2)) = some (r1, r2, r3) := by rw [if_pos rfl] at H; exact H
                          clear H
                          have H := H1
                          clear H1
                          replace H := Option.bind_eq_some_iff.mp H
                          obtain ⟨⟨t161, t162, t163⟩, A280, H⟩ := H
                          replace H : (object_Find.j3 kj23 a2 t161 t162 t163) = some (r1, r2, r3) := H
                          have A28 := Aside0.mk A280
                          clear A280
                          have H' := Aside0.mk H
                          clear H
                          go_wp2_with (first | ((with_reducible refine gate_callee (f := 16) rfl ?_); refine goesL_ (some 61) rfl rfl Tryd.func16 (by kernel_rfl) rfl #[.string a0, .int .i64 t152, .int .u8 123, .int .u8 125] rfl (by (try simp only [List.map_toArray, List.map_cons, List.map_nil]); first | done | rfl | (simp only [List.length_drop, List.length_take]; rfl)) ?_; (with_reducible refine (object_brackets.calls kj23 a0 t152 123 125 t161 t162 t163 _ A28.out ?sideT).mono ?_); (case sideT => first | exact HTABS.out | exact HTABS.out.below (by repeat (first | (with_reducible first | exact HB.out | apply below_alloc | apply pw_below_drewN | apply below_drew1) | exact HB.out)) (Nat.le_refl _) | exact HTABS.out.below (Below.drew (Below.refl _ _)) (Nat.le_refl _)); rintro e w29 ⟨rfl, hb⟩; refine ⟨_, rfl, ?_⟩; have n0_ := Aside0.mk (below_step (by repeat (first | (with_reducible first | exact HB.out | apply below_alloc | apply pw_below_drewN | apply below_drew1) | exact HB.out)) hb); clear HB; have HB := n0_; clear n0_; (try clear hb); (try clear hb2); (try clear hk); (try clear hi)))
                          go_meet
                          case rel => exact ⟨_, (t161), (t162), (t163), (by first | rfl | (simp; done) | (simp [*]; done)), (by first | rfl | (simp; done) | (simp [*]; done)), (by first | rfl | (simp; done) | (simp [*]; done)), H', ⟨by have := HJ12.out; have := HJ18.out; have := HJ23.out; first | omega | exact Nat.le_refl _⟩, ⟨by repeat (first | (with_reducible first | exact HB.out | apply below_alloc | apply pw_below_drewN | apply below_drew1) | exact HB.out)⟩⟩
                        · replace c27 := Bool.eq_false_iff.mpr c27
                          subst c27
                          have H1 : (if a3 = 34 then ((object_quotes.f kj23 a0 t152 ((a3) % 256)).bind fun bt164 => (object_Find.j3 kj23 a2 bt164.1 bt164.2.1 bt164.2.2)) else (if a3 = 39 then ((object_quotes.f kj23 a0 t152 ((a3) % 256)).bind fun bt167 => (object_Find.j3 kj23 a2 bt167.1 bt167.2.1 bt167.2.2)) else (object_Find.j3 kj23 a2 0 0 false))) = some (r1, r2, r3) := by rw [if_neg (show ¬ (false = true) by decide)] at H; exact H
                          clear H
                          have H := H1
                          clear H1
                          by_cases c30 : a3 = 34
                          · rw [if_pos c30] at H
                            have c30b0 : (a3 == 34) = true := beq_iff_eq.mpr c30
                            have c30b1 : (a3 != 34) = false := bne_eq_false_iff_eq.mpr c30
                            clear c30
                            replace H := Option.bind_eq_some_iff.mp H
                            obtain ⟨⟨t164, t165, t166⟩, A310, H⟩ := H
                            replace H : (object_Find.j3 kj23 a2 t164 t165 t166) = some (r1, r2, r3) := H
                            have A31 := Aside0.mk A310
                            clear A310
                            have H' := Aside0.mk H
                            clear H
                            go_wp2_with (first | ((with_reducible refine gate_callee (f := 17) rfl ?_); refine goesL_ (some 73) rfl rfl Tryd.func17 (by kernel_rfl) rfl #[.string a0, .int .i64 t152, .int .u8 ((a3) % 256)] rfl (by (try simp only [List.map_toArray, List.map_cons, List.map_nil]); first | done | rfl | (simp only [List.length_drop, List.length_take]; rfl)) ?_; (with_reducible refine (object_quotes.calls kj23 a0 t152 ((a3) % 256) t164 t165 t166 _ A31.out ?sideT).mono ?_); (case sideT => first | exact HTABS.out | exact HTABS.out.below (by repeat (first | (with_reducible first | exact HB.out | apply below_alloc | apply pw_below_drewN | apply below_drew1) | exact HB.out)) (Nat.le_refl _) | exact HTABS.out.below (Below.drew (Below.refl _ _)) (Nat.le_refl _)); rintro e w32 ⟨rfl, hb⟩; refine ⟨_, rfl, ?_⟩; have n0_ := Aside0.mk (below_step (by repeat (first | (with_reducible first | exact HB.out | apply below_alloc | apply pw_below_drewN | apply below_drew1) | exact HB.out)) hb); clear HB; have HB := n0_; clear n0_; (try clear hb); (try clear hb2); (try clear hk); (try clear hi)))
                            go_meet
                            case rel => exact ⟨_, (t164), (t165), (t166), (by first | rfl | (simp; done) | (simp [*]; done)), (by first | rfl | (simp; done) | (simp [*]; done)), (by first | rfl | (simp; done) | (simp [*]; done)), H', ⟨by have := HJ12.out; have := HJ18.out; have := HJ23.out; first | omega | exact Nat.le_refl _⟩, ⟨by repeat (first | (with_reducible first | exact HB.out | apply below_alloc | apply pw_below_drewN | apply below_drew1) | exact HB.out)⟩⟩
                          · rw [if_neg c30] at H
                            have c30b0 : (a3 == 34) = false := beq_eq_false_iff_ne.mpr c30
                            have c30b1 : (a3 != 34) = true := bne_iff_ne.mpr c30
                            by_cases c33 : a3 = 39
                            · rw [if_pos c33] at H
                              have c33b0 : (a3 == 39) = true := beq_iff_eq.mpr c33
                              have c33b1 : (a3 != 39) = false := bne_eq_false_iff_eq.mpr c33
                              clear c33
                              replace H := Option.bind_eq_some_iff.mp H
                              obtain ⟨⟨t167, t168, t169⟩, A340, H⟩ := H
                              replace H : (object_Find.j3 kj23 a2 t167 t168 t169) = some (r1, r2, r3) := H
                              have A34 := Aside0.mk A340
                              clear A340
                              have H' := Aside0.mk H
                              clear H
                              go_wp2_with (first | ((with_reducible refine gate_callee (f := 17) rfl ?_); refine goesL_ (some 73) rfl rfl Tryd.func17 (by kernel_rfl) rfl #[.string a0, .int .i64 t152, .int .u8 ((a3) % 256)] rfl (by (try simp only [List.map_toArray, List.map_cons, List.map_nil]); first | done | rfl | (simp only [List.length_drop, List.length_take]; rfl)) ?_; (with_reducible refine (object_quotes.calls kj23 a0 t152 ((a3) % 256) t167 t168 t169 _ A34.out ?sideT).mono ?_); (case sideT => first | exact HTABS.out | exact HTABS.out.below (by repeat (first | (with_reducible first | exact HB.out | apply below_alloc | apply pw_below_drewN | apply below_drew1) | exact HB.out)) (Nat.le_refl _) | exact HTABS.out.below (Below.drew (Below.refl _ _)) (Nat.le_refl _)); rintro e w35 ⟨rfl, hb⟩; refine ⟨_, rfl, ?_⟩; have n0_ := Aside0.mk (below_step (by repeat (first | (with_reducible first | exact HB.out | apply below_alloc | apply pw_below_drewN | apply below_drew1) | exact HB.out)) hb); clear HB; have HB := n0_; clear n0_; (try clear hb); (try clear hb2); (try clear hk); (try clear hi)))
                              go_meet
                              case rel => exact ⟨_, (t167), (t168), (t169), (by first | rfl | (simp; done) | (simp [*]; done)), (by first | rfl | (simp; done) | (simp [*]; done)), (by first | rfl | (simp; done) | (simp [*]; done)), H', ⟨by have := HJ12.out; have := HJ18.out; have := HJ23.out; first | omega | exact Nat.le_refl _⟩, ⟨by repeat (first | (with_reducible first | exact HB.out | apply below_alloc | apply pw_below_drewN | apply below_drew1) | exact HB.out)⟩⟩
                            · rw [if_neg c33] at H
                              have c33b0 : (a3 == 39) = false := beq_eq_false_iff_ne.mpr c33
                              have c33b1 : (a3 != 39) = true := bne_iff_ne.mpr c33
                              have H' := Aside0.mk H
                              clear H
                              go_wp2
                              go_meet
                              case rel => exact ⟨_, (0), (0), (false), (by first | rfl | (simp; done) | (simp [*]; done)), (by first | rfl | (simp; done) | (simp [*]; done)), (by first | rfl | (simp; done) | (simp [*]; done)), H', ⟨by have := HJ12.out; have := HJ18.out; have := HJ23.out; first | omega | exact Nat.le_refl _⟩, ⟨by repeat (first | (with_reducible first | exact HB.out | apply below_alloc | apply pw_below_drewN | apply below_drew1) | exact HB.out)⟩⟩
    case rest =>
      clear HC8
      (try clear c1); (try clear c2); (try clear p2); (try clear c3); (try clear c6); (try clear c6b0); (try clear c6b1); (try clear c8); (try clear c10); (try clear c10b0); (try clear c10b1); (try clear c14); (try clear c14b0); (try clear c14b1); (try clear c15); (try clear c15b0); (try clear c15b1); (try clear c16); (try clear c17); (try clear c20); (try clear c20b0); (try clear c20b1); (try clear c21); (try clear c25); (try clear c25b0); (try clear c25b1); (try clear c26); (try clear c26b0); (try clear c26b1); (try clear c27); (try clear c30); (try clear c30b0); (try clear c30b1); (try clear c33); (try clear c33b0); (try clear c33b1)
      obtain ⟨kq, x11_7, x12_7, x13_7, rfl, rfl, rfl, HA, HJ7, HB⟩ := hcut
      cases kq with
      | zero => exact absurd HA.out (by simp [object_Find.j3])
      | succ kj7 =>
        have H := HA.out
        clear HA
        simp only [object_Find.j3] at H
        by_cases c36 : x13_7 = true
        · subst c36
          have H1 : (if a2 = true then (some (x11_7, wrap64 (x12_7 + 1), true)) else (some (wrap64 (x11_7 + 1), x12_7, true))) = some (r1, r2, r3) := by rw [if_pos rfl] at H; exact H
          clear H
          have H := H1
          clear H1
          by_cases c37 : a2 = true
          · subst c37
            have H1 : (some (x11_7, wrap64 (x12_7 + 1), true)) = some (r1, r2, r3) := by rw [if_pos rfl] at H; exact H
            clear H
            have H := H1
            clear H1
            simp only [Option.some.injEq, Prod.mk.injEq] at H
            obtain ⟨rfl, rfl, rfl⟩ := H
            go_wp2
            go_ret3
            exact ⟨by first | rfl | (simp [errW_none, errW_some] <;> rfl) | (simp [*, errW_none, errW_some] <;> rfl), by repeat (first | (with_reducible first | exact HB.out | apply below_alloc | apply pw_below_drewN | apply below_drew1) | exact HB.out)⟩
          · replace c37 := Bool.eq_false_iff.mpr c37
            subst c37
            have H1 : (some (wrap64 (x11_7 + 1), x12_7, true)) = some (r1, r2, r3) := by rw [if_neg (show ¬ (false = true) by decide)] at H; exact H
            clear H
            have H := H1
            clear H1
            simp only [Option.some.injEq, Prod.mk.injEq] at H
            obtain ⟨rfl, rfl, rfl⟩ := H
            go_wp2
            go_ret3
            exact ⟨by first | rfl | (simp [errW_none, errW_some] <;> rfl) | (simp [*, errW_none, errW_some] <;> rfl), by repeat (first | (with_reducible first | exact HB.out | apply below_alloc | apply pw_below_drewN | apply below_drew1) | exact HB.out)⟩
        · replace c36 := Bool.eq_false_iff.mpr c36
          subst c36
          have H1 : (some (0, 0, false)) = some (r1, r2, r3) := by rw [if_neg (show ¬ (false = true) by decide)] at H; exact H
          clear H
          have H := H1
          clear H1
          simp only [Option.some.injEq, Prod.mk.injEq] at H
          obtain ⟨rfl, rfl, rfl⟩ := H
          go_wp2
          go_ret3
          exact ⟨by first | rfl | (simp [errW_none, errW_some] <;> rfl) | (simp [*, errW_none, errW_some] <;> rfl), by repeat (first | (with_reducible first | exact HB.out | apply below_alloc | apply pw_below_drewN | apply below_drew1) | exact HB.out)⟩

/-! ### bureaulaw13_alive: function 7 -/
def bureaulaw13_alive.f (k : Nat)  : Option (Bool) := (object_Find.f k (⟨#[97, 98, 32, 32, 40, 99, 32, 91, 100, 93, 32, 34, 101, 34, 41, 32, 102]⟩ : ByteArray) 0 true 119).bind fun bt170 => ((object_Find.f k (⟨#[97, 98, 32, 32, 40, 99, 32, 91, 100, 93, 32, 34, 101, 34, 41, 32, 102]⟩ : ByteArray) 8 false 98).bind fun bt173 => ((object_Find.f k (⟨#[97, 98, 32, 32, 40, 99, 32, 91, 100, 93, 32, 34, 101, 34, 41, 32, 102]⟩ : ByteArray) 5 false 34).bind fun bt176 => (if bt170.1 = 0 then (if bt170.2.1 = 4 then (if bt170.2.2 = true then (if bt173.1 = 5 then (if bt173.2.1 = 14 then (if bt173.2.2 = true then (if bt176.1 = 12 then (if bt176.2.1 = 13 then (some bt176.2.2) else (some false)) else (some false)) else (some false)) else (some false)) else (some false)) else (some false)) else (some false)) else (some false))))
theorem bureaulaw13_alive.mono : ∀ k, LeO (bureaulaw13_alive.f k ) (bureaulaw13_alive.f (k + 1) ) := by
  intro  k
  unfold bureaulaw13_alive.f
  repeat' first
      | (with_reducible exact object_Find.mono _ _ _ _ _)
      | (with_reducible exact LeO.refl _)
      | (with_reducible exact LeO.none _)
      | (with_reducible refine LeO.ite ?_ ?_)
      | (with_reducible refine LeO.bind ?_ (fun _ => ?_))
      | exact object_Find.mono _ _ _ _ _
      | exact LeO.none _
      | refine LeO.ite ?_ ?_
      | refine LeO.bind ?_ (fun _ => ?_)
set_option maxHeartbeats 8000000 in
set_option maxRecDepth 100000 in
theorem bureaulaw13_alive.calls (k : Nat)  (r : Bool) (w : World) (h : bureaulaw13_alive.f k  = some r) (hTabs : Tabs w) :
    Calls Tryd.prog 7 #[] w fun e w' => e = .returned (.bool r) ∧ Below w.heap.size w w' := by
  have HTABS := Aside0.mk hTabs
  clear hTabs
  have HB := Aside0.mk (Below.refl w.heap.size w)
  have H : ((object_Find.f k (⟨#[97, 98, 32, 32, 40, 99, 32, 91, 100, 93, 32, 34, 101, 34, 41, 32, 102]⟩ : ByteArray) 0 true 119).bind fun bt170 => ((object_Find.f k (⟨#[97, 98, 32, 32, 40, 99, 32, 91, 100, 93, 32, 34, 101, 34, 41, 32, 102]⟩ : ByteArray) 8 false 98).bind fun bt173 => ((object_Find.f k (⟨#[97, 98, 32, 32, 40, 99, 32, 91, 100, 93, 32, 34, 101, 34, 41, 32, 102]⟩ : ByteArray) 5 false 34).bind fun bt176 => (if bt170.1 = 0 then (if bt170.2.1 = 4 then (if bt170.2.2 = true then (if bt173.1 = 5 then (if bt173.2.1 = 14 then (if bt173.2.2 = true then (if bt176.1 = 12 then (if bt176.2.1 = 13 then (some bt176.2.2) else (some false)) else (some false)) else (some false)) else (some false)) else (some false)) else (some false)) else (some false)) else (some false))))) = some r := h
  clear h
  replace H := Option.bind_eq_some_iff.mp H
  obtain ⟨⟨t170, t171, t172⟩, A10, H⟩ := H
  replace H : ((object_Find.f k (⟨#[97, 98, 32, 32, 40, 99, 32, 91, 100, 93, 32, 34, 101, 34, 41, 32, 102]⟩ : ByteArray) 8 false 98).bind fun bt173 => ((object_Find.f k (⟨#[97, 98, 32, 32, 40, 99, 32, 91, 100, 93, 32, 34, 101, 34, 41, 32, 102]⟩ : ByteArray) 5 false 34).bind fun bt176 => (if t170 = 0 then (if t171 = 4 then (if t172 = true then (if bt173.1 = 5 then (if bt173.2.1 = 14 then (if bt173.2.2 = true then (if bt176.1 = 12 then (if bt176.2.1 = 13 then (some bt176.2.2) else (some false)) else (some false)) else (some false)) else (some false)) else (some false)) else (some false)) else (some false)) else (some false)))) = some r := H
  have A1 := Aside0.mk A10
  clear A10
  replace H := Option.bind_eq_some_iff.mp H
  obtain ⟨⟨t173, t174, t175⟩, A20, H⟩ := H
  replace H : ((object_Find.f k (⟨#[97, 98, 32, 32, 40, 99, 32, 91, 100, 93, 32, 34, 101, 34, 41, 32, 102]⟩ : ByteArray) 5 false 34).bind fun bt176 => (if t170 = 0 then (if t171 = 4 then (if t172 = true then (if t173 = 5 then (if t174 = 14 then (if t175 = true then (if bt176.1 = 12 then (if bt176.2.1 = 13 then (some bt176.2.2) else (some false)) else (some false)) else (some false)) else (some false)) else (some false)) else (some false)) else (some false)) else (some false))) = some r := H
  have A2 := Aside0.mk A20
  clear A20
  replace H := Option.bind_eq_some_iff.mp H
  obtain ⟨⟨t176, t177, t178⟩, A30, H⟩ := H
  replace H : (if t170 = 0 then (if t171 = 4 then (if t172 = true then (if t173 = 5 then (if t174 = 14 then (if t175 = true then (if t176 = 12 then (if t177 = 13 then (some t178) else (some false)) else (some false)) else (some false)) else (some false)) else (some false)) else (some false)) else (some false)) else (some false)) = some r := H
  have A3 := Aside0.mk A30
  clear A30
  by_cases c4 : t170 = 0
  · rw [if_pos c4] at H
    have c4b0 : (t170 == 0) = true := beq_iff_eq.mpr c4
    have c4b1 : (t170 != 0) = false := bne_eq_false_iff_eq.mpr c4
    clear c4
    by_cases c5 : t171 = 4
    · rw [if_pos c5] at H
      have c5b0 : (t171 == 4) = true := beq_iff_eq.mpr c5
      have c5b1 : (t171 != 4) = false := bne_eq_false_iff_eq.mpr c5
      clear c5
      by_cases c6 : t172 = true
      · subst c6
        have H1 : (if t173 = 5 then (if t174 = 14 then (if t175 = true then (if t176 = 12 then (if t177 = 13 then (some t178) else (some false)) else (some false)) else (some false)) else (some false)) else (some false)) = some r := by rw [if_pos rfl] at H; exact H
        clear H
        have H := H1
        clear H1
        by_cases c7 : t173 = 5
        · rw [if_pos c7] at H
          have c7b0 : (t173 == 5) = true := beq_iff_eq.mpr c7
          have c7b1 : (t173 != 5) = false := bne_eq_false_iff_eq.mpr c7
          clear c7
          by_cases c8 : t174 = 14
          · rw [if_pos c8] at H
            have c8b0 : (t174 == 14) = true := beq_iff_eq.mpr c8
            have c8b1 : (t174 != 14) = false := bne_eq_false_iff_eq.mpr c8
            clear c8
            by_cases c9 : t175 = true
            · subst c9
              have H1 : (if t176 = 12 then (if t177 = 13 then (some t178) else (some false)) else (some false)) = some r := by rw [if_pos rfl] at H; exact H
              clear H
              have H := H1
              clear H1
              by_cases c10 : t176 = 12
              · rw [if_pos c10] at H
                have c10b0 : (t176 == 12) = true := beq_iff_eq.mpr c10
                have c10b1 : (t176 != 12) = false := bne_eq_false_iff_eq.mpr c10
                clear c10
                by_cases c11 : t177 = 13
                · rw [if_pos c11] at H
                  have c11b0 : (t177 == 13) = true := beq_iff_eq.mpr c11
                  have c11b1 : (t177 != 13) = false := bne_eq_false_iff_eq.mpr c11
                  clear c11
                  obtain rfl := Option.some.inj H
                  go_enter Tryd.func7, Tryd.ntmps7
                  go_wp2_with (first | ((with_reducible refine gate_callee (f := 8) rfl ?_); refine goesL_ (some 11) rfl rfl Tryd.func8 (by kernel_rfl) rfl #[.string (⟨#[97, 98, 32, 32, 40, 99, 32, 91, 100, 93, 32, 34, 101, 34, 41, 32, 102]⟩ : ByteArray), .int .i64 0, .bool true, .int .i32 119] rfl (by (try simp only [List.map_toArray, List.map_cons, List.map_nil]); first | done | rfl | (simp only [List.length_drop, List.length_take]; rfl)) ?_; (with_reducible refine (object_Find.calls k (⟨#[97, 98, 32, 32, 40, 99, 32, 91, 100, 93, 32, 34, 101, 34, 41, 32, 102]⟩ : ByteArray) 0 true 119 t170 t171 true _ A1.out ?sideT).mono ?_); (case sideT => first | exact HTABS.out | exact HTABS.out.below (by repeat (first | (with_reducible first | exact HB.out | apply below_alloc | apply pw_below_drewN | apply below_drew1) | exact HB.out)) (Nat.le_refl _) | exact HTABS.out.below (Below.drew (Below.refl _ _)) (Nat.le_refl _)); rintro e w12 ⟨rfl, hb⟩; refine ⟨_, rfl, ?_⟩; have n0_ := Aside0.mk (below_step (by repeat (first | (with_reducible first | exact HB.out | apply below_alloc | apply pw_below_drewN | apply below_drew1) | exact HB.out)) hb); clear HB; have HB := n0_; clear n0_; (try clear hb); (try clear hb2); (try clear hk); (try clear hi)) | ((with_reducible refine gate_callee (f := 8) rfl ?_); refine goesL_ (some 16) rfl rfl Tryd.func8 (by kernel_rfl) rfl #[.string (⟨#[97, 98, 32, 32, 40, 99, 32, 91, 100, 93, 32, 34, 101, 34, 41, 32, 102]⟩ : ByteArray), .int .i64 8, .bool false, .int .i32 98] rfl (by (try simp only [List.map_toArray, List.map_cons, List.map_nil]); first | done | rfl | (simp only [List.length_drop, List.length_take]; rfl)) ?_; (with_reducible refine (object_Find.calls k (⟨#[97, 98, 32, 32, 40, 99, 32, 91, 100, 93, 32, 34, 101, 34, 41, 32, 102]⟩ : ByteArray) 8 false 98 t173 t174 true _ A2.out ?sideT).mono ?_); (case sideT => first | exact HTABS.out | exact HTABS.out.below (by repeat (first | (with_reducible first | exact HB.out | apply below_alloc | apply pw_below_drewN | apply below_drew1) | exact HB.out)) (Nat.le_refl _) | exact HTABS.out.below (Below.drew (Below.refl _ _)) (Nat.le_refl _)); rintro e w13 ⟨rfl, hb⟩; refine ⟨_, rfl, ?_⟩; have n0_ := Aside0.mk (below_step (by repeat (first | (with_reducible first | exact HB.out | apply below_alloc | apply pw_below_drewN | apply below_drew1) | exact HB.out)) hb); clear HB; have HB := n0_; clear n0_; (try clear hb); (try clear hb2); (try clear hk); (try clear hi)) | ((with_reducible refine gate_callee (f := 8) rfl ?_); refine goesL_ (some 21) rfl rfl Tryd.func8 (by kernel_rfl) rfl #[.string (⟨#[97, 98, 32, 32, 40, 99, 32, 91, 100, 93, 32, 34, 101, 34, 41, 32, 102]⟩ : ByteArray), .int .i64 5, .bool false, .int .i32 34] rfl (by (try simp only [List.map_toArray, List.map_cons, List.map_nil]); first | done | rfl | (simp only [List.length_drop, List.length_take]; rfl)) ?_; (with_reducible refine (object_Find.calls k (⟨#[97, 98, 32, 32, 40, 99, 32, 91, 100, 93, 32, 34, 101, 34, 41, 32, 102]⟩ : ByteArray) 5 false 34 t176 t177 t178 _ A3.out ?sideT).mono ?_); (case sideT => first | exact HTABS.out | exact HTABS.out.below (by repeat (first | (with_reducible first | exact HB.out | apply below_alloc | apply pw_below_drewN | apply below_drew1) | exact HB.out)) (Nat.le_refl _) | exact HTABS.out.below (Below.drew (Below.refl _ _)) (Nat.le_refl _)); rintro e w14 ⟨rfl, hb⟩; refine ⟨_, rfl, ?_⟩; have n0_ := Aside0.mk (below_step (by repeat (first | (with_reducible first | exact HB.out | apply below_alloc | apply pw_below_drewN | apply below_drew1) | exact HB.out)) hb); clear HB; have HB := n0_; clear n0_; (try clear hb); (try clear hb2); (try clear hk); (try clear hi)))
                  go_ret
                  exact ⟨by first | rfl | (simp [errW_none, errW_some] <;> rfl) | (simp [*, errW_none, errW_some] <;> rfl), by repeat (first | (with_reducible first | exact HB.out | apply below_alloc | apply pw_below_drewN | apply below_drew1) | exact HB.out)⟩
                · rw [if_neg c11] at H
                  have c11b0 : (t177 == 13) = false := beq_eq_false_iff_ne.mpr c11
                  have c11b1 : (t177 != 13) = true := bne_iff_ne.mpr c11
                  obtain rfl := Option.some.inj H
                  go_enter Tryd.func7, Tryd.ntmps7
                  go_wp2_with (first | ((with_reducible refine gate_callee (f := 8) rfl ?_); refine goesL_ (some 11) rfl rfl Tryd.func8 (by kernel_rfl) rfl #[.string (⟨#[97, 98, 32, 32, 40, 99, 32, 91, 100, 93, 32, 34, 101, 34, 41, 32, 102]⟩ : ByteArray), .int .i64 0, .bool true, .int .i32 119] rfl (by (try simp only [List.map_toArray, List.map_cons, List.map_nil]); first | done | rfl | (simp only [List.length_drop, List.length_take]; rfl)) ?_; (with_reducible refine (object_Find.calls k (⟨#[97, 98, 32, 32, 40, 99, 32, 91, 100, 93, 32, 34, 101, 34, 41, 32, 102]⟩ : ByteArray) 0 true 119 t170 t171 true _ A1.out ?sideT).mono ?_); (case sideT => first | exact HTABS.out | exact HTABS.out.below (by repeat (first | (with_reducible first | exact HB.out | apply below_alloc | apply pw_below_drewN | apply below_drew1) | exact HB.out)) (Nat.le_refl _) | exact HTABS.out.below (Below.drew (Below.refl _ _)) (Nat.le_refl _)); rintro e w15 ⟨rfl, hb⟩; refine ⟨_, rfl, ?_⟩; have n0_ := Aside0.mk (below_step (by repeat (first | (with_reducible first | exact HB.out | apply below_alloc | apply pw_below_drewN | apply below_drew1) | exact HB.out)) hb); clear HB; have HB := n0_; clear n0_; (try clear hb); (try clear hb2); (try clear hk); (try clear hi)) | ((with_reducible refine gate_callee (f := 8) rfl ?_); refine goesL_ (some 16) rfl rfl Tryd.func8 (by kernel_rfl) rfl #[.string (⟨#[97, 98, 32, 32, 40, 99, 32, 91, 100, 93, 32, 34, 101, 34, 41, 32, 102]⟩ : ByteArray), .int .i64 8, .bool false, .int .i32 98] rfl (by (try simp only [List.map_toArray, List.map_cons, List.map_nil]); first | done | rfl | (simp only [List.length_drop, List.length_take]; rfl)) ?_; (with_reducible refine (object_Find.calls k (⟨#[97, 98, 32, 32, 40, 99, 32, 91, 100, 93, 32, 34, 101, 34, 41, 32, 102]⟩ : ByteArray) 8 false 98 t173 t174 true _ A2.out ?sideT).mono ?_); (case sideT => first | exact HTABS.out | exact HTABS.out.below (by repeat (first | (with_reducible first | exact HB.out | apply below_alloc | apply pw_below_drewN | apply below_drew1) | exact HB.out)) (Nat.le_refl _) | exact HTABS.out.below (Below.drew (Below.refl _ _)) (Nat.le_refl _)); rintro e w16 ⟨rfl, hb⟩; refine ⟨_, rfl, ?_⟩; have n0_ := Aside0.mk (below_step (by repeat (first | (with_reducible first | exact HB.out | apply below_alloc | apply pw_below_drewN | apply below_drew1) | exact HB.out)) hb); clear HB; have HB := n0_; clear n0_; (try clear hb); (try clear hb2); (try clear hk); (try clear hi)) | ((with_reducible refine gate_callee (f := 8) rfl ?_); refine goesL_ (some 21) rfl rfl Tryd.func8 (by kernel_rfl) rfl #[.string (⟨#[97, 98, 32, 32, 40, 99, 32, 91, 100, 93, 32, 34, 101, 34, 41, 32, 102]⟩ : ByteArray), .int .i64 5, .bool false, .int .i32 34] rfl (by (try simp only [List.map_toArray, List.map_cons, List.map_nil]); first | done | rfl | (simp only [List.length_drop, List.length_take]; rfl)) ?_; (with_reducible refine (object_Find.calls k (⟨#[97, 98, 32, 32, 40, 99, 32, 91, 100, 93, 32, 34, 101, 34, 41, 32, 102]⟩ : ByteArray) 5 false 34 t176 t177 t178 _ A3.out ?sideT).mono ?_); (case sideT => first | exact HTABS.out | exact HTABS.out.below (by repeat (first | (with_reducible first | exact HB.out | apply below_alloc | apply pw_below_drewN | apply below_drew1) | exact HB.out)) (Nat.le_refl _) | exact HTABS.out.below (Below.drew (Below.refl _ _)) (Nat.le_refl _)); rintro e w17 ⟨rfl, hb⟩; refine ⟨_, rfl, ?_⟩; have n0_ := Aside0.mk (below_step (by repeat (first | (with_reducible first | exact HB.out | apply below_alloc | apply pw_below_drewN | apply below_drew1) | exact HB.out)) hb); clear HB; have HB := n0_; clear n0_; (try clear hb); (try clear hb2); (try clear hk); (try clear hi)))
                  go_ret
                  exact ⟨by first | rfl | (simp [errW_none, errW_some] <;> rfl) | (simp [*, errW_none, errW_some] <;> rfl), by repeat (first | (with_reducible first | exact HB.out | apply below_alloc | apply pw_below_drewN | apply below_drew1) | exact HB.out)⟩
              · rw [if_neg c10] at H
                have c10b0 : (t176 == 12) = false := beq_eq_false_iff_ne.mpr c10
                have c10b1 : (t176 != 12) = true := bne_iff_ne.mpr c10
                obtain rfl := Option.some.inj H
                go_enter Tryd.func7, Tryd.ntmps7
                go_wp2_with (first | ((with_reducible refine gate_callee (f := 8) rfl ?_); refine goesL_ (some 11) rfl rfl Tryd.func8 (by kernel_rfl) rfl #[.string (⟨#[97, 98, 32, 32, 40, 99, 32, 91, 100, 93, 32, 34, 101, 34, 41, 32, 102]⟩ : ByteArray), .int .i64 0, .bool true, .int .i32 119] rfl (by (try simp only [List.map_toArray, List.map_cons, List.map_nil]); first | done | rfl | (simp only [List.length_drop, List.length_take]; rfl)) ?_; (with_reducible refine (object_Find.calls k (⟨#[97, 98, 32, 32, 40, 99, 32, 91, 100, 93, 32, 34, 101, 34, 41, 32, 102]⟩ : ByteArray) 0 true 119 t170 t171 true _ A1.out ?sideT).mono ?_); (case sideT => first | exact HTABS.out | exact HTABS.out.below (by repeat (first | (with_reducible first | exact HB.out | apply below_alloc | apply pw_below_drewN | apply below_drew1) | exact HB.out)) (Nat.le_refl _) | exact HTABS.out.below (Below.drew (Below.refl _ _)) (Nat.le_refl _)); rintro e w18 ⟨rfl, hb⟩; refine ⟨_, rfl, ?_⟩; have n0_ := Aside0.mk (below_step (by repeat (first | (with_reducible first | exact HB.out | apply below_alloc | apply pw_below_drewN | apply below_drew1) | exact HB.out)) hb); clear HB; have HB := n0_; clear n0_; (try clear hb); (try clear hb2); (try clear hk); (try clear hi)) | ((with_reducible refine gate_callee (f := 8) rfl ?_); refine goesL_ (some 16) rfl rfl Tryd.func8 (by kernel_rfl) rfl #[.string (⟨#[97, 98, 32, 32, 40, 99, 32, 91, 100, 93, 32, 34, 101, 34, 41, 32, 102]⟩ : ByteArray), .int .i64 8, .bool false, .int .i32 98] rfl (by (try simp only [List.map_toArray, List.map_cons, List.map_nil]); first | done | rfl | (simp only [List.length_drop, List.length_take]; rfl)) ?_; (with_reducible refine (object_Find.calls k (⟨#[97, 98, 32, 32, 40, 99, 32, 91, 100, 93, 32, 34, 101, 34, 41, 32, 102]⟩ : ByteArray) 8 false 98 t173 t174 true _ A2.out ?sideT).mono ?_); (case sideT => first | exact HTABS.out | exact HTABS.out.below (by repeat (first | (with_reducible first | exact HB.out | apply below_alloc | apply pw_below_drewN | apply below_drew1) | exact HB.out)) (Nat.le_refl _) | exact HTABS.out.below (Below.drew (Below.refl _ _)) (Nat.le_refl _)); rintro e w19 ⟨rfl, hb⟩; refine ⟨_, rfl, ?_⟩; have n0_ := Aside0.mk (below_step (by repeat (first | (with_reducible first | exact HB.out | apply below_alloc | apply pw_below_drewN | apply below_drew1) | exact HB.out)) hb); clear HB; have HB := n0_; clear n0_; (try clear hb); (try clear hb2); (try clear hk); (try clear hi)) | ((with_reducible refine gate_callee (f := 8) rfl ?_); refine goesL_ (some 21) rfl rfl Tryd.func8 (by kernel_rfl) rfl #[.string (⟨#[97, 98, 32, 32, 40, 99, 32, 91, 100, 93, 32, 34, 101, 34, 41, 32, 102]⟩ : ByteArray), .int .i64 5, .bool false, .int .i32 34] rfl (by (try simp only [List.map_toArray, List.map_cons, List.map_nil]); first | done | rfl | (simp only [List.length_drop, List.length_take]; rfl)) ?_; (with_reducible refine (object_Find.calls k (⟨#[97, 98, 32, 32, 40, 99, 32, 91, 100, 93, 32, 34, 101, 34, 41, 32, 102]⟩ : ByteArray) 5 false 34 t176 t177 t178 _ A3.out ?sideT).mono ?_); (case sideT => first | exact HTABS.out | exact HTABS.out.below (by repeat (first | (with_reducible first | exact HB.out | apply below_alloc | apply pw_below_drewN | apply below_drew1) | exact HB.out)) (Nat.le_refl _) | exact HTABS.out.below (Below.drew (Below.refl _ _)) (Nat.le_refl _)); rintro e w20 ⟨rfl, hb⟩; refine ⟨_, rfl, ?_⟩; have n0_ := Aside0.mk (below_step (by repeat (first | (with_reducible first | exact HB.out | apply below_alloc | apply pw_below_drewN | apply below_drew1) | exact HB.out)) hb); clear HB; have HB := n0_; clear n0_; (try clear hb); (try clear hb2); (try clear hk); (try clear hi)))
                go_ret
                exact ⟨by first | rfl | (simp [errW_none, errW_some] <;> rfl) | (simp [*, errW_none, errW_some] <;> rfl), by repeat (first | (with_reducible first | exact HB.out | apply below_alloc | apply pw_below_drewN | apply below_drew1) | exact HB.out)⟩
            · replace c9 := Bool.eq_false_iff.mpr c9
              subst c9
              have H1 : (some false) = some r := by rw [if_neg (show ¬ (false = true) by decide)] at H; exact H
              clear H
              have H := H1
              clear H1
              obtain rfl := Option.some.inj H
              go_enter Tryd.func7, Tryd.ntmps7
              go_wp2_with (first | ((with_reducible refine gate_callee (f := 8) rfl ?_); refine goesL_ (some 11) rfl rfl Tryd.func8 (by kernel_rfl) rfl #[.string (⟨#[97, 98, 32, 32, 40, 99, 32, 91, 100, 93, 32, 34, 101, 34, 41, 32, 102]⟩ : ByteArray), .int .i64 0, .bool true, .int .i32 119] rfl (by (try simp only [List.map_toArray, List.map_cons, List.map_nil]); first | done | rfl | (simp only [List.length_drop, List.length_take]; rfl)) ?_; (with_reducible refine (object_Find.calls k (⟨#[97, 98, 32, 32, 40, 99, 32, 91, 100, 93, 32, 34, 101, 34, 41, 32, 102]⟩ : ByteArray) 0 true 119 t170 t171 true _ A1.out ?sideT).mono ?_); (case sideT => first | exact HTABS.out | exact HTABS.out.below (by repeat (first | (with_reducible first | exact HB.out | apply below_alloc | apply pw_below_drewN | apply below_drew1) | exact HB.out)) (Nat.le_refl _) | exact HTABS.out.below (Below.drew (Below.refl _ _)) (Nat.le_refl _)); rintro e w21 ⟨rfl, hb⟩; refine ⟨_, rfl, ?_⟩; have n0_ := Aside0.mk (below_step (by repeat (first | (with_reducible first | exact HB.out | apply below_alloc | apply pw_below_drewN | apply below_drew1) | exact HB.out)) hb); clear HB; have HB := n0_; clear n0_; (try clear hb); (try clear hb2); (try clear hk); (try clear hi)) | ((with_reducible refine gate_callee (f := 8) rfl ?_); refine goesL_ (some 16) rfl rfl Tryd.func8 (by kernel_rfl) rfl #[.string (⟨#[97, 98, 32, 32, 40, 99, 32, 91, 100, 93, 32, 34, 101, 34, 41, 32, 102]⟩ : ByteArray), .int .i64 8, .bool false, .int .i32 98] rfl (by (try simp only [List.map_toArray, List.map_cons, List.map_nil]); first | done | rfl | (simp only [List.length_drop, List.length_take]; rfl)) ?_; (with_reducible refine (object_Find.calls k (⟨#[97, 98, 32, 32, 40, 99, 32, 91, 100, 93, 32, 34, 101, 34, 41, 32, 102]⟩ : ByteArray) 8 false 98 t173 t174 false _ A2.out ?sideT).mono ?_); (case sideT => first | exact HTABS.out | exact HTABS.out.below (by repeat (first | (with_reducible first | exact HB.out | apply below_alloc | apply pw_below_drewN | apply below_drew1) | exact HB.out)) (Nat.le_refl _) | exact HTABS.out.below (Below.drew (Below.refl _ _)) (Nat.le_refl _)); rintro e w22 ⟨rfl, hb⟩; refine ⟨_, rfl, ?_⟩; have n0_ := Aside0.mk (below_step (by repeat (first | (with_reducible first | exact HB.out | apply below_alloc | apply pw_below_drewN | apply below_drew1) | exact HB.out)) hb); clear HB; have HB := n0_; clear n0_; (try clear hb); (try clear hb2); (try clear hk); (try clear hi)) | ((with_reducible refine gate_callee (f := 8) rfl ?_); refine goesL_ (some 21) rfl rfl Tryd.func8 (by kernel_rfl) rfl #[.string (⟨#[97, 98, 32, 32, 40, 99, 32, 91, 100, 93, 32, 34, 101, 34, 41, 32, 102]⟩ : ByteArray), .int .i64 5, .bool false, .int .i32 34] rfl (by (try simp only [List.map_toArray, List.map_cons, List.map_nil]); first | done | rfl | (simp only [List.length_drop, List.length_take]; rfl)) ?_; (with_reducible refine (object_Find.calls k (⟨#[97, 98, 32, 32, 40, 99, 32, 91, 100, 93, 32, 34, 101, 34, 41, 32, 102]⟩ : ByteArray) 5 false 34 t176 t177 t178 _ A3.out ?sideT).mono ?_); (case sideT => first | exact HTABS.out | exact HTABS.out.below (by repeat (first | (with_reducible first | exact HB.out | apply below_alloc | apply pw_below_drewN | apply below_drew1) | exact HB.out)) (Nat.le_refl _) | exact HTABS.out.below (Below.drew (Below.refl _ _)) (Nat.le_refl _)); rintro e w23 ⟨rfl, hb⟩; refine ⟨_, rfl, ?_⟩; have n0_ := Aside0.mk (below_step (by repeat (first | (with_reducible first | exact HB.out | apply below_alloc | apply pw_below_drewN | apply below_drew1) | exact HB.out)) hb); clear HB; have HB := n0_; clear n0_; (try clear hb); (try clear hb2); (try clear hk); (try clear hi)))
              go_ret
              exact ⟨by first | rfl | (simp [errW_none, errW_some] <;> rfl) | (simp [*, errW_none, errW_some] <;> rfl), by repeat (first | (with_reducible first | exact HB.out | apply below_alloc | apply pw_below_drewN | apply below_drew1) | exact HB.out)⟩
          · rw [if_neg c8] at H
            have c8b0 : (t174 == 14) = false := beq_eq_false_iff_ne.mpr c8
            have c8b1 : (t174 != 14) = true := bne_iff_ne.mpr c8
            obtain rfl := Option.some.inj H
            go_enter Tryd.func7, Tryd.ntmps7
            go_wp2_with (first | ((with_reducible refine gate_callee (f := 8) rfl ?_); refine goesL_ (some 11) rfl rfl Tryd.func8 (by kernel_rfl) rfl #[.string (⟨#[97, 98, 32, 32, 40, 99, 32, 91, 100, 93, 32, 34, 101, 34, 41, 32, 102]⟩ : ByteArray), .int .i64 0, .bool true, .int .i32 119] rfl (by (try simp only [List.map_toArray, List.map_cons, List.map_nil]); first | done | rfl | (simp only [List.length_drop, List.length_take]; rfl)) ?_; (with_reducible refine (object_Find.calls k (⟨#[97, 98, 32, 32, 40, 99, 32, 91, 100, 93, 32, 34, 101, 34, 41, 32, 102]⟩ : ByteArray) 0 true 119 t170 t171 true _ A1.out ?sideT).mono ?_); (case sideT => first | exact HTABS.out | exact HTABS.out.below (by repeat (first | (with_reducible first | exact HB.out | apply below_alloc | apply pw_below_drewN | apply below_drew1) | exact HB.out)) (Nat.le_refl _) | exact HTABS.out.below (Below.drew (Below.refl _ _)) (Nat.le_refl _)); rintro e w24 ⟨rfl, hb⟩; refine ⟨_, rfl, ?_⟩; have n0_ := Aside0.mk (below_step (by repeat (first | (with_reducible first | exact HB.out | apply below_alloc | apply pw_below_drewN | apply below_drew1) | exact HB.out)) hb); clear HB; have HB := n0_; clear n0_; (try clear hb); (try clear hb2); (try clear hk); (try clear hi)) | ((with_reducible refine gate_callee (f := 8) rfl ?_); refine goesL_ (some 16) rfl rfl Tryd.func8 (by kernel_rfl) rfl #[.string (⟨#[97, 98, 32, 32, 40, 99, 32, 91, 100, 93, 32, 34, 101, 34, 41, 32, 102]⟩ : ByteArray), .int .i64 8, .bool false, .int .i32 98] rfl (by (try simp only [List.map_toArray, List.map_cons, List.map_nil]); first | done | rfl | (simp only [List.length_drop, List.length_take]; rfl)) ?_; (with_reducible refine (object_Find.calls k (⟨#[97, 98, 32, 32, 40, 99, 32, 91, 100, 93, 32, 34, 101, 34, 41, 32, 102]⟩ : ByteArray) 8 false 98 t173 t174 t175 _ A2.out ?sideT).mono ?_); (case sideT => first | exact HTABS.out | exact HTABS.out.below (by repeat (first | (with_reducible first | exact HB.out | apply below_alloc | apply pw_below_drewN | apply below_drew1) | exact HB.out)) (Nat.le_refl _) | exact HTABS.out.below (Below.drew (Below.refl _ _)) (Nat.le_refl _)); rintro e w25 ⟨rfl, hb⟩; refine ⟨_, rfl, ?_⟩; have n0_ := Aside0.mk (below_step (by repeat (first | (with_reducible first | exact HB.out | apply below_alloc | apply pw_below_drewN | apply below_drew1) | exact HB.out)) hb); clear HB; have HB := n0_; clear n0_; (try clear hb); (try clear hb2); (try clear hk); (try clear hi)) | ((with_reducible refine gate_callee (f := 8) rfl ?_); refine goesL_ (some 21) rfl rfl Tryd.func8 (by kernel_rfl) rfl #[.string (⟨#[97, 98, 32, 32, 40, 99, 32, 91, 100, 93, 32, 34, 101, 34, 41, 32, 102]⟩ : ByteArray), .int .i64 5, .bool false, .int .i32 34] rfl (by (try simp only [List.map_toArray, List.map_cons, List.map_nil]); first | done | rfl | (simp only [List.length_drop, List.length_take]; rfl)) ?_; (with_reducible refine (object_Find.calls k (⟨#[97, 98, 32, 32, 40, 99, 32, 91, 100, 93, 32, 34, 101, 34, 41, 32, 102]⟩ : ByteArray) 5 false 34 t176 t177 t178 _ A3.out ?sideT).mono ?_); (case sideT => first | exact HTABS.out | exact HTABS.out.below (by repeat (first | (with_reducible first | exact HB.out | apply below_alloc | apply pw_below_drewN | apply below_drew1) | exact HB.out)) (Nat.le_refl _) | exact HTABS.out.below (Below.drew (Below.refl _ _)) (Nat.le_refl _)); rintro e w26 ⟨rfl, hb⟩; refine ⟨_, rfl, ?_⟩; have n0_ := Aside0.mk (below_step (by repeat (first | (with_reducible first | exact HB.out | apply below_alloc | apply pw_below_drewN | apply below_drew1) | exact HB.out)) hb); clear HB; have HB := n0_; clear n0_; (try clear hb); (try clear hb2); (try clear hk); (try clear hi)))
            go_ret
            exact ⟨by first | rfl | (simp [errW_none, errW_some] <;> rfl) | (simp [*, errW_none, errW_some] <;> rfl), by repeat (first | (with_reducible first | exact HB.out | apply below_alloc | apply pw_below_drewN | apply below_drew1) | exact HB.out)⟩
        · rw [if_neg c7] at H
          have c7b0 : (t173 == 5) = false := beq_eq_false_iff_ne.mpr c7
          have c7b1 : (t173 != 5) = true := bne_iff_ne.mpr c7
          obtain rfl := Option.some.inj H
          go_enter Tryd.func7, Tryd.ntmps7
          go_wp2_with (first | ((with_reducible refine gate_callee (f := 8) rfl ?_); refine goesL_ (some 11) rfl rfl Tryd.func8 (by kernel_rfl) rfl #[.string (⟨#[97, 98, 32, 32, 40, 99, 32, 91, 100, 93, 32, 34, 101, 34, 41, 32, 102]⟩ : ByteArray), .int .i64 0, .bool true, .int .i32 119] rfl (by (try simp only [List.map_toArray, List.map_cons, List.map_nil]); first | done | rfl | (simp only [List.length_drop, List.length_take]; rfl)) ?_; (with_reducible refine (object_Find.calls k (⟨#[97, 98, 32, 32, 40, 99, 32, 91, 100, 93, 32, 34, 101, 34, 41, 32, 102]⟩ : ByteArray) 0 true 119 t170 t171 true _ A1.out ?sideT).mono ?_); (case sideT => first | exact HTABS.out | exact HTABS.out.below (by repeat (first | (with_reducible first | exact HB.out | apply below_alloc | apply pw_below_drewN | apply below_drew1) | exact HB.out)) (Nat.le_refl _) | exact HTABS.out.below (Below.drew (Below.refl _ _)) (Nat.le_refl _)); rintro e w27 ⟨rfl, hb⟩; refine ⟨_, rfl, ?_⟩; have n0_ := Aside0.mk (below_step (by repeat (first | (with_reducible first | exact HB.out | apply below_alloc | apply pw_below_drewN | apply below_drew1) | exact HB.out)) hb); clear HB; have HB := n0_; clear n0_; (try clear hb); (try clear hb2); (try clear hk); (try clear hi)) | ((with_reducible refine gate_callee (f := 8) rfl ?_); refine goesL_ (some 16) rfl rfl Tryd.func8 (by kernel_rfl) rfl #[.string (⟨#[97, 98, 32, 32, 40, 99, 32, 91, 100, 93, 32, 34, 101, 34, 41, 32, 102]⟩ : ByteArray), .int .i64 8, .bool false, .int .i32 98] rfl (by (try simp only [List.map_toArray, List.map_cons, List.map_nil]); first | done | rfl | (simp only [List.length_drop, List.length_take]; rfl)) ?_; (with_reducible refine (object_Find.calls k (⟨#[97, 98, 32, 32, 40, 99, 32, 91, 100, 93, 32, 34, 101, 34, 41, 32, 102]⟩ : ByteArray) 8 false 98 t173 t174 t175 _ A2.out ?sideT).mono ?_); (case sideT => first | exact HTABS.out | exact HTABS.out.below (by repeat (first | (with_reducible first | exact HB.out | apply below_alloc | apply pw_below_drewN | apply below_drew1) | exact HB.out)) (Nat.le_refl _) | exact HTABS.out.below (Below.drew (Below.refl _ _)) (Nat.le_refl _)); rintro e w28 ⟨rfl, hb⟩; refine ⟨_, rfl, ?_⟩; have n0_ := Aside0.mk (below_step (by repeat (first | (with_reducible first | exact HB.out | apply below_alloc | apply pw_below_drewN | apply below_drew1) | exact HB.out)) hb); clear HB; have HB := n0_; clear n0_; (try clear hb); (try clear hb2); (try clear hk); (try clear hi)) | ((with_reducible refine gate_callee (f := 8) rfl ?_); refine goesL_ (some 21) rfl rfl Tryd.func8 (by kernel_rfl) rfl #[.string (⟨#[97, 98, 32, 32, 40, 99, 32, 91, 100, 93, 32, 34, 101, 34, 41, 32, 102]⟩ : ByteArray), .int .i64 5, .bool false, .int .i32 34] rfl (by (try simp only [List.map_toArray, List.map_cons, List.map_nil]); first | done | rfl | (simp only [List.length_drop, List.length_take]; rfl)) ?_; (with_reducible refine (object_Find.calls k (⟨#[97, 98, 32, 32, 40, 99, 32, 91, 100, 93, 32, 34, 101, 34, 41, 32, 102]⟩ : ByteArray) 5 false 34 t176 t177 t178 _ A3.out ?sideT).mono ?_); (case sideT => first | exact HTABS.out | exact HTABS.out.below (by repeat (first | (with_reducible first | exact HB.out | apply below_alloc | apply pw_below_drewN | apply below_drew1) | exact HB.out)) (Nat.le_refl _) | exact HTABS.out.below (Below.drew (Below.refl _ _)) (Nat.le_refl _)); rintro e w29 ⟨rfl, hb⟩; refine ⟨_, rfl, ?_⟩; have n0_ := Aside0.mk (below_step (by repeat (first | (with_reducible first | exact HB.out | apply below_alloc | apply pw_below_drewN | apply below_drew1) | exact HB.out)) hb); clear HB; have HB := n0_; clear n0_; (try clear hb); (try clear hb2); (try clear hk); (try clear hi)))
          go_ret
          exact ⟨by first | rfl | (simp [errW_none, errW_some] <;> rfl) | (simp [*, errW_none, errW_some] <;> rfl), by repeat (first | (with_reducible first | exact HB.out | apply below_alloc | apply pw_below_drewN | apply below_drew1) | exact HB.out)⟩
      · replace c6 := Bool.eq_false_iff.mpr c6
        subst c6
        have H1 : (some false) = some r := by rw [if_neg (show ¬ (false = true) by decide)] at H; exact H
        clear H
        have H := H1
        clear H1
        obtain rfl := Option.some.inj H
        go_enter Tryd.func7, Tryd.ntmps7
        go_wp2_with (first | ((with_reducible refine gate_callee (f := 8) rfl ?_); refine goesL_ (some 11) rfl rfl Tryd.func8 (by kernel_rfl) rfl #[.string (⟨#[97, 98, 32, 32, 40, 99, 32, 91, 100, 93, 32, 34, 101, 34, 41, 32, 102]⟩ : ByteArray), .int .i64 0, .bool true, .int .i32 119] rfl (by (try simp only [List.map_toArray, List.map_cons, List.map_nil]); first | done | rfl | (simp only [List.length_drop, List.length_take]; rfl)) ?_; (with_reducible refine (object_Find.calls k (⟨#[97, 98, 32, 32, 40, 99, 32, 91, 100, 93, 32, 34, 101, 34, 41, 32, 102]⟩ : ByteArray) 0 true 119 t170 t171 false _ A1.out ?sideT).mono ?_); (case sideT => first | exact HTABS.out | exact HTABS.out.below (by repeat (first | (with_reducible first | exact HB.out | apply below_alloc | apply pw_below_drewN | apply below_drew1) | exact HB.out)) (Nat.le_refl _) | exact HTABS.out.below (Below.drew (Below.refl _ _)) (Nat.le_refl _)); rintro e w30 ⟨rfl, hb⟩; refine ⟨_, rfl, ?_⟩; have n0_ := Aside0.mk (below_step (by repeat (first | (with_reducible first | exact HB.out | apply below_alloc | apply pw_below_drewN | apply below_drew1) | exact HB.out)) hb); clear HB; have HB := n0_; clear n0_; (try clear hb); (try clear hb2); (try clear hk); (try clear hi)) | ((with_reducible refine gate_callee (f := 8) rfl ?_); refine goesL_ (some 16) rfl rfl Tryd.func8 (by kernel_rfl) rfl #[.string (⟨#[97, 98, 32, 32, 40, 99, 32, 91, 100, 93, 32, 34, 101, 34, 41, 32, 102]⟩ : ByteArray), .int .i64 8, .bool false, .int .i32 98] rfl (by (try simp only [List.map_toArray, List.map_cons, List.map_nil]); first | done | rfl | (simp only [List.length_drop, List.length_take]; rfl)) ?_; (with_reducible refine (object_Find.calls k (⟨#[97, 98, 32, 32, 40, 99, 32, 91, 100, 93, 32, 34, 101, 34, 41, 32, 102]⟩ : ByteArray) 8 false 98 t173 t174 t175 _ A2.out ?sideT).mono ?_); (case sideT => first | exact HTABS.out | exact HTABS.out.below (by repeat (first | (with_reducible first | exact HB.out | apply below_alloc | apply pw_below_drewN | apply below_drew1) | exact HB.out)) (Nat.le_refl _) | exact HTABS.out.below (Below.drew (Below.refl _ _)) (Nat.le_refl _)); rintro e w31 ⟨rfl, hb⟩; refine ⟨_, rfl, ?_⟩; have n0_ := Aside0.mk (below_step (by repeat (first | (with_reducible first | exact HB.out | apply below_alloc | apply pw_below_drewN | apply below_drew1) | exact HB.out)) hb); clear HB; have HB := n0_; clear n0_; (try clear hb); (try clear hb2); (try clear hk); (try clear hi)) | ((with_reducible refine gate_callee (f := 8) rfl ?_); refine goesL_ (some 21) rfl rfl Tryd.func8 (by kernel_rfl) rfl #[.string (⟨#[97, 98, 32, 32, 40, 99, 32, 91, 100, 93, 32, 34, 101, 34, 41, 32, 102]⟩ : ByteArray), .int .i64 5, .bool false, .int .i32 34] rfl (by (try simp only [List.map_toArray, List.map_cons, List.map_nil]); first | done | rfl | (simp only [List.length_drop, List.length_take]; rfl)) ?_; (with_reducible refine (object_Find.calls k (⟨#[97, 98, 32, 32, 40, 99, 32, 91, 100, 93, 32, 34, 101, 34, 41, 32, 102]⟩ : ByteArray) 5 false 34 t176 t177 t178 _ A3.out ?sideT).mono ?_); (case sideT => first | exact HTABS.out | exact HTABS.out.below (by repeat (first | (with_reducible first | exact HB.out | apply below_alloc | apply pw_below_drewN | apply below_drew1) | exact HB.out)) (Nat.le_refl _) | exact HTABS.out.below (Below.drew (Below.refl _ _)) (Nat.le_refl _)); rintro e w32 ⟨rfl, hb⟩; refine ⟨_, rfl, ?_⟩; have n0_ := Aside0.mk (below_step (by repeat (first | (with_reducible first | exact HB.out | apply below_alloc | apply pw_below_drewN | apply below_drew1) | exact HB.out)) hb); clear HB; have HB := n0_; clear n0_; (try clear hb); (try clear hb2); (try clear hk); (try clear hi)))
        go_ret
        exact ⟨by first | rfl | (simp [errW_none, errW_some] <;> rfl) | (simp [*, errW_none, errW_some] <;> rfl), by repeat (first | (with_reducible first | exact HB.out | apply below_alloc | apply pw_below_drewN | apply below_drew1) | exact HB.out)⟩
    · rw [if_neg c5] at H
      have c5b0 : (t171 == 4) = false := beq_eq_false_iff_ne.mpr c5
      have c5b1 : (t171 != 4) = true := bne_iff_ne.mpr c5
      obtain rfl := Option.some.inj H
      go_enter Tryd.func7, Tryd.ntmps7
      go_wp2_with (first | ((with_reducible refine gate_callee (f := 8) rfl ?_); refine goesL_ (some 11) rfl rfl Tryd.func8 (by kernel_rfl) rfl #[.string (⟨#[97, 98, 32, 32, 40, 99, 32, 91, 100, 93, 32, 34, 101, 34, 41, 32, 102]⟩ : ByteArray), .int .i64 0, .bool true, .int .i32 119] rfl (by (try simp only [List.map_toArray, List.map_cons, List.map_nil]); first | done | rfl | (simp only [List.length_drop, List.length_take]; rfl)) ?_; (with_reducible refine (object_Find.calls k (⟨#[97, 98, 32, 32, 40, 99, 32, 91, 100, 93, 32, 34, 101, 34, 41, 32, 102]⟩ : ByteArray) 0 true 119 t170 t171 t172 _ A1.out ?sideT).mono ?_); (case sideT => first | exact HTABS.out | exact HTABS.out.below (by repeat (first | (with_reducible first | exact HB.out | apply below_alloc | apply pw_below_drewN | apply below_drew1) | exact HB.out)) (Nat.le_refl _) | exact HTABS.out.below (Below.drew (Below.refl _ _)) (Nat.le_refl _)); rintro e w33 ⟨rfl, hb⟩; refine ⟨_, rfl, ?_⟩; have n0_ := Aside0.mk (below_step (by repeat (first | (with_reducible first | exact HB.out | apply below_alloc | apply pw_below_drewN | apply below_drew1) | exact HB.out)) hb); clear HB; have HB := n0_; clear n0_; (try clear hb); (try clear hb2); (try clear hk); (try clear hi)) | ((with_reducible refine gate_callee (f := 8) rfl ?_); refine goesL_ (some 16) rfl rfl Tryd.func8 (by kernel_rfl) rfl #[.string (⟨#[97, 98, 32, 32, 40, 99, 32, 91, 100, 93, 32, 34, 101, 34, 41, 32, 102]⟩ : ByteArray), .int .i64 8, .bool false, .int .i32 98] rfl (by (try simp only [List.map_toArray, List.map_cons, List.map_nil]); first | done | rfl | (simp only [List.length_drop, List.length_take]; rfl)) ?_; (with_reducible refine (object_Find.calls k (⟨#[97, 98, 32, 32, 40, 99, 32, 91, 100, 93, 32, 34, 101, 34, 41, 32, 102]⟩ : ByteArray) 8 false 98 t173 t174 t175 _ A2.out ?sideT).mono ?_); (case sideT => first | exact HTABS.out | exact HTABS.out.below (by repeat (first | (with_reducible first | exact HB.out | apply below_alloc | apply pw_below_drewN | apply below_drew1) | exact HB.out)) (Nat.le_refl _) | exact HTABS.out.below (Below.drew (Below.refl _ _)) (Nat.le_refl _)); rintro e w34 ⟨rfl, hb⟩; refine ⟨_, rfl, ?_⟩; have n0_ := Aside0.mk (below_step (by repeat (first | (with_reducible first | exact HB.out | apply below_alloc | apply pw_below_drewN | apply below_drew1) | exact HB.out)) hb); clear HB; have HB := n0_; clear n0_; (try clear hb); (try clear hb2); (try clear hk); (try clear hi)) | ((with_reducible refine gate_callee (f := 8) rfl ?_); refine goesL_ (some 21) rfl rfl Tryd.func8 (by kernel_rfl) rfl #[.string (⟨#[97, 98, 32, 32, 40, 99, 32, 91, 100, 93, 32, 34, 101, 34, 41, 32, 102]⟩ : ByteArray), .int .i64 5, .bool false, .int .i32 34] rfl (by (try simp only [List.map_toArray, List.map_cons, List.map_nil]); first | done | rfl | (simp only [List.length_drop, List.length_take]; rfl)) ?_; (with_reducible refine (object_Find.calls k (⟨#[97, 98, 32, 32, 40, 99, 32, 91, 100, 93, 32, 34, 101, 34, 41, 32, 102]⟩ : ByteArray) 5 false 34 t176 t177 t178 _ A3.out ?sideT).mono ?_); (case sideT => first | exact HTABS.out | exact HTABS.out.below (by repeat (first | (with_reducible first | exact HB.out | apply below_alloc | apply pw_below_drewN | apply below_drew1) | exact HB.out)) (Nat.le_refl _) | exact HTABS.out.below (Below.drew (Below.refl _ _)) (Nat.le_refl _)); rintro e w35 ⟨rfl, hb⟩; refine ⟨_, rfl, ?_⟩; have n0_ := Aside0.mk (below_step (by repeat (first | (with_reducible first | exact HB.out | apply below_alloc | apply pw_below_drewN | apply below_drew1) | exact HB.out)) hb); clear HB; have HB := n0_; clear n0_; (try clear hb); (try clear hb2); (try clear hk); (try clear hi)))
      go_ret
      exact ⟨by first | rfl | (simp [errW_none, errW_some] <;> rfl) | (simp [*, errW_none, errW_some] <;> rfl), by repeat (first | (with_reducible first | exact HB.out | apply below_alloc | apply pw_below_drewN | apply below_drew1) | exact HB.out)⟩
  · rw [if_neg c4] at H
    have c4b0 : (t170 == 0) = false := beq_eq_false_iff_ne.mpr c4
    have c4b1 : (t170 != 0) = true := bne_iff_ne.mpr c4
    obtain rfl := Option.some.inj H
    go_enter Tryd.func7, Tryd.ntmps7
    go_wp2_with (first | ((with_reducible refine gate_callee (f := 8) rfl ?_); refine goesL_ (some 11) rfl rfl Tryd.func8 (by kernel_rfl) rfl #[.string (⟨#[97, 98, 32, 32, 40, 99, 32, 91, 100, 93, 32, 34, 101, 34, 41, 32, 102]⟩ : ByteArray), .int .i64 0, .bool true, .int .i32 119] rfl (by (try simp only [List.map_toArray, List.map_cons, List.map_nil]); first | done | rfl | (simp only [List.length_drop, List.length_take]; rfl)) ?_; (with_reducible refine (object_Find.calls k (⟨#[97, 98, 32, 32, 40, 99, 32, 91, 100, 93, 32, 34, 101, 34, 41, 32, 102]⟩ : ByteArray) 0 true 119 t170 t171 t172 _ A1.out ?sideT).mono ?_); (case sideT => first | exact HTABS.out | exact HTABS.out.below (by repeat (first | (with_reducible first | exact HB.out | apply below_alloc | apply pw_below_drewN | apply below_drew1) | exact HB.out)) (Nat.le_refl _) | exact HTABS.out.below (Below.drew (Below.refl _ _)) (Nat.le_refl _)); rintro e w36 ⟨rfl, hb⟩; refine ⟨_, rfl, ?_⟩; have n0_ := Aside0.mk (below_step (by repeat (first | (with_reducible first | exact HB.out | apply below_alloc | apply pw_below_drewN | apply below_drew1) | exact HB.out)) hb); clear HB; have HB := n0_; clear n0_; (try clear hb); (try clear hb2); (try clear hk); (try clear hi)) | ((with_reducible refine gate_callee (f := 8) rfl ?_); refine goesL_ (some 16) rfl rfl Tryd.func8 (by kernel_rfl) rfl #[.string (⟨#[97, 98, 32, 32, 40, 99, 32, 91, 100, 93, 32, 34, 101, 34, 41, 32, 102]⟩ : ByteArray), .int .i64 8, .bool false, .int .i32 98] rfl (by (try simp only [List.map_toArray, List.map_cons, List.map_nil]); first | done | rfl | (simp only [List.length_drop, List.length_take]; rfl)) ?_; (with_reducible refine (object_Find.calls k (⟨#[97, 98, 32, 32, 40, 99, 32, 91, 100, 93, 32, 34, 101, 34, 41, 32, 102]⟩ : ByteArray) 8 false 98 t173 t174 t175 _ A2.out ?sideT).mono ?_); (case sideT => first | exact HTABS.out | exact HTABS.out.below (by repeat (first | (with_reducible first | exact HB.out | apply below_alloc | apply pw_below_drewN | apply below_drew1) | exact HB.out)) (Nat.le_refl _) | exact HTABS.out.below (Below.drew (Below.refl _ _)) (Nat.le_refl _)); rintro e w37 ⟨rfl, hb⟩; refine ⟨_, rfl, ?_⟩; have n0_ := Aside0.mk (below_step (by repeat (first | (with_reducible first | exact HB.out | apply below_alloc | apply pw_below_drewN | apply below_drew1) | exact HB.out)) hb); clear HB; have HB := n0_; clear n0_; (try clear hb); (try clear hb2); (try clear hk); (try clear hi)) | ((with_reducible refine gate_callee (f := 8) rfl ?_); refine goesL_ (some 21) rfl rfl Tryd.func8 (by kernel_rfl) rfl #[.string (⟨#[97, 98, 32, 32, 40, 99, 32, 91, 100, 93, 32, 34, 101, 34, 41, 32, 102]⟩ : ByteArray), .int .i64 5, .bool false, .int .i32 34] rfl (by (try simp only [List.map_toArray, List.map_cons, List.map_nil]); first | done | rfl | (simp only [List.length_drop, List.length_take]; rfl)) ?_; (with_reducible refine (object_Find.calls k (⟨#[97, 98, 32, 32, 40, 99, 32, 91, 100, 93, 32, 34, 101, 34, 41, 32, 102]⟩ : ByteArray) 5 false 34 t176 t177 t178 _ A3.out ?sideT).mono ?_); (case sideT => first | exact HTABS.out | exact HTABS.out.below (by repeat (first | (with_reducible first | exact HB.out | apply below_alloc | apply pw_below_drewN | apply below_drew1) | exact HB.out)) (Nat.le_refl _) | exact HTABS.out.below (Below.drew (Below.refl _ _)) (Nat.le_refl _)); rintro e w38 ⟨rfl, hb⟩; refine ⟨_, rfl, ?_⟩; have n0_ := Aside0.mk (below_step (by repeat (first | (with_reducible first | exact HB.out | apply below_alloc | apply pw_below_drewN | apply below_drew1) | exact HB.out)) hb); clear HB; have HB := n0_; clear n0_; (try clear hb); (try clear hb2); (try clear hk); (try clear hi)))
    go_ret
    exact ⟨by first | rfl | (simp [errW_none, errW_some] <;> rfl) | (simp [*, errW_none, errW_some] <;> rfl), by repeat (first | (with_reducible first | exact HB.out | apply below_alloc | apply pw_below_drewN | apply below_drew1) | exact HB.out)⟩

end Go.Proofs.YtcinobfflfkmjaaDoor.XObjectFinds
