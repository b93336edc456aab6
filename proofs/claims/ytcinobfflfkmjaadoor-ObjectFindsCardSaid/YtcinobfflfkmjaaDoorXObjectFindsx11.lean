-- Written by this session's program (wip/xprint.py) with the kit's print, for this claim.
import Derived.Test.YtcinobfflfkmjaaDoorXObjectFindsx0
import Derived.Test.YtcinobfflfkmjaaDoorXObjectFindsx5
import Derived.Test.YtcinobfflfkmjaaDoorXObjectFindsx8
import Derived.Test.YtcinobfflfkmjaaDoorXObjectFindsx9
import Derived.Test.YtcinobfflfkmjaaDoorXObjectFindsx10
namespace Go.Proofs.YtcinobfflfkmjaaDoor.XObjectFinds
open Go.RowKit Go.Proofs.YtcinobfflfkmjaaDoorW.PrintWords Go.Proofs.YtcinobfflfkmjaaDoorW.PrintLast Go.Proofs.YtcinobfflfkmjaaDoorW.PrintMore Go.Proofs.YtcinobfflfkmjaaDoor.Ext
attribute [local go_sem] max2_int min2_int max_two min_two max_three min_three max_four min_four   -- for this text's walks alone
set_option linter.unusedVariables false
set_option linter.unusedSimpArgs false

/-! ### bureauref13_Find: function 9 -/
mutual
def bureauref13_Find.j0 : Nat → ByteArray → Bool → Int → Int → List (S41) → Bool → Option (Int × Int × Bool)
  | 0, _, _, _, _, _, _ => none
  | k + 1, x0, x2, x3, x11, x12, x54 => if x54 = true then ((bureauref06_Of.f k x0 x11).bind fun t320 => ((bureauref13_quotes.f k x0 t320 ((x3) % 256)).bind fun t321 => ((bureauref13_about.f k t321 x11).bind fun bt324 => (bureauref13_Find.l0 k x2 x11 t321 bt324.2.2.2 0 bt324.1 bt324.2.1 bt324.2.2.1)))) else ((bureauref13_about.f k x12 x11).bind fun bt334 => ((bureauref13_between.f bt334.1 bt334.2.1 bt334.2.2.1 bt334.2.2.2 x2).bind fun bt339 => (some (bt339.1, bt339.2.1, bt339.2.2))))
def bureauref13_Find.l0 : Nat → Bool → Int → List (S41) → Bool → Int → Int → Int → Int → Option (Int × Int × Bool)
  | 0, _, _, _, _, _, _, _, _ => none
  | k + 1, x2, x11, x12, x16, x17, x329000, x329001, x329002 => if x17 < (x12.length : Int) then (bureauref13_Find.j2 k x2 x11 x12 x16 x17 (!x16) x329000 x329001 x329002) else (bureauref13_Find.j2 k x2 x11 x12 x16 x17 false x329000 x329001 x329002)
def bureauref13_Find.j2 : Nat → Bool → Int → List (S41) → Bool → Int → Bool → Int → Int → Int → Option (Int × Int × Bool)
  | 0, _, _, _, _, _, _, _, _, _ => none
  | k + 1, x2, x11, x12, x16, x17, x81, x329000, x329001, x329002 => if x81 = true then (if 0 ≤ x17 then (if x17 < (x12.length : Int) then (if ((rd_T41 x12 x17).f0) > x11 then (bureauref13_Find.l0 k x2 x11 x12 true (wrap64 (x17 + 1)) ((rd_T41 x12 x17).f0) ((rd_T41 x12 x17).f1) ((rd_T41 x12 x17).f2)) else (bureauref13_Find.l0 k x2 x11 x12 x16 (wrap64 (x17 + 1)) x329000 x329001 x329002)) else (none)) else (none)) else ((bureauref13_between.f x329000 x329001 x329002 x16 x2).bind fun bt331 => (some (bt331.1, bt331.2.1, bt331.2.2)))
end
def bureauref13_Find.f (k : Nat) (a0 : ByteArray) (a1 : Int) (a2 : Bool) (a3 : Int) : Option (Int × Int × Bool) := (bureauref02_Align.f k a0 a1).bind fun t281 => (if t281 = (a0.size : Int) then (some (0, 0, false)) else (if a3 = 119 then ((bureauref13_word.f k a0 t281 a2).bind fun bt282 => (some (bt282.1, bt282.2, true))) else ((bureauref11_In.f k a3 (⟨#[40, 41, 98]⟩ : ByteArray)).bind fun t284 => (if t284 = true then ((bureauref13_Brackets.f k a0 40 41).bind fun t285 => ((bureauref13_about.f k t285 t281).bind fun bt288 => ((bureauref13_between.f bt288.1 bt288.2.1 bt288.2.2.1 bt288.2.2.2 a2).bind fun bt293 => (some (bt293.1, bt293.2.1, bt293.2.2))))) else ((bureauref11_In.f k a3 (⟨#[91, 93]⟩ : ByteArray)).bind fun t296 => (if t296 = true then ((bureauref13_Brackets.f k a0 91 93).bind fun t297 => ((bureauref13_about.f k t297 t281).bind fun bt300 => ((bureauref13_between.f bt300.1 bt300.2.1 bt300.2.2.1 bt300.2.2.2 a2).bind fun bt305 => (some (bt305.1, bt305.2.1, bt305.2.2))))) else ((bureauref11_In.f k a3 (⟨#[123, 125, 66]⟩ : ByteArray)).bind fun t308 => (if t308 = true then ((bureauref13_Brackets.f k a0 123 125).bind fun t309 => ((bureauref13_about.f k t309 t281).bind fun bt312 => ((bureauref13_between.f bt312.1 bt312.2.1 bt312.2.2.1 bt312.2.2.2 a2).bind fun bt317 => (some (bt317.1, bt317.2.1, bt317.2.2))))) else (if a3 = 34 then (bureauref13_Find.j0 k a0 a2 a3 t281 ([] : List (S41)) true) else (bureauref13_Find.j0 k a0 a2 a3 t281 ([] : List (S41)) (a3 == 39)))))))))))
theorem bureauref13_Find.mono_l : ∀ k, (∀ y0 y1 y2 y3 y4 y5, LeO (bureauref13_Find.j0 k y0 y1 y2 y3 y4 y5) (bureauref13_Find.j0 (k + 1) y0 y1 y2 y3 y4 y5)) ∧ (∀ y0 y1 y2 y3 y4 y5 y6 y7, LeO (bureauref13_Find.l0 k y0 y1 y2 y3 y4 y5 y6 y7) (bureauref13_Find.l0 (k + 1) y0 y1 y2 y3 y4 y5 y6 y7)) ∧ (∀ y0 y1 y2 y3 y4 y5 y6 y7 y8, LeO (bureauref13_Find.j2 k y0 y1 y2 y3 y4 y5 y6 y7 y8) (bureauref13_Find.j2 (k + 1) y0 y1 y2 y3 y4 y5 y6 y7 y8))
  | 0 => ⟨fun _ _ _ _ _ _ r h => by simp [bureauref13_Find.j0] at h, fun _ _ _ _ _ _ _ _ r h => by simp [bureauref13_Find.l0] at h, fun _ _ _ _ _ _ _ _ _ r h => by simp [bureauref13_Find.j2] at h⟩
  | k + 1 => by
    obtain ⟨ih0, ih1, ih2⟩ := bureauref13_Find.mono_l k
    refine ⟨?_, ?_, ?_⟩
    · intro y0 y1 y2 y3 y4 y5
      unfold bureauref13_Find.j0
      repeat' first
      | (with_reducible exact ih0 _ _ _ _ _ _)
      | (with_reducible exact ih1 _ _ _ _ _ _ _ _)
      | (with_reducible exact ih2 _ _ _ _ _ _ _ _ _)
      | (with_reducible exact bureauref02_Align.mono _ _ _)
      | (with_reducible exact bureauref06_Of.mono _ _ _)
      | (with_reducible exact bureauref11_In.mono _ _ _)
      | (with_reducible exact bureauref13_Brackets.mono _ _ _ _)
      | (with_reducible exact bureauref13_about.mono _ _ _)
      | (with_reducible exact bureauref13_quotes.mono _ _ _ _)
      | (with_reducible exact bureauref13_word.mono _ _ _ _)
      | (with_reducible exact LeO.refl _)
      | (with_reducible exact LeO.none _)
      | (with_reducible refine LeO.ite ?_ ?_)
      | (with_reducible refine LeO.bind ?_ (fun _ => ?_))
      | exact ih0 _ _ _ _ _ _
      | exact ih1 _ _ _ _ _ _ _ _
      | exact ih2 _ _ _ _ _ _ _ _ _
      | exact bureauref02_Align.mono _ _ _
      | exact bureauref06_Of.mono _ _ _
      | exact bureauref11_In.mono _ _ _
      | exact bureauref13_Brackets.mono _ _ _ _
      | exact bureauref13_about.mono _ _ _
      | exact bureauref13_quotes.mono _ _ _ _
      | exact bureauref13_word.mono _ _ _ _
      | exact LeO.none _
      | refine LeO.ite ?_ ?_
      | refine LeO.bind ?_ (fun _ => ?_)
    · intro y0 y1 y2 y3 y4 y5 y6 y7
      unfold bureauref13_Find.l0
      repeat' first
      | (with_reducible exact ih0 _ _ _ _ _ _)
      | (with_reducible exact ih1 _ _ _ _ _ _ _ _)
      | (with_reducible exact ih2 _ _ _ _ _ _ _ _ _)
      | (with_reducible exact bureauref02_Align.mono _ _ _)
      | (with_reducible exact bureauref06_Of.mono _ _ _)
      | (with_reducible exact bureauref11_In.mono _ _ _)
      | (with_reducible exact bureauref13_Brackets.mono _ _ _ _)
      | (with_reducible exact bureauref13_about.mono _ _ _)
      | (with_reducible exact bureauref13_quotes.mono _ _ _ _)
      | (with_reducible exact bureauref13_word.mono _ _ _ _)
      | (with_reducible exact LeO.refl _)
      | (with_reducible exact LeO.none _)
      | (with_reducible refine LeO.ite ?_ ?_)
      | (with_reducible refine LeO.bind ?_ (fun _ => ?_))
      | exact ih0 _ _ _ _ _ _
      | exact ih1 _ _ _ _ _ _ _ _
      | exact ih2 _ _ _ _ _ _ _ _ _
      | exact bureauref02_Align.mono _ _ _
      | exact bureauref06_Of.mono _ _ _
      | exact bureauref11_In.mono _ _ _
      | exact bureauref13_Brackets.mono _ _ _ _
      | exact bureauref13_about.mono _ _ _
      | exact bureauref13_quotes.mono _ _ _ _
      | exact bureauref13_word.mono _ _ _ _
      | exact LeO.none _
      | refine LeO.ite ?_ ?_
      | refine LeO.bind ?_ (fun _ => ?_)
    · intro y0 y1 y2 y3 y4 y5 y6 y7 y8
      unfold bureauref13_Find.j2
      repeat' first
      | (with_reducible exact ih0 _ _ _ _ _ _)
      | (with_reducible exact ih1 _ _ _ _ _ _ _ _)
      | (with_reducible exact ih2 _ _ _ _ _ _ _ _ _)
      | (with_reducible exact bureauref02_Align.mono _ _ _)
      | (with_reducible exact bureauref06_Of.mono _ _ _)
      | (with_reducible exact bureauref11_In.mono _ _ _)
      | (with_reducible exact bureauref13_Brackets.mono _ _ _ _)
      | (with_reducible exact bureauref13_about.mono _ _ _)
      | (with_reducible exact bureauref13_quotes.mono _ _ _ _)
      | (with_reducible exact bureauref13_word.mono _ _ _ _)
      | (with_reducible exact LeO.refl _)
      | (with_reducible exact LeO.none _)
      | (with_reducible refine LeO.ite ?_ ?_)
      | (with_reducible refine LeO.bind ?_ (fun _ => ?_))
      | exact ih0 _ _ _ _ _ _
      | exact ih1 _ _ _ _ _ _ _ _
      | exact ih2 _ _ _ _ _ _ _ _ _
      | exact bureauref02_Align.mono _ _ _
      | exact bureauref06_Of.mono _ _ _
      | exact bureauref11_In.mono _ _ _
      | exact bureauref13_Brackets.mono _ _ _ _
      | exact bureauref13_about.mono _ _ _
      | exact bureauref13_quotes.mono _ _ _ _
      | exact bureauref13_word.mono _ _ _ _
      | exact LeO.none _
      | refine LeO.ite ?_ ?_
      | refine LeO.bind ?_ (fun _ => ?_)
theorem bureauref13_Find.mono : ∀ a0 a1 a2 a3 k, LeO (bureauref13_Find.f k a0 a1 a2 a3) (bureauref13_Find.f (k + 1) a0 a1 a2 a3) := by
  intro a0 a1 a2 a3 k
  obtain ⟨ih0, ih1, ih2⟩ := bureauref13_Find.mono_l k
  unfold bureauref13_Find.f
  repeat' first
      | (with_reducible exact ih0 _ _ _ _ _ _)
      | (with_reducible exact ih1 _ _ _ _ _ _ _ _)
      | (with_reducible exact ih2 _ _ _ _ _ _ _ _ _)
      | (with_reducible exact bureauref02_Align.mono _ _ _)
      | (with_reducible exact bureauref06_Of.mono _ _ _)
      | (with_reducible exact bureauref11_In.mono _ _ _)
      | (with_reducible exact bureauref13_Brackets.mono _ _ _ _)
      | (with_reducible exact bureauref13_about.mono _ _ _)
      | (with_reducible exact bureauref13_quotes.mono _ _ _ _)
      | (with_reducible exact bureauref13_word.mono _ _ _ _)
      | (with_reducible exact LeO.refl _)
      | (with_reducible exact LeO.none _)
      | (with_reducible refine LeO.ite ?_ ?_)
      | (with_reducible refine LeO.bind ?_ (fun _ => ?_))
      | exact ih0 _ _ _ _ _ _
      | exact ih1 _ _ _ _ _ _ _ _
      | exact ih2 _ _ _ _ _ _ _ _ _
      | exact bureauref02_Align.mono _ _ _
      | exact bureauref06_Of.mono _ _ _
      | exact bureauref11_In.mono _ _ _
      | exact bureauref13_Brackets.mono _ _ _ _
      | exact bureauref13_about.mono _ _ _
      | exact bureauref13_quotes.mono _ _ _ _
      | exact bureauref13_word.mono _ _ _ _
      | exact LeO.none _
      | refine LeO.ite ?_ ?_
      | refine LeO.bind ?_ (fun _ => ?_)
set_option maxHeartbeats 8000000 in
set_option maxRecDepth 100000 in
theorem bureauref13_Find.calls (k : Nat) (a0 : ByteArray) (a1 : Int) (a2 : Bool) (a3 : Int) (r1 : Int) (r2 : Int) (r3 : Bool) (w : World) (h : bureauref13_Find.f k a0 a1 a2 a3 = some (r1, r2, r3)) (hTabs : Tabs w) :
    Calls Tryd.prog 9 #[.string a0, .int .i64 a1, .bool a2, .int .i64 a3] w fun e w' => e = .returned (.tuple #[.int .i64 r1, .int .i64 r2, .bool r3]) ∧ Below w.heap.size w w' := by
  have HTABS := Aside0.mk hTabs
  clear hTabs
  have hu41 := Tryd.underlying41
  have HB := Aside0.mk (Below.refl w.heap.size w)
  have H : ((bureauref02_Align.f k a0 a1).bind fun t281 => (if t281 = (a0.size : Int) then (some (0, 0, false)) else (if a3 = 119 then ((bureauref13_word.f k a0 t281 a2).bind fun bt282 => (some (bt282.1, bt282.2, true))) else ((bureauref11_In.f k a3 (⟨#[40, 41, 98]⟩ : ByteArray)).bind fun t284 => (if t284 = true then ((bureauref13_Brackets.f k a0 40 41).bind fun t285 => ((bureauref13_about.f k t285 t281).bind fun bt288 => ((bureauref13_between.f bt288.1 bt288.2.1 bt288.2.2.1 bt288.2.2.2 a2).bind fun bt293 => (some (bt293.1, bt293.2.1, bt293.2.2))))) else ((bureauref11_In.f k a3 (⟨#[91, 93]⟩ : ByteArray)).bind fun t296 => (if t296 = true then ((bureauref13_Brackets.f k a0 91 93).bind fun t297 => ((bureauref13_about.f k t297 t281).bind fun bt300 => ((bureauref13_between.f bt300.1 bt300.2.1 bt300.2.2.1 bt300.2.2.2 a2).bind fun bt305 => (some (bt305.1, bt305.2.1, bt305.2.2))))) else ((bureauref11_In.f k a3 (⟨#[123, 125, 66]⟩ : ByteArray)).bind fun t308 => (if t308 = true then ((bureauref13_Brackets.f k a0 123 125).bind fun t309 => ((bureauref13_about.f k t309 t281).bind fun bt312 => ((bureauref13_between.f bt312.1 bt312.2.1 bt312.2.2.1 bt312.2.2.2 a2).bind fun bt317 => (some (bt317.1, bt317.2.1, bt317.2.2))))) else (if a3 = 34 then (bureauref13_Find.j0 k a0 a2 a3 t281 ([] : List (S41)) true) else (bureauref13_Find.j0 k a0 a2 a3 t281 ([] : List (S41)) (a3 == 39)))))))))))) = some (r1, r2, r3) := h
  clear h
  replace H := Option.bind_eq_some_iff.mp H
  obtain ⟨t281, A50, H⟩ := H
  replace H : (if t281 = (a0.size : Int) then (some (0, 0, false)) else (if a3 = 119 then ((bureauref13_word.f k a0 t281 a2).bind fun bt282 => (some (bt282.1, bt282.2, true))) else ((bureauref11_In.f k a3 (⟨#[40, 41, 98]⟩ : ByteArray)).bind fun t284 => (if t284 = true then ((bureauref13_Brackets.f k a0 40 41).bind fun t285 => ((bureauref13_about.f k t285 t281).bind fun bt288 => ((bureauref13_between.f bt288.1 bt288.2.1 bt288.2.2.1 bt288.2.2.2 a2).bind fun bt293 => (some (bt293.1, bt293.2.1, bt293.2.2))))) else ((bureauref11_In.f k a3 (⟨#[91, 93]⟩ : ByteArray)).bind fun t296 => (if t296 = true then ((bureauref13_Brackets.f k a0 91 93).bind fun t297 => ((bureauref13_about.f k t297 t281).bind fun bt300 => ((bureauref13_between.f bt300.1 bt300.2.1 bt300.2.2.1 bt300.2.2.2 a2).bind fun bt305 => (some (bt305.1, bt305.2.1, bt305.2.2))))) else ((bureauref11_In.f k a3 (⟨#[123, 125, 66]⟩ : ByteArray)).bind fun t308 => (if t308 = true then ((bureauref13_Brackets.f k a0 123 125).bind fun t309 => ((bureauref13_about.f k t309 t281).bind fun bt312 => ((bureauref13_between.f bt312.1 bt312.2.1 bt312.2.2.1 bt312.2.2.2 a2).bind fun bt317 => (some (bt317.1, bt317.2.1, bt317.2.2))))) else (if a3 = 34 then (bureauref13_Find.j0 k a0 a2 a3 t281 ([] : List (S41)) true) else (bureauref13_Find.j0 k a0 a2 a3 t281 ([] : List (S41)) (a3 == 39))))))))))) = some (r1, r2, r3) := H
  have A5 := Aside0.mk A50
  clear A50
  by_cases c6 : t281 = (a0.size : Int)
  · rw [if_pos c6] at H
    have c6b0 : (t281 == (a0.size : Int)) = true := beq_iff_eq.mpr c6
    have c6b1 : (t281 != (a0.size : Int)) = false := bne_eq_false_iff_eq.mpr c6
    clear c6
    simp only [Option.some.injEq, Prod.mk.injEq] at H
    obtain ⟨rfl, rfl, rfl⟩ := H
    go_enter Tryd.func9, Tryd.ntmps9
    go_wp2_with (first | ((with_reducible refine gate_callee (f := 10) rfl ?_); refine goesL_ (some 22) rfl rfl Tryd.func10 (by kernel_rfl) rfl #[.string a0, .int .i64 a1] rfl (by (try simp only [List.map_toArray, List.map_cons, List.map_nil]); first | done | rfl | (simp only [List.length_drop, List.length_take]; rfl)) ?_; (with_reducible refine (bureauref02_Align.calls k a0 a1 t281 _ A5.out ?sideT).mono ?_); (case sideT => first | exact HTABS.out | exact HTABS.out.below (by repeat (first | (with_reducible first | exact HB.out | apply below_alloc | apply pw_below_drewN | apply below_drew1) | refine below_set ?_ (Aside0.out (by assumption)) | exact HB.out)) (Nat.le_refl _) | exact HTABS.out.below (Below.drew (Below.refl _ _)) (Nat.le_refl _)); rintro e w7 ⟨rfl, hb⟩; refine ⟨_, rfl, ?_⟩; have n0_ := Aside0.mk (below_step (by repeat (first | (with_reducible first | exact HB.out | apply below_alloc | apply pw_below_drewN | apply below_drew1) | exact HB.out)) hb); clear HB; have HB := n0_; clear n0_; (try clear hb); (try clear hb2); (try clear hk); (try clear hi)))
    go_ret3
    exact ⟨by first | rfl | (simp [errW_none, errW_some] <;> rfl) | (simp [*, errW_none, errW_some] <;> rfl), by repeat (first | (with_reducible first | exact HB.out | apply below_alloc | apply pw_below_drewN | apply below_drew1) | exact HB.out)⟩
  · rw [if_neg c6] at H
    have c6b0 : (t281 == (a0.size : Int)) = false := beq_eq_false_iff_ne.mpr c6
    have c6b1 : (t281 != (a0.size : Int)) = true := bne_iff_ne.mpr c6
    by_cases c8 : a3 = 119
    · rw [if_pos c8] at H
      have c8b0 : (a3 == 119) = true := beq_iff_eq.mpr c8
      have c8b1 : (a3 != 119) = false := bne_eq_false_iff_eq.mpr c8
      clear c8
      replace H := Option.bind_eq_some_iff.mp H
      obtain ⟨⟨t282, t283⟩, A90, H⟩ := H
      replace H : (some (t282, t283, true)) = some (r1, r2, r3) := H
      have A9 := Aside0.mk A90
      clear A90
      simp only [Option.some.injEq, Prod.mk.injEq] at H
      obtain ⟨rfl, rfl, rfl⟩ := H
      go_enter Tryd.func9, Tryd.ntmps9
      go_wp2_with (first | ((with_reducible refine gate_callee (f := 10) rfl ?_); refine goesL_ (some 22) rfl rfl Tryd.func10 (by kernel_rfl) rfl #[.string a0, .int .i64 a1] rfl (by (try simp only [List.map_toArray, List.map_cons, List.map_nil]); first | done | rfl | (simp only [List.length_drop, List.length_take]; rfl)) ?_; (with_reducible refine (bureauref02_Align.calls k a0 a1 t281 _ A5.out ?sideT).mono ?_); (case sideT => first | exact HTABS.out | exact HTABS.out.below (by repeat (first | (with_reducible first | exact HB.out | apply below_alloc | apply pw_below_drewN | apply below_drew1) | refine below_set ?_ (Aside0.out (by assumption)) | exact HB.out)) (Nat.le_refl _) | exact HTABS.out.below (Below.drew (Below.refl _ _)) (Nat.le_refl _)); rintro e w10 ⟨rfl, hb⟩; refine ⟨_, rfl, ?_⟩; have n0_ := Aside0.mk (below_step (by repeat (first | (with_reducible first | exact HB.out | apply below_alloc | apply pw_below_drewN | apply below_drew1) | exact HB.out)) hb); clear HB; have HB := n0_; clear n0_; (try clear hb); (try clear hb2); (try clear hk); (try clear hi)) | ((with_reducible refine gate_callee (f := 18) rfl ?_); refine goesL_ (some 34) rfl rfl Tryd.func18 (by kernel_rfl) rfl #[.string a0, .int .i64 t281, .bool a2] rfl (by (try simp only [List.map_toArray, List.map_cons, List.map_nil]); first | done | rfl | (simp only [List.length_drop, List.length_take]; rfl)) ?_; (with_reducible refine (bureauref13_word.calls k a0 t281 a2 t282 t283 _ A9.out ?sideT).mono ?_); (case sideT => first | exact HTABS.out | exact HTABS.out.below (by repeat (first | (with_reducible first | exact HB.out | apply below_alloc | apply pw_below_drewN | apply below_drew1) | refine below_set ?_ (Aside0.out (by assumption)) | exact HB.out)) (Nat.le_refl _) | exact HTABS.out.below (Below.drew (Below.refl _ _)) (Nat.le_refl _)); rintro e w11 ⟨rfl, hb⟩; refine ⟨_, rfl, ?_⟩; have n0_ := Aside0.mk (below_step (by repeat (first | (with_reducible first | exact HB.out | apply below_alloc | apply pw_below_drewN | apply below_drew1) | exact HB.out)) hb); clear HB; have HB := n0_; clear n0_; (try clear hb); (try clear hb2); (try clear hk); (try clear hi)))
      go_ret3
      exact ⟨by first | rfl | (simp [errW_none, errW_some] <;> rfl) | (simp [*, errW_none, errW_some] <;> rfl), by repeat (first | (with_reducible first | exact HB.out | apply below_alloc | apply pw_below_drewN | apply below_drew1) | exact HB.out)⟩
    · rw [if_neg c8] at H
      have c8b0 : (a3 == 119) = false := beq_eq_false_iff_ne.mpr c8
      have c8b1 : (a3 != 119) = true := bne_iff_ne.mpr c8
      replace H := Option.bind_eq_some_iff.mp H
      obtain ⟨t284, A120, H⟩ := H
      replace H : (if t284 = true then ((bureauref13_Brackets.f k a0 40 41).bind fun t285 => ((bureauref13_about.f k t285 t281).bind fun bt288 => ((bureauref13_between.f bt288.1 bt288.2.1 bt288.2.2.1 bt288.2.2.2 a2).bind fun bt293 => (some (bt293.1, bt293.2.1, bt293.2.2))))) else ((bureauref11_In.f k a3 (⟨#[91, 93]⟩ : ByteArray)).bind fun t296 => (if t296 = true then ((bureauref13_Brackets.f k a0 91 93).bind fun t297 => ((bureauref13_about.f k t297 t281).bind fun bt300 => ((bureauref13_between.f bt300.1 bt300.2.1 bt300.2.2.1 bt300.2.2.2 a2).bind fun bt305 => (some (bt305.1, bt305.2.1, bt305.2.2))))) else ((bureauref11_In.f k a3 (⟨#[123, 125, 66]⟩ : ByteArray)).bind fun t308 => (if t308 = true then ((bureauref13_Brackets.f k a0 123 125).bind fun t309 => ((bureauref13_about.f k t309 t281).bind fun bt312 => ((bureauref13_between.f bt312.1 bt312.2.1 bt312.2.2.1 bt312.2.2.2 a2).bind fun bt317 => (some (bt317.1, bt317.2.1, bt317.2.2))))) else (if a3 = 34 then (bureauref13_Find.j0 k a0 a2 a3 t281 ([] : List (S41)) true) else (bureauref13_Find.j0 k a0 a2 a3 t281 ([] : List (S41)) (a3 == 39)))))))) = some (r1, r2, r3) := H
      have A12 := Aside0.mk A120
      clear A120
      by_cases c13 : t284 = true
      · subst c13
        have H1 : ((bureauref13_Brackets.f k a0 40 41).bind fun t285 => ((bureauref13_about.f k t285 t281).bind fun bt288 => ((bureauref13_between.f bt288.1 bt288.2.1 bt288.2.2.1 bt288.2.2.2 a2).bind fun bt293 => (some (bt293.1, bt293.2.1, bt293.2.2))))) = some (r1, r2, r3) := by rw [if_pos rfl] at H; exact H
        clear H
        have H := H1
        clear H1
        replace H := Option.bind_eq_some_iff.mp H
        obtain ⟨t285, A140, H⟩ := H
        replace H : ((bureauref13_about.f k t285 t281).bind fun bt288 => ((bureauref13_between.f bt288.1 bt288.2.1 bt288.2.2.1 bt288.2.2.2 a2).bind fun bt293 => (some (bt293.1, bt293.2.1, bt293.2.2)))) = some (r1, r2, r3) := H
        have A14 := Aside0.mk A140
        clear A140
        replace H := Option.bind_eq_some_iff.mp H
        obtain ⟨⟨t288, t289, t290, t291⟩, A150, H⟩ := H
        replace H : ((bureauref13_between.f t288 t289 t290 t291 a2).bind fun bt293 => (some (bt293.1, bt293.2.1, bt293.2.2))) = some (r1, r2, r3) := H
        have A15 := Aside0.mk A150
        clear A150
        replace H := Option.bind_eq_some_iff.mp H
        obtain ⟨⟨t293, t294, t295⟩, A160, H⟩ := H
        replace H : (some (t293, t294, t295)) = some (r1, r2, r3) := H
        have A16 := Aside0.mk A160
        clear A160
        simp only [Option.some.injEq, Prod.mk.injEq] at H
        obtain ⟨rfl, rfl, rfl⟩ := H
        go_enter Tryd.func9, Tryd.ntmps9
        go_wp2_with (first | ((with_reducible refine gate_callee (f := 10) rfl ?_); refine goesL_ (some 22) rfl rfl Tryd.func10 (by kernel_rfl) rfl #[.string a0, .int .i64 a1] rfl (by (try simp only [List.map_toArray, List.map_cons, List.map_nil]); first | done | rfl | (simp only [List.length_drop, List.length_take]; rfl)) ?_; (with_reducible refine (bureauref02_Align.calls k a0 a1 t281 _ A5.out ?sideT).mono ?_); (case sideT => first | exact HTABS.out | exact HTABS.out.below (by repeat (first | (with_reducible first | exact HB.out | apply below_alloc | apply pw_below_drewN | apply below_drew1) | refine below_set ?_ (Aside0.out (by assumption)) | exact HB.out)) (Nat.le_refl _) | exact HTABS.out.below (Below.drew (Below.refl _ _)) (Nat.le_refl _)); rintro e w17 ⟨rfl, hb⟩; refine ⟨_, rfl, ?_⟩; have n0_ := Aside0.mk (below_step (by repeat (first | (with_reducible first | exact HB.out | apply below_alloc | apply pw_below_drewN | apply below_drew1) | exact HB.out)) hb); clear HB; have HB := n0_; clear n0_; (try clear hb); (try clear hb2); (try clear hk); (try clear hi)) | ((with_reducible refine gate_callee (f := 19) rfl ?_); refine goesL_ (some 41) rfl rfl Tryd.func19 (by kernel_rfl) rfl #[.int .i64 a3, .string (⟨#[40, 41, 98]⟩ : ByteArray)] rfl (by (try simp only [List.map_toArray, List.map_cons, List.map_nil]); first | done | rfl | (simp only [List.length_drop, List.length_take]; rfl)) ?_; (with_reducible refine (bureauref11_In.calls k a3 (⟨#[40, 41, 98]⟩ : ByteArray) true _ A12.out ?sideT).mono ?_); (case sideT => first | exact HTABS.out | exact HTABS.out.below (by repeat (first | (with_reducible first | exact HB.out | apply below_alloc | apply pw_below_drewN | apply below_drew1) | refine below_set ?_ (Aside0.out (by assumption)) | exact HB.out)) (Nat.le_refl _) | exact HTABS.out.below (Below.drew (Below.refl _ _)) (Nat.le_refl _)); rintro e w' ⟨rfl, ⟨nd, rfl⟩⟩; refine ⟨_, rfl, ?_⟩; (try (rw [drewN_self w17]; generalize hq_ : World.drewN w17 _ = w17; have n0_ : Aside0 (Below w.heap.size w w17) := ⟨by rw [← hq_]; exact (by repeat (first | (with_reducible first | exact HB.out | apply below_alloc | apply pw_below_drewN | apply below_drew1) | exact HB.out))⟩; clear HB hq_; have HB := n0_; clear n0_))) | ((with_reducible refine gate_callee (f := 20) rfl ?_); refine goesL_ (some 43) rfl rfl Tryd.func20 (by kernel_rfl) rfl #[.string a0, .int .u8 40, .int .u8 41] rfl (by (try simp only [List.map_toArray, List.map_cons, List.map_nil]); first | done | rfl | (simp only [List.length_drop, List.length_take]; rfl)) ?_; (with_reducible refine (bureauref13_Brackets.calls k a0 40 41 t285 _ A14.out ?sideT).mono ?_); (case sideT => first | exact HTABS.out | exact HTABS.out.below (by repeat (first | (with_reducible first | exact HB.out | apply below_alloc | apply pw_below_drewN | apply below_drew1) | refine below_set ?_ (Aside0.out (by assumption)) | exact HB.out)) (Nat.le_refl _) | exact HTABS.out.below (Below.drew (Below.refl _ _)) (Nat.le_refl _)); rintro e w18 ⟨v286, rfl, ho0, hb⟩; refine ⟨_, rfl, ?_⟩; have n0_ := Aside0.mk (Kd.R_lower ho0 (below_size (by repeat (first | (with_reducible first | exact HB.out | apply below_alloc | apply pw_below_drewN | apply below_drew1) | exact HB.out)))); have n1_ := Aside0.mk (below_step (by repeat (first | (with_reducible first | exact HB.out | apply below_alloc | apply pw_below_drewN | apply below_drew1) | exact HB.out)) hb); clear HB; have HO287 := n0_; have HB := n1_; clear n0_ n1_; (try clear hb); (try clear hb2); (try clear hk); (try clear hi); (try clear ho0); obtain ⟨Ao19, co19, eo19⟩ := Kd.R_slice HO287.out; subst eo19) | ((with_reducible refine gate_callee (f := 23) rfl ?_); refine goesL_ (some 105) rfl rfl Tryd.func23 (by kernel_rfl) rfl #[.slice Ao19 t285.length co19, .int .i64 t281] rfl (by (try simp only [List.map_toArray, List.map_cons, List.map_nil]); first | done | rfl | (simp only [List.length_drop, List.length_take]; rfl)) ?_; (with_reducible refine (bureauref13_about.calls k _ _ t285 t281 t288 t289 t290 t291 _ ?side1 ?side2 A15.out ?sideT).mono ?_); (case sideT => first | exact HTABS.out | exact HTABS.out.below (by repeat (first | (with_reducible first | exact HB.out | apply below_alloc | apply pw_below_drewN | apply below_drew1) | refine below_set ?_ (Aside0.out (by assumption)) | exact HB.out)) (Nat.le_refl _) | exact HTABS.out.below (Below.drew (Below.refl _ _)) (Nat.le_refl _)); (case side1 => repeat (first | exact (Kd.R_reads' HO287.out).2.2 | (with_reducible refine Kd.C_alloc ?_ _) | (with_reducible refine Kd.C_drewN ?_ _) | (with_reducible refine Kd.C_drew ?_))); (case side2 => exact (Kd.R_reads' HO287.out).2.1); rintro e w20 ⟨rfl, hb⟩; refine ⟨_, rfl, ?_⟩; have n0_ := Aside0.mk (Kd.R_below (by (with_reducible repeat (first | apply Kd.R_alloc | apply Kd.R_drewN | apply Kd.R_drew)); exact HO287.out) hb); have n1_ := Aside0.mk (below_step (by repeat (first | (with_reducible first | exact HB.out | apply below_alloc | apply pw_below_drewN | apply below_drew1) | exact HB.out)) hb); clear HO287; clear HB; have HO287 := n0_; have HB := n1_; clear n0_ n1_; (try clear hb); (try clear hb2); (try clear hk); (try clear hi)) | ((with_reducible refine gate_dst (N := 18) rfl ?_); refine box_event ?hg (N := 18) ?hd (cs := #[.int .i64 0, .int .i64 0, .int .i64 0]) (t := 41) ?hr ?_; (case hd => rfl); (case hg => rfl); (case hr => first | (go_simp; done) | (go_simp; rfl)); intro gb292 hg w21 hbox hb; have n0_ := Aside0.mk (Kd.R_below (Kd.R_elderB (by (with_reducible repeat (first | apply Kd.R_alloc | apply Kd.R_drewN | apply Kd.R_drew)); exact HO287.out) gb292 (Nat.le_of_eq hg.symm)) hb); have n1_ := Aside0.mk (below_step (by repeat (first | (with_reducible first | exact HB.out | apply below_alloc | apply pw_below_drewN | apply below_drew1) | exact HB.out)) hb); have n2_ := Aside0.mk (hbox); have n3_ := Aside0.mk ((by rw [hg]; exact (below_size (by repeat (first | (with_reducible first | exact HB.out | apply below_alloc | apply pw_below_drewN | apply below_drew1) | exact HB.out))) : w.heap.size ≤ gb292)); have n4_ := Aside0.mk ((by rw [hg]; exact (below_size (by repeat (first | (with_reducible first | exact HB.out | apply below_alloc | apply pw_below_drewN | apply below_drew1) | exact HB.out))) : w.heap.size ≤ gb292)); clear HO287; clear HB; have HO287 := n0_; have HB := n1_; have BK292 := n2_; have GW292 := n3_; have GE292 := n4_; clear n0_ n1_ n2_ n3_ n4_; clear hb hbox hg; have hcz22_0 : w21.cell? ⟨gb292, 0, none⟩ = some (.int .i64 0) := (blk_cell BK292.out 0).trans rfl; have hcz22_1 : w21.cell? ⟨gb292, 1, none⟩ = some (.int .i64 0) := (blk_cell BK292.out 1).trans rfl; have hcz22_2 : w21.cell? ⟨gb292, 2, none⟩ = some (.int .i64 0) := (blk_cell BK292.out 2).trans rfl; have hfz22_0 := blk_frozen BK292.out 0; have hfz22_1 := blk_frozen BK292.out 1; have hfz22_2 := blk_frozen BK292.out 2) | ((with_reducible refine gate_callee (f := 24) rfl ?_); refine goesL_ (some 111) rfl rfl Tryd.func24 (by kernel_rfl) rfl #[.agg #[.int .i64 t288, .int .i64 t289, .int .i64 t290], .bool t291, .bool a2] rfl (by (try simp only [List.map_toArray, List.map_cons, List.map_nil]); first | done | rfl | (simp only [List.length_drop, List.length_take]; rfl)) ?_; (with_reducible refine (bureauref13_between.calls t288 t289 t290 t291 a2 t293 t294 t295 _ A16.out ?sideT).mono ?_); (case sideT => first | exact HTABS.out | exact HTABS.out.below (by repeat (first | (with_reducible first | exact HB.out | apply below_alloc | apply pw_below_drewN | apply below_drew1) | refine below_set ?_ (Aside0.out (by assumption)) | exact HB.out)) (Nat.le_refl _) | exact HTABS.out.below (Below.drew (Below.refl _ _)) (Nat.le_refl _)); rintro e w23 ⟨rfl, hb⟩; refine ⟨_, rfl, ?_⟩; have n0_ := Aside0.mk (Kd.R_below (by (with_reducible repeat (first | apply Kd.R_alloc | apply Kd.R_drewN | apply Kd.R_drew)); exact (Kd.R_mono (Kd.R_far (p := ⟨gb292, 2, none⟩) (Kd.R_far (p := ⟨gb292, 1, none⟩) (Kd.R_far (p := ⟨gb292, 0, none⟩) (Kd.R_mono HO287.out (fun k_ hk => (⟨hk, hk.2⟩ : _ ∧ k_ ≠ gb292))) (fun _ hk => hk.2) (.int .i64 t288)) (fun _ hk => hk.2) (.int .i64 t289)) (fun _ hk => hk.2) (.int .i64 t290)) (fun _ h_ => h_.1))) hb); have n1_ := Aside0.mk (blk_below (g := gb292) (o := .cells #[.int .i64 t288, .int .i64 t289, .int .i64 t290] 41 (0, 0)) (by (with_reducible repeat (first | refine blk_drewN ?_ _ | refine blk_drew ?_ | refine blk_alloc ?_ _)); refine blk_put (cs := #[.int .i64 t288, .int .i64 t289, .int .i64 0]) ?_ 2 _ rfl; (with_reducible repeat (first | refine blk_drewN ?_ _ | refine blk_drew ?_ | refine blk_alloc ?_ _)); refine blk_put (cs := #[.int .i64 t288, .int .i64 0, .int .i64 0]) ?_ 1 _ rfl; (with_reducible repeat (first | refine blk_drewN ?_ _ | refine blk_drew ?_ | refine blk_alloc ?_ _)); refine blk_put (cs := #[.int .i64 0, .int .i64 0, .int .i64 0]) ?_ 0 _ rfl; (with_reducible repeat (first | refine blk_drewN ?_ _ | refine blk_drew ?_ | refine blk_alloc ?_ _)); exact BK292.out) hb); have n2_ := Aside0.mk (below_step (by repeat (first | (with_reducible first | exact HB.out | apply below_alloc | apply pw_below_drewN | apply below_drew1 | refine below_set ?_ GE292.out) | exact HB.out)) hb); clear HO287; clear BK292; clear HB; have HO287 := n0_; have BK292 := n1_; have HB := n2_; clear n0_ n1_ n2_; (try clear hb); (try clear hb2); (try clear hk); (try clear hi)))
        go_ret3
        exact ⟨by first | rfl | (simp [errW_none, errW_some] <;> rfl) | (simp [*, errW_none, errW_some] <;> rfl), by repeat (first | (with_reducible first | exact HB.out | apply below_alloc | apply pw_below_drewN | apply below_drew1 | refine below_set ?_ GE292.out) | exact HB.out)⟩
      · replace c13 := Bool.eq_false_iff.mpr c13
        subst c13
        have H1 : ((bureauref11_In.f k a3 (⟨#[91, 93]⟩ : ByteArray)).bind fun t296 => (if t296 = true then ((bureauref13_Brackets.f k a0 91 93).bind fun t297 => ((bureauref13_about.f k t297 t281).bind fun bt300 => ((bureauref13_between.f bt300.1 bt300.2.1 bt300.2.2.1 bt300.2.2.2 a2).bind fun bt305 => (some (bt305.1, bt305.2.1, bt305.2.2))))) else ((bureauref11_In.f k a3 (⟨#[123, 125, 66]⟩ : ByteArray)).bind fun t308 => (if t308 = true then ((bureauref13_Brackets.f k a0 123 125).bind fun t309 => ((bureauref13_about.f k t309 t281).bind fun bt312 => ((bureauref13_between.f bt312.1 bt312.2.1 bt312.2.2.1 bt312.2.2.2 a2).bind fun bt317 => (some (bt317.1, bt317.2.1, bt317.2.2))))) else (if a3 = 34 then (bureauref13_Find.j0 k a0 a2 a3 t281 ([] : List (S41)) true) else (bureauref13_Find.j0 k a0 a2 a3 t281 ([] : List (S41)) (a3 == 39))))))) = some (r1, r2, r3) := by rw [if_neg (show ¬ (false = true) by decide)] at H; exact H
        clear H
        have H := H1
        clear H1
        replace H := Option.bind_eq_some_iff.mp H
        obtain ⟨t296, A240, H⟩ := H
        replace H : (if t296 = true then ((bureauref13_Brackets.f k a0 91 93).bind fun t297 => ((bureauref13_about.f k t297 t281).bind fun bt300 => ((bureauref13_between.f bt300.1 bt300.2.1 bt300.2.2.1 bt300.2.2.2 a2).bind fun bt305 => (some (bt305.1, bt305.2.1, bt305.2.2))))) else ((bureauref11_In.f k a3 (⟨#[123, 125, 66]⟩ : ByteArray)).bind fun t308 => (if t308 = true then ((bureauref13_Brackets.f k a0 123 125).bind fun t309 => ((bureauref13_about.f k t309 t281).bind fun bt312 => ((bureauref13_between.f bt312.1 bt312.2.1 bt312.2.2.1 bt312.2.2.2 a2).bind fun bt317 => (some (bt317.1, bt317.2.1, bt317.2.2))))) else (if a3 = 34 then (bureauref13_Find.j0 k a0 a2 a3 t281 ([] : List (S41)) true) else (bureauref13_Find.j0 k a0 a2 a3 t281 ([] : List (S41)) (a3 == 39)))))) = some (r1, r2, r3) := H
        have A24 := Aside0.mk A240
        clear A240
        by_cases c25 : t296 = true
        · subst c25
          have H1 : ((bureauref13_Brackets.f k a0 91 93).bind fun t297 => ((bureauref13_about.f k t297 t281).bind fun bt300 => ((bureauref13_between.f bt300.1 bt300.2.1 bt300.2.2.1 bt300.2.2.2 a2).bind fun bt305 => (some (bt305.1, bt305.2.1, bt305.2.2))))) = some (r1, r2, r3) := by rw [if_pos rfl] at H; exact H
          clear H
          have H := H1
          clear H1
          replace H := Option.bind_eq_some_iff.mp H
          obtain ⟨t297, A260, H⟩ := H
          replace H : ((bureauref13_about.f k t297 t281).bind fun bt300 => ((bureauref13_between.f bt300.1 bt300.2.1 bt300.2.2.1 bt300.2.2.2 a2).bind fun bt305 => (some (bt305.1, bt305.2.1, bt305.2.2)))) = some (r1, r2, r3) := H
          have A26 := Aside0.mk A260
          clear A260
          replace H := Option.bind_eq_some_iff.mp H
          obtain ⟨⟨t300, t301, t302, t303⟩, A270, H⟩ := H
          replace H : ((bureauref13_between.f t300 t301 t302 t303 a2).bind fun bt305 => (some (bt305.1, bt305.2.1, bt305.2.2))) = some (r1, r2, r3) := H
          have A27 := Aside0.mk A270
          clear A270
          replace H := Option.bind_eq_some_iff.mp H
          obtain ⟨⟨t305, t306, t307⟩, A280, H⟩ := H
          replace H : (some (t305, t306, t307)) = some (r1, r2, r3) := H
          have A28 := Aside0.mk A280
          clear A280
          simp only [Option.some.injEq, Prod.mk.injEq] at H
          obtain ⟨rfl, rfl, rfl⟩ := H
          go_enter Tryd.func9, Tryd.ntmps9
          go_wp2_with (first | ((with_reducible refine gate_callee (f := 10) rfl ?_); refine goesL_ (some 22) rfl rfl Tryd.func10 (by kernel_rfl) rfl #[.string a0, .int .i64 a1] rfl (by (try simp only [List.map_toArray, List.map_cons, List.map_nil]); first | done | rfl | (simp only [List.length_drop, List.length_take]; rfl)) ?_; (with_reducible refine (bureauref02_Align.calls k a0 a1 t281 _ A5.out ?sideT).mono ?_); (case sideT => first | exact HTABS.out | exact HTABS.out.below (by repeat (first | (with_reducible first | exact HB.out | apply below_alloc | apply pw_below_drewN | apply below_drew1) | refine below_set ?_ (Aside0.out (by assumption)) | exact HB.out)) (Nat.le_refl _) | exact HTABS.out.below (Below.drew (Below.refl _ _)) (Nat.le_refl _)); rintro e w29 ⟨rfl, hb⟩; refine ⟨_, rfl, ?_⟩; have n0_ := Aside0.mk (below_step (by repeat (first | (with_reducible first | exact HB.out | apply below_alloc | apply pw_below_drewN | apply below_drew1) | exact HB.out)) hb); clear HB; have HB := n0_; clear n0_; (try clear hb); (try clear hb2); (try clear hk); (try clear hi)) | ((with_reducible refine gate_callee (f := 19) rfl ?_); refine goesL_ (some 41) rfl rfl Tryd.func19 (by kernel_rfl) rfl #[.int .i64 a3, .string (⟨#[40, 41, 98]⟩ : ByteArray)] rfl (by (try simp only [List.map_toArray, List.map_cons, List.map_nil]); first | done | rfl | (simp only [List.length_drop, List.length_take]; rfl)) ?_; (with_reducible refine (bureauref11_In.calls k a3 (⟨#[40, 41, 98]⟩ : ByteArray) false _ A12.out ?sideT).mono ?_); (case sideT => first | exact HTABS.out | exact HTABS.out.below (by repeat (first | (with_reducible first | exact HB.out | apply below_alloc | apply pw_below_drewN | apply below_drew1) | refine below_set ?_ (Aside0.out (by assumption)) | exact HB.out)) (Nat.le_refl _) | exact HTABS.out.below (Below.drew (Below.refl _ _)) (Nat.le_refl _)); rintro e w' ⟨rfl, ⟨nd, rfl⟩⟩; refine ⟨_, rfl, ?_⟩; (try (rw [drewN_self w29]; generalize hq_ : World.drewN w29 _ = w29; have n0_ : Aside0 (Below w.heap.size w w29) := ⟨by rw [← hq_]; exact (by repeat (first | (with_reducible first | exact HB.out | apply below_alloc | apply pw_below_drewN | apply below_drew1) | exact HB.out))⟩; clear HB hq_; have HB := n0_; clear n0_))) | ((with_reducible refine gate_callee (f := 19) rfl ?_); refine goesL_ (some 46) rfl rfl Tryd.func19 (by kernel_rfl) rfl #[.int .i64 a3, .string (⟨#[91, 93]⟩ : ByteArray)] rfl (by (try simp only [List.map_toArray, List.map_cons, List.map_nil]); first | done | rfl | (simp only [List.length_drop, List.length_take]; rfl)) ?_; (with_reducible refine (bureauref11_In.calls k a3 (⟨#[91, 93]⟩ : ByteArray) true _ A24.out ?sideT).mono ?_); (case sideT => first | exact HTABS.out | exact HTABS.out.below (by repeat (first | (with_reducible first | exact HB.out | apply below_alloc | apply pw_below_drewN | apply below_drew1) | refine below_set ?_ (Aside0.out (by assumption)) | exact HB.out)) (Nat.le_refl _) | exact HTABS.out.below (Below.drew (Below.refl _ _)) (Nat.le_refl _)); rintro e w' ⟨rfl, ⟨nd, rfl⟩⟩; refine ⟨_, rfl, ?_⟩; (try (rw [drewN_self w29]; generalize hq_ : World.drewN w29 _ = w29; have n0_ : Aside0 (Below w.heap.size w w29) := ⟨by rw [← hq_]; exact (by repeat (first | (with_reducible first | exact HB.out | apply below_alloc | apply pw_below_drewN | apply below_drew1) | exact HB.out))⟩; clear HB hq_; have HB := n0_; clear n0_))) | ((with_reducible refine gate_callee (f := 20) rfl ?_); refine goesL_ (some 48) rfl rfl Tryd.func20 (by kernel_rfl) rfl #[.string a0, .int .u8 91, .int .u8 93] rfl (by (try simp only [List.map_toArray, List.map_cons, List.map_nil]); first | done | rfl | (simp only [List.length_drop, List.length_take]; rfl)) ?_; (with_reducible refine (bureauref13_Brackets.calls k a0 91 93 t297 _ A26.out ?sideT).mono ?_); (case sideT => first | exact HTABS.out | exact HTABS.out.below (by repeat (first | (with_reducible first | exact HB.out | apply below_alloc | apply pw_below_drewN | apply below_drew1) | refine below_set ?_ (Aside0.out (by assumption)) | exact HB.out)) (Nat.le_refl _) | exact HTABS.out.below (Below.drew (Below.refl _ _)) (Nat.le_refl _)); rintro e w30 ⟨v298, rfl, ho0, hb⟩; refine ⟨_, rfl, ?_⟩; have n0_ := Aside0.mk (Kd.R_lower ho0 (below_size (by repeat (first | (with_reducible first | exact HB.out | apply below_alloc | apply pw_below_drewN | apply below_drew1) | exact HB.out)))); have n1_ := Aside0.mk (below_step (by repeat (first | (with_reducible first | exact HB.out | apply below_alloc | apply pw_below_drewN | apply below_drew1) | exact HB.out)) hb); clear HB; have HO299 := n0_; have HB := n1_; clear n0_ n1_; (try clear hb); (try clear hb2); (try clear hk); (try clear hi); (try clear ho0); obtain ⟨Ao31, co31, eo31⟩ := Kd.R_slice HO299.out; subst eo31) | ((with_reducible refine gate_callee (f := 23) rfl ?_); refine goesL_ (some 105) rfl rfl Tryd.func23 (by kernel_rfl) rfl #[.slice Ao31 t297.length co31, .int .i64 t281] rfl (by (try simp only [List.map_toArray, List.map_cons, List.map_nil]); first | done | rfl | (simp only [List.length_drop, List.length_take]; rfl)) ?_; (with_reducible refine (bureauref13_about.calls k _ _ t297 t281 t300 t301 t302 t303 _ ?side1 ?side2 A27.out ?sideT).mono ?_); (case sideT => first | exact HTABS.out | exact HTABS.out.below (by repeat (first | (with_reducible first | exact HB.out | apply below_alloc | apply pw_below_drewN | apply below_drew1) | refine below_set ?_ (Aside0.out (by assumption)) | exact HB.out)) (Nat.le_refl _) | exact HTABS.out.below (Below.drew (Below.refl _ _)) (Nat.le_refl _)); (case side1 => repeat (first | exact (Kd.R_reads' HO299.out).2.2 | (with_reducible refine Kd.C_alloc ?_ _) | (with_reducible refine Kd.C_drewN ?_ _) | (with_reducible refine Kd.C_drew ?_))); (case side2 => exact (Kd.R_reads' HO299.out).2.1); rintro e w32 ⟨rfl, hb⟩; refine ⟨_, rfl, ?_⟩; have n0_ := Aside0.mk (Kd.R_below (by (with_reducible repeat (first | apply Kd.R_alloc | apply Kd.R_drewN | apply Kd.R_drew)); exact HO299.out) hb); have n1_ := Aside0.mk (below_step (by repeat (first | (with_reducible first | exact HB.out | apply below_alloc | apply pw_below_drewN | apply below_drew1) | exact HB.out)) hb); clear HO299; clear HB; have HO299 := n0_; have HB := n1_; clear n0_ n1_; (try clear hb); (try clear hb2); (try clear hk); (try clear hi)) | ((with_reducible refine gate_dst (N := 18) rfl ?_); refine box_event ?hg (N := 18) ?hd (cs := #[.int .i64 0, .int .i64 0, .int .i64 0]) (t := 41) ?hr ?_; (case hd => rfl); (case hg => rfl); (case hr => first | (go_simp; done) | (go_simp; rfl)); intro gb304 hg w33 hbox hb; have n0_ := Aside0.mk (Kd.R_below (Kd.R_elderB (by (with_reducible repeat (first | apply Kd.R_alloc | apply Kd.R_drewN | apply Kd.R_drew)); exact HO299.out) gb304 (Nat.le_of_eq hg.symm)) hb); have n1_ := Aside0.mk (below_step (by repeat (first | (with_reducible first | exact HB.out | apply below_alloc | apply pw_below_drewN | apply below_drew1) | exact HB.out)) hb); have n2_ := Aside0.mk (hbox); have n3_ := Aside0.mk ((by rw [hg]; exact (below_size (by repeat (first | (with_reducible first | exact HB.out | apply below_alloc | apply pw_below_drewN | apply below_drew1) | exact HB.out))) : w.heap.size ≤ gb304)); have n4_ := Aside0.mk ((by rw [hg]; exact (below_size (by repeat (first | (with_reducible first | exact HB.out | apply below_alloc | apply pw_below_drewN | apply below_drew1) | exact HB.out))) : w.heap.size ≤ gb304)); clear HO299; clear HB; have HO299 := n0_; have HB := n1_; have BK304 := n2_; have GW304 := n3_; have GE304 := n4_; clear n0_ n1_ n2_ n3_ n4_; clear hb hbox hg; have hcz34_0 : w33.cell? ⟨gb304, 0, none⟩ = some (.int .i64 0) := (blk_cell BK304.out 0).trans rfl; have hcz34_1 : w33.cell? ⟨gb304, 1, none⟩ = some (.int .i64 0) := (blk_cell BK304.out 1).trans rfl; have hcz34_2 : w33.cell? ⟨gb304, 2, none⟩ = some (.int .i64 0) := (blk_cell BK304.out 2).trans rfl; have hfz34_0 := blk_frozen BK304.out 0; have hfz34_1 := blk_frozen BK304.out 1; have hfz34_2 := blk_frozen BK304.out 2) | ((with_reducible refine gate_callee (f := 24) rfl ?_); refine goesL_ (some 111) rfl rfl Tryd.func24 (by kernel_rfl) rfl #[.agg #[.int .i64 t300, .int .i64 t301, .int .i64 t302], .bool t303, .bool a2] rfl (by (try simp only [List.map_toArray, List.map_cons, List.map_nil]); first | done | rfl | (simp only [List.length_drop, List.length_take]; rfl)) ?_; (with_reducible refine (bureauref13_between.calls t300 t301 t302 t303 a2 t305 t306 t307 _ A28.out ?sideT).mono ?_); (case sideT => first | exact HTABS.out | exact HTABS.out.below (by repeat (first | (with_reducible first | exact HB.out | apply below_alloc | apply pw_below_drewN | apply below_drew1) | refine below_set ?_ (Aside0.out (by assumption)) | exact HB.out)) (Nat.le_refl _) | exact HTABS.out.below (Below.drew (Below.refl _ _)) (Nat.le_refl _)); rintro e w35 ⟨rfl, hb⟩; refine ⟨_, rfl, ?_⟩; have n0_ := Aside0.mk (Kd.R_below (by (with_reducible repeat (first | apply Kd.R_alloc | apply Kd.R_drewN | apply Kd.R_drew)); exact (Kd.R_mono (Kd.R_far (p := ⟨gb304, 2, none⟩) (Kd.R_far (p := ⟨gb304, 1, none⟩) (Kd.R_far (p := ⟨gb304, 0, none⟩) (Kd.R_mono HO299.out (fun k_ hk => (⟨hk, hk.2⟩ : _ ∧ k_ ≠ gb304))) (fun _ hk => hk.2) (.int .i64 t300)) (fun _ hk => hk.2) (.int .i64 t301)) (fun _ hk => hk.2) (.int .i64 t302)) (fun _ h_ => h_.1))) hb); have n1_ := Aside0.mk (blk_below (g := gb304) (o := .cells #[.int .i64 t300, .int .i64 t301, .int .i64 t302] 41 (0, 0)) (by (with_reducible repeat (first | refine blk_drewN ?_ _ | refine blk_drew ?_ | refine blk_alloc ?_ _)); refine blk_put (cs := #[.int .i64 t300, .int .i64 t301, .int .i64 0]) ?_ 2 _ rfl; (with_reducible repeat (first | refine blk_drewN ?_ _ | refine blk_drew ?_ | refine blk_alloc ?_ _)); refine blk_put (cs := #[.int .i64 t300, .int .i64 0, .int .i64 0]) ?_ 1 _ rfl; (with_reducible repeat (first | refine blk_drewN ?_ _ | refine blk_drew ?_ | refine blk_alloc ?_ _)); refine blk_put (cs := #[.int .i64 0, .int .i64 0, .int .i64 0]) ?_ 0 _ rfl; (with_reducible repeat (first | refine blk_drewN ?_ _ | refine blk_drew ?_ | refine blk_alloc ?_ _)); exact BK304.out) hb); have n2_ := Aside0.mk (below_step (by repeat (first | (with_reducible first | exact HB.out | apply below_alloc | apply pw_below_drewN | apply below_drew1 | refine below_set ?_ GE304.out) | exact HB.out)) hb); clear HO299; clear BK304; clear HB; have HO299 := n0_; have BK304 := n1_; have HB := n2_; clear n0_ n1_ n2_; (try clear hb); (try clear hb2); (try clear hk); (try clear hi)))
          go_ret3
          exact ⟨by first | rfl | (simp [errW_none, errW_some] <;> rfl) | (simp [*, errW_none, errW_some] <;> rfl), by repeat (first | (with_reducible first | exact HB.out | apply below_alloc | apply pw_below_drewN | apply below_drew1 | refine below_set ?_ GE304.out) | exact HB.out)⟩
        · replace c25 := Bool.eq_false_iff.mpr c25
          subst c25
          have H1 : ((bureauref11_In.f k a3 (⟨#[123, 125, 66]⟩ : ByteArray)).bind fun t308 => (if t308 = true then ((bureauref13_Brackets.f k a0 123 125).bind fun t309 => ((bureauref13_about.f k t309 t281).bind fun bt312 => ((bureauref13_between.f bt312.1 bt312.2.1 bt312.2.2.1 bt312.2.2.2 a2).bind fun bt317 => (some (bt317.1, bt317.2.1, bt317.2.2))))) else (if a3 = 34 then (bureauref13_Find.j0 k a0 a2 a3 t281 ([] : List (S41)) true) else (bureauref13_Find.j0 k a0 a2 a3 t281 ([] : List (S41)) (a3 == 39))))) = some (r1, r2, r3) := by rw [if_neg (show ¬ (false = true) by decide)] at H; exact H
          clear H
          have H := H1
          clear H1
          replace H := Option.bind_eq_some_iff.mp H
          obtain ⟨t308, A360, H⟩ := H
          replace H : (if t308 = true then ((bureauref13_Brackets.f k a0 123 125).bind fun t309 => ((bureauref13_about.f k t309 t281).bind fun bt312 => ((bureauref13_between.f bt312.1 bt312.2.1 bt312.2.2.1 bt312.2.2.2 a2).bind fun bt317 => (some (bt317.1, bt317.2.1, bt317.2.2))))) else (if a3 = 34 then (bureauref13_Find.j0 k a0 a2 a3 t281 ([] : List (S41)) true) else (bureauref13_Find.j0 k a0 a2 a3 t281 ([] : List (S41)) (a3 == 39)))) = some (r1, r2, r3) := H
          have A36 := Aside0.mk A360
          clear A360
          by_cases c37 : t308 = true
          · subst c37
            have H1 : ((bureauref13_Brackets.f k a0 123 125).bind fun t309 => ((bureauref13_about.f k t309 t281).bind fun bt312 => ((bureauref13_between.f bt312.1 bt312.2.1 bt312.2.2.1 bt312.2.2.2 a2).bind fun bt317 => (some (bt317.1, bt317.2.1, bt317.2.2))))) = some (r1, r2, r3) := by rw [if_pos rfl] at H; exact H
            clear H
            have H := H1
            clear H1
            replace H := Option.bind_eq_some_iff.mp H
            obtain ⟨t309, A380, H⟩ := H
            replace H : ((bureauref13_about.f k t309 t281).bind fun bt312 => ((bureauref13_between.f bt312.1 bt312.2.1 bt312.2.2.1 bt312.2.2.2 a2).bind fun bt317 => (some (bt317.1, bt317.2.1, bt317.2.2)))) = some (r1, r2, r3) := H
            have A38 := Aside0.mk A380
            clear A380
            replace H := Option.bind_eq_some_iff.mp H
            obtain ⟨⟨t312, t313, t314, t315⟩, A390, H⟩ := H
            replace H : ((bureauref13_between.f t312 t313 t314 t315 a2).bind fun bt317 => (some (bt317.1, bt317.2.1, bt317.2.2))) = some (r1, r2, r3) := H
            have A39 := Aside0.mk A390
            clear A390
            replace H := Option.bind_eq_some_iff.mp H
            obtain ⟨⟨t317, t318, t319⟩, A400, H⟩ := H
            replace H : (some (t317, t318, t319)) = some (r1, r2, r3) := H
            have A40 := Aside0.mk A400
            clear A400
            simp only [Option.some.injEq, Prod.mk.injEq] at H
            obtain ⟨rfl, rfl, rfl⟩ := H
            go_enter Tryd.func9, Tryd.ntmps9
            go_wp2_with (first | ((with_reducible refine gate_callee (f := 10) rfl ?_); refine goesL_ (some 22) rfl rfl Tryd.func10 (by kernel_rfl) rfl #[.string a0, .int .i64 a1] rfl (by (try simp only [List.map_toArray, List.map_cons, List.map_nil]); first | done | rfl | (simp only [List.length_drop, List.length_take]; rfl)) ?_; (with_reducible refine (bureauref02_Align.calls k a0 a1 t281 _ A5.out ?sideT).mono ?_); (case sideT => first | exact HTABS.out | exact HTABS.out.below (by repeat (first | (with_reducible first | exact HB.out | apply below_alloc | apply pw_below_drewN | apply below_drew1) | refine below_set ?_ (Aside0.out (by assumption)) | exact HB.out)) (Nat.le_refl _) | exact HTABS.out.below (Below.drew (Below.refl _ _)) (Nat.le_refl _)); rintro e w41 ⟨rfl, hb⟩; refine ⟨_, rfl, ?_⟩; have n0_ := Aside0.mk (below_step (by repeat (first | (with_reducible first | exact HB.out | apply below_alloc | apply pw_below_drewN | apply below_drew1) | exact HB.out)) hb); clear HB; have HB := n0_; clear n0_; (try clear hb); (try clear hb2); (try clear hk); (try clear hi)) | ((with_reducible refine gate_callee (f := 19) rfl ?_); refine goesL_ (some 41) rfl rfl Tryd.func19 (by kernel_rfl) rfl #[.int .i64 a3, .string (⟨#[40, 41, 98]⟩ : ByteArray)] rfl (by (try simp only [List.map_toArray, List.map_cons, List.map_nil]); first | done | rfl | (simp only [List.length_drop, List.length_take]; rfl)) ?_; (with_reducible refine (bureauref11_In.calls k a3 (⟨#[40, 41, 98]⟩ : ByteArray) false _ A12.out ?sideT).mono ?_); (case sideT => first | exact HTABS.out | exact HTABS.out.below (by repeat (first | (with_reducible first | exact HB.out | apply below_alloc | apply pw_below_drewN | apply below_drew1) | refine below_set ?_ (Aside0.out (by assumption)) | exact HB.out)) (Nat.le_refl _) | exact HTABS.out.below (Below.drew (Below.refl _ _)) (Nat.le_refl _)); rintro e w' ⟨rfl, ⟨nd, rfl⟩⟩; refine ⟨_, rfl, ?_⟩; (try (rw [drewN_self w41]; generalize hq_ : World.drewN w41 _ = w41; have n0_ : Aside0 (Below w.heap.size w w41) := ⟨by rw [← hq_]; exact (by repeat (first | (with_reducible first | exact HB.out | apply below_alloc | apply pw_below_drewN | apply below_drew1) | exact HB.out))⟩; clear HB hq_; have HB := n0_; clear n0_))) | ((with_reducible refine gate_callee (f := 19) rfl ?_); refine goesL_ (some 46) rfl rfl Tryd.func19 (by kernel_rfl) rfl #[.int .i64 a3, .string (⟨#[91, 93]⟩ : ByteArray)] rfl (by (try simp only [List.map_toArray, List.map_cons, List.map_nil]); first | done | rfl | (simp only [List.length_drop, List.length_take]; rfl)) ?_; (with_reducible refine (bureauref11_In.calls k a3 (⟨#[91, 93]⟩ : ByteArray) false _ A24.out ?sideT).mono ?_); (case sideT => first | exact HTABS.out | exact HTABS.out.below (by repeat (first | (with_reducible first | exact HB.out | apply below_alloc | apply pw_below_drewN | apply below_drew1) | refine below_set ?_ (Aside0.out (by assumption)) | exact HB.out)) (Nat.le_refl _) | exact HTABS.out.below (Below.drew (Below.refl _ _)) (Nat.le_refl _)); rintro e w' ⟨rfl, ⟨nd, rfl⟩⟩; refine ⟨_, rfl, ?_⟩; (try (rw [drewN_self w41]; generalize hq_ : World.drewN w41 _ = w41; have n0_ : Aside0 (Below w.heap.size w w41) := ⟨by rw [← hq_]; exact (by repeat (first | (with_reducible first | exact HB.out | apply below_alloc | apply pw_below_drewN | apply below_drew1) | exact HB.out))⟩; clear HB hq_; have HB := n0_; clear n0_))) | ((with_reducible refine gate_callee (f := 19) rfl ?_); refine goesL_ (some 51) rfl rfl Tryd.func19 (by kernel_rfl) rfl #[.int .i64 a3, .string (⟨#[123, 125, 66]⟩ : ByteArray)] rfl (by (try simp only [List.map_toArray, List.map_cons, List.map_nil]); first | done | rfl | (simp only [List.length_drop, List.length_take]; rfl)) ?_; (with_reducible refine (bureauref11_In.calls k a3 (⟨#[123, 125, 66]⟩ : ByteArray) true _ A36.out ?sideT).mono ?_); (case sideT => first | exact HTABS.out | exact HTABS.out.below (by repeat (first | (with_reducible first | exact HB.out | apply below_alloc | apply pw_below_drewN | apply below_drew1) | refine below_set ?_ (Aside0.out (by assumption)) | exact HB.out)) (Nat.le_refl _) | exact HTABS.out.below (Below.drew (Below.refl _ _)) (Nat.le_refl _)); rintro e w' ⟨rfl, ⟨nd, rfl⟩⟩; refine ⟨_, rfl, ?_⟩; (try (rw [drewN_self w41]; generalize hq_ : World.drewN w41 _ = w41; have n0_ : Aside0 (Below w.heap.size w w41) := ⟨by rw [← hq_]; exact (by repeat (first | (with_reducible first | exact HB.out | apply below_alloc | apply pw_below_drewN | apply below_drew1) | exact HB.out))⟩; clear HB hq_; have HB := n0_; clear n0_))) | ((with_reducible refine gate_callee (f := 20) rfl ?_); refine goesL_ (some 53) rfl rfl Tryd.func20 (by kernel_rfl) rfl #[.string a0, .int .u8 123, .int .u8 125] rfl (by (try simp only [List.map_toArray, List.map_cons, List.map_nil]); first | done | rfl | (simp only [List.length_drop, List.length_take]; rfl)) ?_; (with_reducible refine (bureauref13_Brackets.calls k a0 123 125 t309 _ A38.out ?sideT).mono ?_); (case sideT => first | exact HTABS.out | exact HTABS.out.below (by repeat (first | (with_reducible first | exact HB.out | apply below_alloc | apply pw_below_drewN | apply below_drew1) | refine below_set ?_ (Aside0.out (by assumption)) | exact HB.out)) (Nat.le_refl _) | exact HTABS.out.below (Below.drew (Below.refl _ _)) (Nat.le_refl _)); rintro e w42 ⟨v310, rfl, ho0, hb⟩; refine ⟨_, rfl, ?_⟩; have n0_ := Aside0.mk (Kd.R_lower ho0 (below_size (by repeat (first | (with_reducible first | exact HB.out | apply below_alloc | apply pw_below_drewN | apply below_drew1) | exact HB.out)))); have n1_ := Aside0.mk (below_step (by repeat (first | (with_reducible first | exact HB.out | apply below_alloc | apply pw_below_drewN | apply below_drew1) | exact HB.out)) hb); clear HB; have HO311 := n0_; have HB := n1_; clear n0_ n1_; (try clear hb); (try clear hb2); (try clear hk); (try clear hi); (try clear ho0); obtain ⟨Ao43, co43, eo43⟩ := Kd.R_slice HO311.out; subst eo43) | ((with_reducible refine gate_callee (f := 23) rfl ?_); refine goesL_ (some 105) rfl rfl Tryd.func23 (by kernel_rfl) rfl #[.slice Ao43 t309.length co43, .int .i64 t281] rfl (by (try simp only [List.map_toArray, List.map_cons, List.map_nil]); first | done | rfl | (simp only [List.length_drop, List.length_take]; rfl)) ?_; (with_reducible refine (bureauref13_about.calls k _ _ t309 t281 t312 t313 t314 t315 _ ?side1 ?side2 A39.out ?sideT).mono ?_); (case sideT => first | exact HTABS.out | exact HTABS.out.below (by repeat (first | (with_reducible first | exact HB.out | apply below_alloc | apply pw_below_drewN | apply below_drew1) | refine below_set ?_ (Aside0.out (by assumption)) | exact HB.out)) (Nat.le_refl _) | exact HTABS.out.below (Below.drew (Below.refl _ _)) (Nat.le_refl _)); (case side1 => repeat (first | exact (Kd.R_reads' HO311.out).2.2 | (with_reducible refine Kd.C_alloc ?_ _) | (with_reducible refine Kd.C_drewN ?_ _) | (with_reducible refine Kd.C_drew ?_))); (case side2 => exact (Kd.R_reads' HO311.out).2.1); rintro e w44 ⟨rfl, hb⟩; refine ⟨_, rfl, ?_⟩; have n0_ := Aside0.mk (Kd.R_below (by (with_reducible repeat (first | apply Kd.R_alloc | apply Kd.R_drewN | apply Kd.R_drew)); exact HO311.out) hb); have n1_ := Aside0.mk (below_step (by repeat (first | (with_reducible first | exact HB.out | apply below_alloc | apply pw_below_drewN | apply below_drew1) | exact HB.out)) hb); clear HO311; clear HB; have HO311 := n0_; have HB := n1_; clear n0_ n1_; (try clear hb); (try clear hb2); (try clear hk); (try clear hi)) | ((with_reducible refine gate_dst (N := 18) rfl ?_); refine box_event ?hg (N := 18) ?hd (cs := #[.int .i64 0, .int .i64 0, .int .i64 0]) (t := 41) ?hr ?_; (case hd => rfl); (case hg => rfl); (case hr => first | (go_simp; done) | (go_simp; rfl)); intro gb316 hg w45 hbox hb; have n0_ := Aside0.mk (Kd.R_below (Kd.R_elderB (by (with_reducible repeat (first | apply Kd.R_alloc | apply Kd.R_drewN | apply Kd.R_drew)); exact HO311.out) gb316 (Nat.le_of_eq hg.symm)) hb); have n1_ := Aside0.mk (below_step (by repeat (first | (with_reducible first | exact HB.out | apply below_alloc | apply pw_below_drewN | apply below_drew1) | exact HB.out)) hb); have n2_ := Aside0.mk (hbox); have n3_ := Aside0.mk ((by rw [hg]; exact (below_size (by repeat (first | (with_reducible first | exact HB.out | apply below_alloc | apply pw_below_drewN | apply below_drew1) | exact HB.out))) : w.heap.size ≤ gb316)); have n4_ := Aside0.mk ((by rw [hg]; exact (below_size (by repeat (first | (with_reducible first | exact HB.out | apply below_alloc | apply pw_below_drewN | apply below_drew1) | exact HB.out))) : w.heap.size ≤ gb316)); clear HO311; clear HB; have HO311 := n0_; have HB := n1_; have BK316 := n2_; have GW316 := n3_; have GE316 := n4_; clear n0_ n1_ n2_ n3_ n4_; clear hb hbox hg; have hcz46_0 : w45.cell? ⟨gb316, 0, none⟩ = some (.int .i64 0) := (blk_cell BK316.out 0).trans rfl; have hcz46_1 : w45.cell? ⟨gb316, 1, none⟩ = some (.int .i64 0) := (blk_cell BK316.out 1).trans rfl; have hcz46_2 : w45.cell? ⟨gb316, 2, none⟩ = some (.int .i64 0) := (blk_cell BK316.out 2).trans rfl; have hfz46_0 := blk_frozen BK316.out 0; have hfz46_1 := blk_frozen BK316.out 1; have hfz46_2 := blk_frozen BK316.out 2) | ((with_reducible refine gate_callee (f := 24) rfl ?_); refine goesL_ (some 111) rfl rfl Tryd.func24 (by kernel_rfl) rfl #[.agg #[.int .i64 t312, .int .i64 t313, .int .i64 t314], .bool t315, .bool a2] rfl (by (try simp only [List.map_toArray, List.map_cons, List.map_nil]); first | done | rfl | (simp only [List.length_drop, List.length_take]; rfl)) ?_; (with_reducible refine (bureauref13_between.calls t312 t313 t314 t315 a2 t317 t318 t319 _ A40.out ?sideT).mono ?_); (case sideT => first | exact HTABS.out | exact HTABS.out.below (by repeat (first | (with_reducible first | exact HB.out | apply below_alloc | apply pw_below_drewN | apply below_drew1) | refine below_set ?_ (Aside0.out (by assumption)) | exact HB.out)) (Nat.le_refl _) | exact HTABS.out.below (Below.drew (Below.refl _ _)) (Nat.le_refl _)); rintro e w47 ⟨rfl, hb⟩; refine ⟨_, rfl, ?_⟩; have n0_ := Aside0.mk (Kd.R_below (by (with_reducible repeat (first | apply Kd.R_alloc | apply Kd.R_drewN | apply Kd.R_drew)); exact (Kd.R_mono (Kd.R_far (p := ⟨gb316, 2, none⟩) (Kd.R_far (p := ⟨gb316, 1, none⟩) (Kd.R_far (p := ⟨gb316, 0, none⟩) (Kd.R_mono HO311.out (fun k_ hk => (⟨hk, hk.2⟩ : _ ∧ k_ ≠ gb316))) (fun _ hk => hk.2) (.int .i64 t312)) (fun _ hk => hk.2) (.int .i64 t313)) (fun _ hk => hk.2) (.int .i64 t314)) (fun _ h_ => h_.1))) hb); have n1_ := Aside0.mk (blk_below (g := gb316) (o := .cells #[.int .i64 t312, .int .i64 t313, .int .i64 t314] 41 (0, 0)) (by (with_reducible repeat (first | refine blk_drewN ?_ _ | refine blk_drew ?_ | refine blk_alloc ?_ _)); refine blk_put (cs := #[.int .i64 t312, .int .i64 t313, .int .i64 0]) ?_ 2 _ rfl; (with_reducible repeat (first | refine blk_drewN ?_ _ | refine blk_drew ?_ | refine blk_alloc ?_ _)); refine blk_put (cs := #[.int .i64 t312, .int .i64 0, .int .i64 0]) ?_ 1 _ rfl; (with_reducible repeat (first | refine blk_drewN ?_ _ | refine blk_drew ?_ | refine blk_alloc ?_ _)); refine blk_put (cs := #[.int .i64 0, .int .i64 0, .int .i64 0]) ?_ 0 _ rfl; (with_reducible repeat (first | refine blk_drewN ?_ _ | refine blk_drew ?_ | refine blk_alloc ?_ _)); exact BK316.out) hb); have n2_ := Aside0.mk (below_step (by repeat (first | (with_reducible first | exact HB.out | apply below_alloc | apply pw_below_drewN | apply below_drew1 | refine below_set ?_ GE316.out) | exact HB.out)) hb); clear HO311; clear BK316; clear HB; have HO311 := n0_; have BK316 := n1_; have HB := n2_; clear n0_ n1_ n2_; (try clear hb); (try clear hb2); (try clear hk); (try clear hi)))
            go_ret3
            exact ⟨by first | rfl | (simp [errW_none, errW_some] <;> rfl) | (simp [*, errW_none, errW_some] <;> rfl), by repeat (first | (with_reducible first | exact HB.out | apply below_alloc | apply pw_below_drewN | apply below_drew1 | refine below_set ?_ GE316.out) | exact HB.out)⟩
          · replace c37 := Bool.eq_false_iff.mpr c37
            subst c37
            have H1 : (if a3 = 34 then (bureauref13_Find.j0 k a0 a2 a3 t281 ([] : List (S41)) true) else (bureauref13_Find.j0 k a0 a2 a3 t281 ([] : List (S41)) (a3 == 39))) = some (r1, r2, r3) := by rw [if_neg (show ¬ (false = true) by decide)] at H; exact H
            clear H
            have H := H1
            clear H1
            have HC48 := Aside0.mk H
            clear H
            go_enter Tryd.func9, Tryd.ntmps9
            go_upto_region 14 with (first | ((with_reducible refine gate_callee (f := 10) rfl ?_); refine goesL_ (some 22) rfl rfl Tryd.func10 (by kernel_rfl) rfl #[.string a0, .int .i64 a1] rfl (by (try simp only [List.map_toArray, List.map_cons, List.map_nil]); first | done | rfl | (simp only [List.length_drop, List.length_take]; rfl)) ?_; (with_reducible refine (bureauref02_Align.calls k a0 a1 t281 _ A5.out ?sideT).mono ?_); (case sideT => first | exact HTABS.out | exact HTABS.out.below (by repeat (first | (with_reducible first | exact HB.out | apply below_alloc | apply pw_below_drewN | apply below_drew1) | refine below_set ?_ (Aside0.out (by assumption)) | exact HB.out)) (Nat.le_refl _) | exact HTABS.out.below (Below.drew (Below.refl _ _)) (Nat.le_refl _)); rintro e w49 ⟨rfl, hb⟩; refine ⟨_, rfl, ?_⟩; have n0_ := Aside0.mk (below_step (by repeat (first | (with_reducible first | exact HB.out | apply below_alloc | apply pw_below_drewN | apply below_drew1) | exact HB.out)) hb); clear HB; have HB := n0_; clear n0_; (try clear hb); (try clear hb2); (try clear hk); (try clear hi)) | ((with_reducible refine gate_callee (f := 19) rfl ?_); refine goesL_ (some 41) rfl rfl Tryd.func19 (by kernel_rfl) rfl #[.int .i64 a3, .string (⟨#[40, 41, 98]⟩ : ByteArray)] rfl (by (try simp only [List.map_toArray, List.map_cons, List.map_nil]); first | done | rfl | (simp only [List.length_drop, List.length_take]; rfl)) ?_; (with_reducible refine (bureauref11_In.calls k a3 (⟨#[40, 41, 98]⟩ : ByteArray) false _ A12.out ?sideT).mono ?_); (case sideT => first | exact HTABS.out | exact HTABS.out.below (by repeat (first | (with_reducible first | exact HB.out | apply below_alloc | apply pw_below_drewN | apply below_drew1) | refine below_set ?_ (Aside0.out (by assumption)) | exact HB.out)) (Nat.le_refl _) | exact HTABS.out.below (Below.drew (Below.refl _ _)) (Nat.le_refl _)); rintro e w' ⟨rfl, ⟨nd, rfl⟩⟩; refine ⟨_, rfl, ?_⟩) | ((with_reducible refine gate_callee (f := 19) rfl ?_); refine goesL_ (some 46) rfl rfl Tryd.func19 (by kernel_rfl) rfl #[.int .i64 a3, .string (⟨#[91, 93]⟩ : ByteArray)] rfl (by (try simp only [List.map_toArray, List.map_cons, List.map_nil]); first | done | rfl | (simp only [List.length_drop, List.length_take]; rfl)) ?_; (with_reducible refine (bureauref11_In.calls k a3 (⟨#[91, 93]⟩ : ByteArray) false _ A24.out ?sideT).mono ?_); (case sideT => first | exact HTABS.out | exact HTABS.out.below (by repeat (first | (with_reducible first | exact HB.out | apply below_alloc | apply pw_below_drewN | apply below_drew1) | refine below_set ?_ (Aside0.out (by assumption)) | exact HB.out)) (Nat.le_refl _) | exact HTABS.out.below (Below.drew (Below.refl _ _)) (Nat.le_refl _)); rintro e w' ⟨rfl, ⟨nd, rfl⟩⟩; refine ⟨_, rfl, ?_⟩) | ((with_reducible refine gate_callee (f := 19) rfl ?_); refine goesL_ (some 51) rfl rfl Tryd.func19 (by kernel_rfl) rfl #[.int .i64 a3, .string (⟨#[123, 125, 66]⟩ : ByteArray)] rfl (by (try simp only [List.map_toArray, List.map_cons, List.map_nil]); first | done | rfl | (simp only [List.length_drop, List.length_take]; rfl)) ?_; (with_reducible refine (bureauref11_In.calls k a3 (⟨#[123, 125, 66]⟩ : ByteArray) false _ A36.out ?sideT).mono ?_); (case sideT => first | exact HTABS.out | exact HTABS.out.below (by repeat (first | (with_reducible first | exact HB.out | apply below_alloc | apply pw_below_drewN | apply below_drew1) | refine below_set ?_ (Aside0.out (by assumption)) | exact HB.out)) (Nat.le_refl _) | exact HTABS.out.below (Below.drew (Below.refl _ _)) (Nat.le_refl _)); rintro e w' ⟨rfl, ⟨nd, rfl⟩⟩; refine ⟨_, rfl, ?_⟩))
            (try simp only [Act.put, List.setIfInBounds_toArray, List.set_cons_zero, List.set_cons_succ])
            go_cut [54] (fun v54 wc => ∃ (kq : Nat) (x54_47 : Bool), v54 = .bool x54_47 ∧ Aside0 (bureauref13_Find.j0 kq a0 a2 a3 t281 ([] : List (S41)) x54_47 = some (r1, r2, r3)) ∧ Aside0 (kq ≤ k) ∧ Aside0 (Kd.R k41 41 wc w.heap.size (fun _ => True) (.slice none 0 0) ([] : List (S41))) ∧ Aside0 (Below w.heap.size w wc))
            case first =>
              have H := HC48.out
              clear HC48
              by_cases c50 : a3 = 34
              · rw [if_pos c50] at H
                have c50b0 : (a3 == 34) = true := beq_iff_eq.mpr c50
                have c50b1 : (a3 != 34) = false := bne_eq_false_iff_eq.mpr c50
                clear c50
                (first | rw [c50b0] | (simp only [i64_w, i32_w]; rw [c50b0]) | skip)
                have H' := Aside0.mk H
                clear H
                go_wp2
                go_meet
                case rel => exact ⟨_, (true), (by first | rfl | (simp; done) | (simp [*]; done)), H', ⟨by first | omega | exact Nat.le_refl _⟩, ⟨by first | exact Kd.R_nil _ _ _ _ _ | exact Kd.N_nil _ _ _ _ _ | exact Kd.V_nil _ _ _ _ _ | exact Kd.Q_nil _ _ _ _ _ | exact Kd.S_nil _ _ _ _ _⟩, ⟨by repeat (first | (with_reducible first | exact HB.out | apply below_alloc | apply pw_below_drewN | apply below_drew1) | exact HB.out)⟩⟩
              · rw [if_neg c50] at H
                have c50b0 : (a3 == 34) = false := beq_eq_false_iff_ne.mpr c50
                have c50b1 : (a3 != 34) = true := bne_iff_ne.mpr c50
                (first | rw [c50b0] | (simp only [i64_w, i32_w]; rw [c50b0]) | skip)
                have H' := Aside0.mk H
                clear H
                go_wp2
                go_meet
                case rel => exact ⟨_, ((a3 == 39)), (by first | rfl | (simp; done) | (simp [*]; done)), H', ⟨by first | omega | exact Nat.le_refl _⟩, ⟨by first | exact Kd.R_nil _ _ _ _ _ | exact Kd.N_nil _ _ _ _ _ | exact Kd.V_nil _ _ _ _ _ | exact Kd.Q_nil _ _ _ _ _ | exact Kd.S_nil _ _ _ _ _⟩, ⟨by repeat (first | (with_reducible first | exact HB.out | apply below_alloc | apply pw_below_drewN | apply below_drew1) | exact HB.out)⟩⟩
            case rest =>
              clear HC48
              (try clear c1); (try clear c2); (try clear p2); (try clear c3); (try clear c5); (try clear c6); (try clear c6b0); (try clear c6b1); (try clear c8); (try clear c8b0); (try clear c8b1); (try clear c9); (try clear c10); (try clear c13); (try clear c18); (try clear c19); (try clear c20); (try clear c23); (try clear c24); (try clear c25); (try clear c37); (try clear c50); (try clear c50b0); (try clear c50b1); (try clear hcz22_0); (try clear hcz22_1); (try clear hcz22_2); (try clear hcz34_0); (try clear hcz34_1); (try clear hcz34_2); (try clear hcz46_0); (try clear hcz46_1); (try clear hcz46_2); (try clear hfz22_0); (try clear hfz22_1); (try clear hfz22_2); (try clear hfz34_0); (try clear hfz34_1); (try clear hfz34_2); (try clear hfz46_0); (try clear hfz46_1); (try clear hfz46_2)
              obtain ⟨kq, x54_47, rfl, HA, HJ47, HO_12, HB⟩ := hcut
              cases kq with
              | zero => exact absurd HA.out (by simp [bureauref13_Find.j0])
              | succ kj47 =>
                have H := HA.out
                clear HA
                simp only [bureauref13_Find.j0] at H
                by_cases c51 : x54_47 = true
                · subst c51
                  have H1 : ((bureauref06_Of.f kj47 a0 t281).bind fun t320 => ((bureauref13_quotes.f kj47 a0 t320 ((a3) % 256)).bind fun t321 => ((bureauref13_about.f kj47 t321 t281).bind fun bt324 => (bureauref13_Find.l0 kj47 a2 t281 t321 bt324.2.2.2 0 bt324.1 bt324.2.1 bt324.2.2.1)))) = some (r1, r2, r3) := by rw [if_pos rfl] at H; exact H
                  clear H
                  have H := H1
                  clear H1
                  replace H := Option.bind_eq_some_iff.mp H
                  obtain ⟨t320, A520, H⟩ := H
                  replace H : ((bureauref13_quotes.f kj47 a0 t320 ((a3) % 256)).bind fun t321 => ((bureauref13_about.f kj47 t321 t281).bind fun bt324 => (bureauref13_Find.l0 kj47 a2 t281 t321 bt324.2.2.2 0 bt324.1 bt324.2.1 bt324.2.2.1))) = some (r1, r2, r3) := H
                  have A52 := Aside0.mk A520
                  clear A520
                  replace H := Option.bind_eq_some_iff.mp H
                  obtain ⟨t321, A530, H⟩ := H
                  replace H : ((bureauref13_about.f kj47 t321 t281).bind fun bt324 => (bureauref13_Find.l0 kj47 a2 t281 t321 bt324.2.2.2 0 bt324.1 bt324.2.1 bt324.2.2.1)) = some (r1, r2, r3) := H
                  have A53 := Aside0.mk A530
                  clear A530
                  replace H := Option.bind_eq_some_iff.mp H
                  obtain ⟨⟨t324, t325, t326, t327⟩, A540, H⟩ := H
                  replace H : (bureauref13_Find.l0 kj47 a2 t281 t321 t327 0 t324 t325 t326) = some (r1, r2, r3) := H
                  have A54 := Aside0.mk A540
                  clear A540
                  have H' := Aside0.mk H
                  clear H
                  go_wp2_with (first | ((with_reducible refine gate_callee (f := 22) rfl ?_); refine goesL_ (some 64) rfl rfl Tryd.func22 (by kernel_rfl) rfl #[.string a0, .int .i64 t281] rfl (by (try simp only [List.map_toArray, List.map_cons, List.map_nil]); first | done | rfl | (simp only [List.length_drop, List.length_take]; rfl)) ?_; (with_reducible refine (bureauref06_Of.calls kj47 a0 t281 t320 _ A52.out ?sideT).mono ?_); (case sideT => first | exact HTABS.out | exact HTABS.out.below (by repeat (first | (with_reducible first | exact HB.out | apply below_alloc | apply pw_below_drewN | apply below_drew1) | refine below_set ?_ (Aside0.out (by assumption)) | exact HB.out)) (Nat.le_refl _) | exact HTABS.out.below (Below.drew (Below.refl _ _)) (Nat.le_refl _)); rintro e w' ⟨rfl, ⟨nd, rfl⟩⟩; refine ⟨_, rfl, ?_⟩; (try (rw [drewN_self wc]; generalize hq_ : World.drewN wc _ = wc; have n0_ : Aside0 (Kd.R k41 41 wc w.heap.size (fun _ => True) (.slice none 0 0) ([] : List (S41))) := ⟨by rw [← hq_]; exact (by (with_reducible repeat (first | apply Kd.R_alloc | apply Kd.R_drewN | apply Kd.R_drew)); exact HO_12.out)⟩; have n1_ : Aside0 (Below w.heap.size w wc) := ⟨by rw [← hq_]; exact (by repeat (first | (with_reducible first | exact HB.out | apply below_alloc | apply pw_below_drewN | apply below_drew1) | exact HB.out))⟩; clear HO_12 HB hq_; have HO_12 := n0_; have HB := n1_; clear n0_ n1_))) | ((with_reducible refine gate_callee (f := 21) rfl ?_); refine goesL_ (some 67) rfl rfl Tryd.func21 (by kernel_rfl) rfl #[.string a0, .int .i64 t320, .int .u8 ((a3) % 256)] rfl (by (try simp only [List.map_toArray, List.map_cons, List.map_nil]); first | done | rfl | (simp only [List.length_drop, List.length_take]; rfl)) ?_; (with_reducible refine (bureauref13_quotes.calls kj47 a0 t320 ((a3) % 256) t321 _ A53.out ?sideT).mono ?_); (case sideT => first | exact HTABS.out | exact HTABS.out.below (by repeat (first | (with_reducible first | exact HB.out | apply below_alloc | apply pw_below_drewN | apply below_drew1) | refine below_set ?_ (Aside0.out (by assumption)) | exact HB.out)) (Nat.le_refl _) | exact HTABS.out.below (Below.drew (Below.refl _ _)) (Nat.le_refl _)); rintro e w55 ⟨v322, rfl, ho0, hb⟩; refine ⟨_, rfl, ?_⟩; have n0_ := Aside0.mk (Kd.R_elder' (by (with_reducible repeat (first | apply Kd.R_alloc | apply Kd.R_drewN | apply Kd.R_drew)); exact HO_12.out) (Kd.R_base ho0) hb); have n1_ := Aside0.mk (Kd.R_lower (Kd.R_new' ho0 (Kd.R_lt (by (with_reducible repeat (first | apply Kd.R_alloc | apply Kd.R_drewN | apply Kd.R_drew)); exact HO_12.out))) (below_size (by repeat (first | (with_reducible first | exact HB.out | apply below_alloc | apply pw_below_drewN | apply below_drew1) | exact HB.out)))); have n2_ := Aside0.mk (below_step (by repeat (first | (with_reducible first | exact HB.out | apply below_alloc | apply pw_below_drewN | apply below_drew1) | exact HB.out)) hb); clear HO_12; clear HB; have HO_12 := n0_; have HO323 := n1_; have HB := n2_; clear n0_ n1_ n2_; (try clear hb); (try clear hb2); (try clear hk); (try clear hi); (try clear ho0); obtain ⟨Ao56, co56, eo56⟩ := Kd.R_slice HO323.out; subst eo56) | ((with_reducible refine gate_callee (f := 23) rfl ?_); refine goesL_ (some 71) rfl rfl Tryd.func23 (by kernel_rfl) rfl #[.slice Ao56 t321.length co56, .int .i64 t281] rfl (by (try simp only [List.map_toArray, List.map_cons, List.map_nil]); first | done | rfl | (simp only [List.length_drop, List.length_take]; rfl)) ?_; (with_reducible refine (bureauref13_about.calls kj47 _ _ t321 t281 t324 t325 t326 t327 _ ?side1 ?side2 A54.out ?sideT).mono ?_); (case sideT => first | exact HTABS.out | exact HTABS.out.below (by repeat (first | (with_reducible first | exact HB.out | apply below_alloc | apply pw_below_drewN | apply below_drew1) | refine below_set ?_ (Aside0.out (by assumption)) | exact HB.out)) (Nat.le_refl _) | exact HTABS.out.below (Below.drew (Below.refl _ _)) (Nat.le_refl _)); (case side1 => repeat (first | exact (Kd.R_reads' HO323.out).2.2 | (with_reducible refine Kd.C_alloc ?_ _) | (with_reducible refine Kd.C_drewN ?_ _) | (with_reducible refine Kd.C_drew ?_))); (case side2 => exact (Kd.R_reads' HO323.out).2.1); rintro e w57 ⟨rfl, hb⟩; refine ⟨_, rfl, ?_⟩; have n0_ := Aside0.mk (Kd.R_below (by (with_reducible repeat (first | apply Kd.R_alloc | apply Kd.R_drewN | apply Kd.R_drew)); exact HO_12.out) hb); have n1_ := Aside0.mk (Kd.R_below (by (with_reducible repeat (first | apply Kd.R_alloc | apply Kd.R_drewN | apply Kd.R_drew)); exact HO323.out) hb); have n2_ := Aside0.mk (below_step (by repeat (first | (with_reducible first | exact HB.out | apply below_alloc | apply pw_below_drewN | apply below_drew1) | exact HB.out)) hb); clear HO_12; clear HO323; clear HB; have HO_12 := n0_; have HO323 := n1_; have HB := n2_; clear n0_ n1_ n2_; (try clear hb); (try clear hb2); (try clear hk); (try clear hi)) | ((with_reducible refine gate_dst (N := 15) rfl ?_); refine box_event ?hg (N := 15) ?hd (cs := #[.int .i64 0, .int .i64 0, .int .i64 0]) (t := 41) ?hr ?_; (case hd => rfl); (case hg => rfl); (case hr => first | (go_simp; done) | (go_simp; rfl)); intro gb328 hg w58 hbox hb; have n0_ := Aside0.mk (Kd.R_below (Kd.R_elderB (by (with_reducible repeat (first | apply Kd.R_alloc | apply Kd.R_drewN | apply Kd.R_drew)); exact HO_12.out) gb328 (Nat.le_of_eq hg.symm)) hb); have n1_ := Aside0.mk (Kd.R_below (Kd.R_elderB (by (with_reducible repeat (first | apply Kd.R_alloc | apply Kd.R_drewN | apply Kd.R_drew)); exact HO323.out) gb328 (Nat.le_of_eq hg.symm)) hb); have n2_ := Aside0.mk (below_step (by repeat (first | (with_reducible first | exact HB.out | apply below_alloc | apply pw_below_drewN | apply below_drew1) | exact HB.out)) hb); have n3_ := Aside0.mk (hbox); have n4_ := Aside0.mk ((by rw [hg]; exact (below_size (by repeat (first | (with_reducible first | exact HB.out | apply below_alloc | apply pw_below_drewN | apply below_drew1) | exact HB.out))) : w.heap.size ≤ gb328)); have n5_ := Aside0.mk ((by rw [hg]; exact (below_size (by repeat (first | (with_reducible first | exact HB.out | apply below_alloc | apply pw_below_drewN | apply below_drew1) | exact HB.out))) : w.heap.size ≤ gb328)); clear HO_12; clear HO323; clear HB; have HO_12 := n0_; have HO323 := n1_; have HB := n2_; have BK328 := n3_; have GW328 := n4_; have GE328 := n5_; clear n0_ n1_ n2_ n3_ n4_ n5_; clear hb hbox hg; have hcz59_0 : w58.cell? ⟨gb328, 0, none⟩ = some (.int .i64 0) := (blk_cell BK328.out 0).trans rfl; have hcz59_1 : w58.cell? ⟨gb328, 1, none⟩ = some (.int .i64 0) := (blk_cell BK328.out 1).trans rfl; have hcz59_2 : w58.cell? ⟨gb328, 2, none⟩ = some (.int .i64 0) := (blk_cell BK328.out 2).trans rfl; have hfz59_0 := blk_frozen BK328.out 0; have hfz59_1 := blk_frozen BK328.out 1; have hfz59_2 := blk_frozen BK328.out 2))
                  go_loopg [16, 17] kj47 (fun kq v16 v17 w' => ∃ (x16_2 : Bool) (x17_2 : Int) (x329000_2 : Int) (x329001_2 : Int) (x329002_2 : Int), v16 = .bool x16_2 ∧ v17 = .int .i64 x17_2 ∧ Aside0 (bureauref13_Find.l0 kq a2 t281 t321 x16_2 x17_2 x329000_2 x329001_2 x329002_2 = some (r1, r2, r3)) ∧ Aside0 (kq ≤ kj47) ∧ Aside0 (Kd.R k41 41 w' w.heap.size (fun k_ => k_ ≠ gb328) (.slice Ao56 t321.length co56) t321) ∧ Aside0 (w'.heap[gb328]? = some (.cells #[.int .i64 x329000_2, .int .i64 x329001_2, .int .i64 x329002_2] 41 (0, 0))) ∧ Aside0 (Below w.heap.size w w'))
                  case atStart => exact ⟨(t327), (0), (t324), (t325), (t326), (by first | rfl | (simp; done) | (simp [*]; done)), (by first | rfl | (simp; done) | (simp [*]; done)), H', ⟨Nat.le_refl _⟩, ⟨by (with_reducible repeat (first | apply Kd.R_alloc | apply Kd.R_drewN | apply Kd.R_drew)); exact Kd.R_mono (Kd.R_far (p := ⟨gb328, 2, none⟩) (Kd.R_far (p := ⟨gb328, 1, none⟩) (Kd.R_far (p := ⟨gb328, 0, none⟩) (Kd.R_mono HO323.out (fun k_ hk => (⟨hk, hk.2⟩ : _ ∧ k_ ≠ gb328))) (fun _ hk => hk.2) (.int .i64 t324)) (fun _ hk => hk.2) (.int .i64 t325)) (fun _ hk => hk.2) (.int .i64 t326)) (fun _ hk => hk.1.2)⟩, ⟨by (with_reducible repeat (first | refine blk_drewN ?_ _ | refine blk_drew ?_ | refine blk_alloc ?_ _)); refine blk_put (cs := #[.int .i64 t324, .int .i64 t325, .int .i64 0]) ?_ 2 _ rfl; (with_reducible repeat (first | refine blk_drewN ?_ _ | refine blk_drew ?_ | refine blk_alloc ?_ _)); refine blk_put (cs := #[.int .i64 t324, .int .i64 0, .int .i64 0]) ?_ 1 _ rfl; (with_reducible repeat (first | refine blk_drewN ?_ _ | refine blk_drew ?_ | refine blk_alloc ?_ _)); refine blk_put (cs := #[.int .i64 0, .int .i64 0, .int .i64 0]) ?_ 0 _ rfl; (with_reducible repeat (first | refine blk_drewN ?_ _ | refine blk_drew ?_ | refine blk_alloc ?_ _)); exact BK328.out⟩, ⟨by repeat (first | (with_reducible first | exact HB.out | apply below_alloc | apply pw_below_drewN | apply below_drew1 | refine below_set ?_ GE328.out) | exact HB.out)⟩⟩
                  case round =>
                    clear H'
                    (try clear c1); (try clear c2); (try clear p2); (try clear c3); (try clear c5); (try clear c6); (try clear c6b0); (try clear c6b1); (try clear c8); (try clear c8b0); (try clear c8b1); (try clear c9); (try clear c10); (try clear c13); (try clear c18); (try clear c19); (try clear c20); (try clear c21); (try clear c22); (try clear c23); (try clear c24); (try clear c25); (try clear c37); (try clear c50); (try clear c50b0); (try clear c50b1); (try clear c51); (try clear hcz22_0); (try clear hcz22_1); (try clear hcz22_2); (try clear hcz34_0); (try clear hcz34_1); (try clear hcz34_2); (try clear hcz46_0); (try clear hcz46_1); (try clear hcz46_2); (try clear hcz59_0); (try clear hcz59_1); (try clear hcz59_2); (try clear hfz22_0); (try clear hfz22_1); (try clear hfz22_2); (try clear hfz34_0); (try clear hfz34_1); (try clear hfz34_2); (try clear hfz46_0); (try clear hfz46_1); (try clear hfz46_2); (try clear hfz59_0); (try clear hfz59_1); (try clear hfz59_2)
                    obtain ⟨x16_2, x17_2, x329000_2, x329001_2, x329002_2, rfl, rfl, HA, HK2, HO_12, BK328, HB⟩ := hrel
                    cases gk with
                    | zero => exact absurd HA.out (by simp [bureauref13_Find.l0])
                    | succ k2 =>
                      have H := HA.out
                      clear HA
                      simp only [bureauref13_Find.l0] at H
                      have HC60 := Aside0.mk H
                      clear H
                      go_upto_region 18 with (fail)
                      go_cut [81] (fun v81 wc => ∃ (kq : Nat) (x81_59 : Bool), v81 = .bool x81_59 ∧ Aside0 (bureauref13_Find.j2 kq a2 t281 t321 x16_2 x17_2 x81_59 x329000_2 x329001_2 x329002_2 = some (r1, r2, r3)) ∧ Aside0 (kq ≤ k2) ∧ Aside0 (Kd.R k41 41 wc w.heap.size (fun k_ => k_ ≠ gb328) (.slice Ao56 t321.length co56) t321) ∧ Aside0 (wc.heap[gb328]? = some (.cells #[.int .i64 x329000_2, .int .i64 x329001_2, .int .i64 x329002_2] 41 (0, 0))) ∧ Aside0 (Below w.heap.size w wc))
                      case first =>
                        have H := HC60.out
                        clear HC60
                        by_cases c61 : x17_2 < (t321.length : Int)
                        · rw [if_pos c61] at H
                          have c61b0 : decide (x17_2 < (t321.length : Int)) = true := decide_eq_true c61
                          clear c61
                          (first | rw [c61b0] | (simp only [i64_w, i32_w]; rw [c61b0]) | skip)
                          have H' := Aside0.mk H
                          clear H
                          go_wp2
                          go_meet
                          case rel => exact ⟨_, (!x16_2), (by first | rfl | (simp; done) | (simp [*]; done)), H', ⟨by have := HJ47.out; have := HK2.out; first | omega | exact Nat.le_refl _⟩, ⟨by (with_reducible repeat (first | apply Kd.R_alloc | apply Kd.R_drewN | apply Kd.R_drew)); exact HO_12.out⟩, ⟨by (with_reducible repeat (first | refine blk_drewN ?_ _ | refine blk_drew ?_ | refine blk_alloc ?_ _)); exact BK328.out⟩, ⟨by repeat (first | (with_reducible first | exact HB.out | apply below_alloc | apply pw_below_drewN | apply below_drew1 | refine below_set ?_ GE328.out) | exact HB.out)⟩⟩
                        · rw [if_neg c61] at H
                          have c61b0 : decide (x17_2 < (t321.length : Int)) = false := decide_eq_false c61
                          clear c61
                          (first | rw [c61b0] | (simp only [i64_w, i32_w]; rw [c61b0]) | skip)
                          have H' := Aside0.mk H
                          clear H
                          go_wp2
                          go_meet
                          case rel => exact ⟨_, (false), (by first | rfl | (simp; done) | (simp [*]; done)), H', ⟨by have := HJ47.out; have := HK2.out; first | omega | exact Nat.le_refl _⟩, ⟨by (with_reducible repeat (first | apply Kd.R_alloc | apply Kd.R_drewN | apply Kd.R_drew)); exact HO_12.out⟩, ⟨by (with_reducible repeat (first | refine blk_drewN ?_ _ | refine blk_drew ?_ | refine blk_alloc ?_ _)); exact BK328.out⟩, ⟨by repeat (first | (with_reducible first | exact HB.out | apply below_alloc | apply pw_below_drewN | apply below_drew1 | refine below_set ?_ GE328.out) | exact HB.out)⟩⟩
                      case rest =>
                        clear HC60
                        (try clear c1); (try clear c2); (try clear p2); (try clear c3); (try clear c5); (try clear c6); (try clear c6b0); (try clear c6b1); (try clear c8); (try clear c8b0); (try clear c8b1); (try clear c9); (try clear c10); (try clear c13); (try clear c18); (try clear c19); (try clear c20); (try clear c21); (try clear c22); (try clear c23); (try clear c24); (try clear c25); (try clear c37); (try clear c50); (try clear c50b0); (try clear c50b1); (try clear c51); (try clear c61); (try clear c61b0); (try clear hcz22_0); (try clear hcz22_1); (try clear hcz22_2); (try clear hcz34_0); (try clear hcz34_1); (try clear hcz34_2); (try clear hcz46_0); (try clear hcz46_1); (try clear hcz46_2); (try clear hcz59_0); (try clear hcz59_1); (try clear hcz59_2); (try clear hfz22_0); (try clear hfz22_1); (try clear hfz22_2); (try clear hfz34_0); (try clear hfz34_1); (try clear hfz34_2); (try clear hfz46_0); (try clear hfz46_1); (try clear hfz46_2); (try clear hfz59_0); (try clear hfz59_1); (try clear hfz59_2)
                        obtain ⟨kq, x81_59, rfl, HA, HJ59, HO_12, BK328, HB⟩ := hcut
                        cases kq with
                        | zero => exact absurd HA.out (by simp [bureauref13_Find.j2])
                        | succ kj59 =>
                          have H := HA.out
                          clear HA
                          simp only [bureauref13_Find.j2] at H
                          by_cases c62 : x81_59 = true
                          · subst c62
                            have H1 : (if 0 ≤ x17_2 then (if x17_2 < (t321.length : Int) then (if ((rd_T41 t321 x17_2).f0) > t281 then (bureauref13_Find.l0 kj59 a2 t281 t321 true (wrap64 (x17_2 + 1)) ((rd_T41 t321 x17_2).f0) ((rd_T41 t321 x17_2).f1) ((rd_T41 t321 x17_2).f2)) else (bureauref13_Find.l0 kj59 a2 t281 t321 x16_2 (wrap64 (x17_2 + 1)) x329000_2 x329001_2 x329002_2)) else (none)) else (none)) = some (r1, r2, r3) := by rw [if_pos rfl] at H; exact H
                            clear H
                            have H := H1
                            clear H1
                            by_cases c63 : 0 ≤ x17_2
                            · rw [if_pos c63] at H
                              have c63b0 : decide (0 ≤ x17_2) = true := decide_eq_true c63
                              clear c63
                              by_cases c64 : x17_2 < (t321.length : Int)
                              · rw [if_pos c64] at H
                                have c64b0 : decide (x17_2 < (t321.length : Int)) = true := decide_eq_true c64
                                clear c64
                                by_cases c65 : ((rd_T41 t321 x17_2).f0) > t281
                                · rw [if_pos c65] at H
                                  have c65b0 : decide (t281 < ((rd_T41 t321 x17_2).f0)) = true := decide_eq_true c65
                                  clear c65
                                  have H' := Aside0.mk H
                                  clear H
                                  have p329 : 0 ≤ (x17_2 : Int) := of_decide_eq_true (by first | (with_reducible assumption) | assumption)
                                  have q329 : x17_2 < (t321.length : Int) := of_decide_eq_true (by first | (with_reducible assumption) | assumption)
                                  obtain ⟨ad329, e329, hx329_0, hx329_1, hx329_2⟩ := at_T41 (Kd.R_reads' HO_12.out).2.2 x17_2 p329 q329
                                  cases e329
                                  replace p329 := eq_true p329
                                  replace q329 := eq_true q329
                                  have p330 : 0 ≤ (x17_2 : Int) := of_decide_eq_true (by first | (with_reducible assumption) | assumption)
                                  have q330 : x17_2 < (t321.length : Int) := of_decide_eq_true (by first | (with_reducible assumption) | assumption)
                                  obtain ⟨ad330, e330, hx330_0, hx330_1, hx330_2⟩ := at_T41 (Kd.R_reads' HO_12.out).2.2 x17_2 p330 q330
                                  obtain rfl : ad329 = ad330 := (by injection e330)
                                  replace p330 := eq_true p330
                                  replace q330 := eq_true q330
                                  have hcz66_0 : wc.cell? ⟨gb328, 0, none⟩ = some (.int .i64 x329000_2) := (blk_cell BK328.out 0).trans rfl
                                  have hcz66_1 : wc.cell? ⟨gb328, 1, none⟩ = some (.int .i64 x329001_2) := (blk_cell BK328.out 1).trans rfl
                                  have hcz66_2 : wc.cell? ⟨gb328, 2, none⟩ = some (.int .i64 x329002_2) := (blk_cell BK328.out 2).trans rfl
                                  have hfz66_0 := blk_frozen BK328.out 0
                                  have hfz66_1 := blk_frozen BK328.out 1
                                  have hfz66_2 := blk_frozen BK328.out 2
                                  go_wp2
                                  go_roundg kj59
                                  case measure => have := HJ47.out; have := HK2.out; have := HJ59.out; omega
                                  case rel => exact ⟨(true), (wrap64 (x17_2 + 1)), ((rd_T41 t321 x17_2).f0), ((rd_T41 t321 x17_2).f1), ((rd_T41 t321 x17_2).f2), (by first | rfl | (simp; done) | (simp [*]; done)), (by first | rfl | (simp; done) | (simp [*]; done)), H', ⟨by have := HJ47.out; have := HK2.out; have := HJ59.out; omega⟩, ⟨by (with_reducible repeat (first | apply Kd.R_alloc | apply Kd.R_drewN | apply Kd.R_drew)); exact Kd.R_mono (Kd.R_far (p := ⟨gb328, 2, none⟩) (Kd.R_far (p := ⟨gb328, 1, none⟩) (Kd.R_far (p := ⟨gb328, 0, none⟩) (Kd.R_mono HO_12.out (fun k_ hk => (⟨hk, hk⟩ : _ ∧ k_ ≠ gb328))) (fun _ hk => hk.2) (.int .i64 ((rd_T41 t321 x17_2).f0))) (fun _ hk => hk.2) (.int .i64 ((rd_T41 t321 x17_2).f1))) (fun _ hk => hk.2) (.int .i64 ((rd_T41 t321 x17_2).f2))) (fun _ hk => hk.1)⟩, ⟨by (with_reducible repeat (first | refine blk_drewN ?_ _ | refine blk_drew ?_ | refine blk_alloc ?_ _)); refine blk_put (cs := #[.int .i64 ((rd_T41 t321 x17_2).f0), .int .i64 ((rd_T41 t321 x17_2).f1), .int .i64 x329002_2]) ?_ 2 _ rfl; (with_reducible repeat (first | refine blk_drewN ?_ _ | refine blk_drew ?_ | refine blk_alloc ?_ _)); refine blk_put (cs := #[.int .i64 ((rd_T41 t321 x17_2).f0), .int .i64 x329001_2, .int .i64 x329002_2]) ?_ 1 _ rfl; (with_reducible repeat (first | refine blk_drewN ?_ _ | refine blk_drew ?_ | refine blk_alloc ?_ _)); refine blk_put (cs := #[.int .i64 x329000_2, .int .i64 x329001_2, .int .i64 x329002_2]) ?_ 0 _ rfl; (with_reducible repeat (first | refine blk_drewN ?_ _ | refine blk_drew ?_ | refine blk_alloc ?_ _)); exact BK328.out⟩, ⟨by repeat (first | (with_reducible first | exact HB.out | apply below_alloc | apply pw_below_drewN | apply below_drew1 | refine below_set ?_ GE328.out) | exact HB.out)⟩⟩
                                · rw [if_neg c65] at H
                                  have c65b0 : decide (t281 < ((rd_T41 t321 x17_2).f0)) = false := decide_eq_false c65
                                  clear c65
                                  have H' := Aside0.mk H
                                  clear H
                                  have p329 : 0 ≤ (x17_2 : Int) := of_decide_eq_true (by first | (with_reducible assumption) | assumption)
                                  have q329 : x17_2 < (t321.length : Int) := of_decide_eq_true (by first | (with_reducible assumption) | assumption)
                                  obtain ⟨ad329, e329, hx329_0, hx329_1, hx329_2⟩ := at_T41 (Kd.R_reads' HO_12.out).2.2 x17_2 p329 q329
                                  cases e329
                                  replace p329 := eq_true p329
                                  replace q329 := eq_true q329
                                  go_wp2
                                  go_roundg kj59
                                  case measure => have := HJ47.out; have := HK2.out; have := HJ59.out; omega
                                  case rel => exact ⟨(x16_2), (wrap64 (x17_2 + 1)), (x329000_2), (x329001_2), (x329002_2), (by first | rfl | (simp; done) | (simp [*]; done)), (by first | rfl | (simp; done) | (simp [*]; done)), H', ⟨by have := HJ47.out; have := HK2.out; have := HJ59.out; omega⟩, ⟨by (with_reducible repeat (first | apply Kd.R_alloc | apply Kd.R_drewN | apply Kd.R_drew)); exact HO_12.out⟩, ⟨by (with_reducible repeat (first | refine blk_drewN ?_ _ | refine blk_drew ?_ | refine blk_alloc ?_ _)); exact BK328.out⟩, ⟨by repeat (first | (with_reducible first | exact HB.out | apply below_alloc | apply pw_below_drewN | apply below_drew1 | refine below_set ?_ GE328.out) | exact HB.out)⟩⟩
                              · rw [if_neg c64] at H
                                exact absurd H (by simp)
                            · rw [if_neg c63] at H
                              exact absurd H (by simp)
                          · replace c62 := Bool.eq_false_iff.mpr c62
                            subst c62
                            have H1 : ((bureauref13_between.f x329000_2 x329001_2 x329002_2 x16_2 a2).bind fun bt331 => (some (bt331.1, bt331.2.1, bt331.2.2))) = some (r1, r2, r3) := by rw [if_neg (show ¬ (false = true) by decide)] at H; exact H
                            clear H
                            have H := H1
                            clear H1
                            replace H := Option.bind_eq_some_iff.mp H
                            obtain ⟨⟨t331, t332, t333⟩, A670, H⟩ := H
                            replace H : (some (t331, t332, t333)) = some (r1, r2, r3) := H
                            have A67 := Aside0.mk A670
                            clear A670
                            simp only [Option.some.injEq, Prod.mk.injEq] at H
                            obtain ⟨rfl, rfl, rfl⟩ := H
                            have hcz68_0 : wc.cell? ⟨gb328, 0, none⟩ = some (.int .i64 x329000_2) := (blk_cell BK328.out 0).trans rfl
                            have hcz68_1 : wc.cell? ⟨gb328, 1, none⟩ = some (.int .i64 x329001_2) := (blk_cell BK328.out 1).trans rfl
                            have hcz68_2 : wc.cell? ⟨gb328, 2, none⟩ = some (.int .i64 x329002_2) := (blk_cell BK328.out 2).trans rfl
                            have hfz68_0 := blk_frozen BK328.out 0
                            have hfz68_1 := blk_frozen BK328.out 1
                            have hfz68_2 := blk_frozen BK328.out 2
                            go_wp2_with (first | ((with_reducible refine gate_callee (f := 24) rfl ?_); refine goesL_ (some 98) rfl rfl Tryd.func24 (by kernel_rfl) rfl #[.agg #[.int .i64 x329000_2, .int .i64 x329001_2, .int .i64 x329002_2], .bool x16_2, .bool a2] rfl (by (try simp only [List.map_toArray, List.map_cons, List.map_nil]); first | done | rfl | (simp only [List.length_drop, List.length_take]; rfl)) ?_; (with_reducible refine (bureauref13_between.calls x329000_2 x329001_2 x329002_2 x16_2 a2 t331 t332 t333 _ A67.out ?sideT).mono ?_); (case sideT => first | exact HTABS.out | exact HTABS.out.below (by repeat (first | (with_reducible first | exact HB.out | apply below_alloc | apply pw_below_drewN | apply below_drew1) | refine below_set ?_ (Aside0.out (by assumption)) | exact HB.out)) (Nat.le_refl _) | exact HTABS.out.below (Below.drew (Below.refl _ _)) (Nat.le_refl _)); rintro e w69 ⟨rfl, hb⟩; refine ⟨_, rfl, ?_⟩; have n0_ := Aside0.mk (Kd.R_below (by (with_reducible repeat (first | apply Kd.R_alloc | apply Kd.R_drewN | apply Kd.R_drew)); exact HO_12.out) hb); have n1_ := Aside0.mk (blk_below (g := gb328) (o := .cells #[.int .i64 x329000_2, .int .i64 x329001_2, .int .i64 x329002_2] 41 (0, 0)) (by (with_reducible repeat (first | refine blk_drewN ?_ _ | refine blk_drew ?_ | refine blk_alloc ?_ _)); exact BK328.out) hb); have n2_ := Aside0.mk (below_step (by repeat (first | (with_reducible first | exact HB.out | apply below_alloc | apply pw_below_drewN | apply below_drew1 | refine below_set ?_ GE328.out) | exact HB.out)) hb); clear HO_12; clear BK328; clear HB; have HO_12 := n0_; have BK328 := n1_; have HB := n2_; clear n0_ n1_ n2_; (try clear hb); (try clear hb2); (try clear hk); (try clear hi)))
                            go_ret3
                            exact ⟨by first | rfl | (simp [errW_none, errW_some] <;> rfl) | (simp [*, errW_none, errW_some] <;> rfl), by repeat (first | (with_reducible first | exact HB.out | apply below_alloc | apply pw_below_drewN | apply below_drew1 | refine below_set ?_ GE328.out) | exact HB.out)⟩
                · replace c51 := Bool.eq_false_iff.mpr c51
                  subst c51
                  have H1 : ((bureauref13_about.f kj47 ([] : List (S41)) t281).bind fun bt334 => ((bureauref13_between.f bt334.1 bt334.2.1 bt334.2.2.1 bt334.2.2.2 a2).bind fun bt339 => (some (bt339.1, bt339.2.1, bt339.2.2)))) = some (r1, r2, r3) := by rw [if_neg (show ¬ (false = true) by decide)] at H; exact H
                  clear H
                  have H := H1
                  clear H1
                  replace H := Option.bind_eq_some_iff.mp H
                  obtain ⟨⟨t334, t335, t336, t337⟩, A700, H⟩ := H
                  replace H : ((bureauref13_between.f t334 t335 t336 t337 a2).bind fun bt339 => (some (bt339.1, bt339.2.1, bt339.2.2))) = some (r1, r2, r3) := H
                  have A70 := Aside0.mk A700
                  clear A700
                  replace H := Option.bind_eq_some_iff.mp H
                  obtain ⟨⟨t339, t340, t341⟩, A710, H⟩ := H
                  replace H : (some (t339, t340, t341)) = some (r1, r2, r3) := H
                  have A71 := Aside0.mk A710
                  clear A710
                  simp only [Option.some.injEq, Prod.mk.injEq] at H
                  obtain ⟨rfl, rfl, rfl⟩ := H
                  go_wp2_with (first | ((with_reducible refine gate_callee (f := 23) rfl ?_); refine goesL_ (some 105) rfl rfl Tryd.func23 (by kernel_rfl) rfl #[.slice none ([] : List (S41)).length 0, .int .i64 t281] rfl (by (try simp only [List.map_toArray, List.map_cons, List.map_nil]); first | done | (rw [show ([] : List (S41)).length = 0 from (Kd.R_reads' HO_12.out).1.symm] <;> rfl) | rfl | (simp only [List.length_drop, List.length_take]; rfl)) ?_; (with_reducible refine (bureauref13_about.calls kj47 _ _ ([] : List (S41)) t281 t334 t335 t336 t337 _ ?side1 ?side2 A70.out ?sideT).mono ?_); (case sideT => first | exact HTABS.out | exact HTABS.out.below (by repeat (first | (with_reducible first | exact HB.out | apply below_alloc | apply pw_below_drewN | apply below_drew1) | refine below_set ?_ (Aside0.out (by assumption)) | exact HB.out)) (Nat.le_refl _) | exact HTABS.out.below (Below.drew (Below.refl _ _)) (Nat.le_refl _)); (case side1 => repeat (first | exact (Kd.R_reads' HO_12.out).2.2 | (with_reducible refine Kd.C_alloc ?_ _) | (with_reducible refine Kd.C_drewN ?_ _) | (with_reducible refine Kd.C_drew ?_))); (case side2 => rw [show ([] : List (S41)).length = 0 from (Kd.R_reads' HO_12.out).1.symm]; exact (Kd.R_reads' HO_12.out).2.1); rintro e w72 ⟨rfl, hb⟩; refine ⟨_, rfl, ?_⟩; have n0_ := Aside0.mk (Kd.R_below (by (with_reducible repeat (first | apply Kd.R_alloc | apply Kd.R_drewN | apply Kd.R_drew)); exact HO_12.out) hb); have n1_ := Aside0.mk (below_step (by repeat (first | (with_reducible first | exact HB.out | apply below_alloc | apply pw_below_drewN | apply below_drew1) | exact HB.out)) hb); clear HO_12; clear HB; have HO_12 := n0_; have HB := n1_; clear n0_ n1_; (try clear hb); (try clear hb2); (try clear hk); (try clear hi)) | ((with_reducible refine gate_dst (N := 18) rfl ?_); refine box_event ?hg (N := 18) ?hd (cs := #[.int .i64 0, .int .i64 0, .int .i64 0]) (t := 41) ?hr ?_; (case hd => rfl); (case hg => rfl); (case hr => first | (go_simp; done) | (go_simp; rfl)); intro gb338 hg w73 hbox hb; have n0_ := Aside0.mk (Kd.R_below (Kd.R_elderB (by (with_reducible repeat (first | apply Kd.R_alloc | apply Kd.R_drewN | apply Kd.R_drew)); exact HO_12.out) gb338 (Nat.le_of_eq hg.symm)) hb); have n1_ := Aside0.mk (below_step (by repeat (first | (with_reducible first | exact HB.out | apply below_alloc | apply pw_below_drewN | apply below_drew1) | exact HB.out)) hb); have n2_ := Aside0.mk (hbox); have n3_ := Aside0.mk ((by rw [hg]; exact (below_size (by repeat (first | (with_reducible first | exact HB.out | apply below_alloc | apply pw_below_drewN | apply below_drew1) | exact HB.out))) : w.heap.size ≤ gb338)); have n4_ := Aside0.mk ((by rw [hg]; exact (below_size (by repeat (first | (with_reducible first | exact HB.out | apply below_alloc | apply pw_below_drewN | apply below_drew1) | exact HB.out))) : w.heap.size ≤ gb338)); clear HO_12; clear HB; have HO_12 := n0_; have HB := n1_; have BK338 := n2_; have GW338 := n3_; have GE338 := n4_; clear n0_ n1_ n2_ n3_ n4_; clear hb hbox hg; have hcz74_0 : w73.cell? ⟨gb338, 0, none⟩ = some (.int .i64 0) := (blk_cell BK338.out 0).trans rfl; have hcz74_1 : w73.cell? ⟨gb338, 1, none⟩ = some (.int .i64 0) := (blk_cell BK338.out 1).trans rfl; have hcz74_2 : w73.cell? ⟨gb338, 2, none⟩ = some (.int .i64 0) := (blk_cell BK338.out 2).trans rfl; have hfz74_0 := blk_frozen BK338.out 0; have hfz74_1 := blk_frozen BK338.out 1; have hfz74_2 := blk_frozen BK338.out 2) | ((with_reducible refine gate_callee (f := 24) rfl ?_); refine goesL_ (some 111) rfl rfl Tryd.func24 (by kernel_rfl) rfl #[.agg #[.int .i64 t334, .int .i64 t335, .int .i64 t336], .bool t337, .bool a2] rfl (by (try simp only [List.map_toArray, List.map_cons, List.map_nil]); first | done | rfl | (simp only [List.length_drop, List.length_take]; rfl)) ?_; (with_reducible refine (bureauref13_between.calls t334 t335 t336 t337 a2 t339 t340 t341 _ A71.out ?sideT).mono ?_); (case sideT => first | exact HTABS.out | exact HTABS.out.below (by repeat (first | (with_reducible first | exact HB.out | apply below_alloc | apply pw_below_drewN | apply below_drew1) | refine below_set ?_ (Aside0.out (by assumption)) | exact HB.out)) (Nat.le_refl _) | exact HTABS.out.below (Below.drew (Below.refl _ _)) (Nat.le_refl _)); rintro e w75 ⟨rfl, hb⟩; refine ⟨_, rfl, ?_⟩; have n0_ := Aside0.mk (Kd.R_below (by (with_reducible repeat (first | apply Kd.R_alloc | apply Kd.R_drewN | apply Kd.R_drew)); exact (Kd.R_mono (Kd.R_far (p := ⟨gb338, 2, none⟩) (Kd.R_far (p := ⟨gb338, 1, none⟩) (Kd.R_far (p := ⟨gb338, 0, none⟩) (Kd.R_mono HO_12.out (fun k_ hk => (⟨hk, hk.2⟩ : _ ∧ k_ ≠ gb338))) (fun _ hk => hk.2) (.int .i64 t334)) (fun _ hk => hk.2) (.int .i64 t335)) (fun _ hk => hk.2) (.int .i64 t336)) (fun _ h_ => h_.1))) hb); have n1_ := Aside0.mk (blk_below (g := gb338) (o := .cells #[.int .i64 t334, .int .i64 t335, .int .i64 t336] 41 (0, 0)) (by (with_reducible repeat (first | refine blk_drewN ?_ _ | refine blk_drew ?_ | refine blk_alloc ?_ _)); refine blk_put (cs := #[.int .i64 t334, .int .i64 t335, .int .i64 0]) ?_ 2 _ rfl; (with_reducible repeat (first | refine blk_drewN ?_ _ | refine blk_drew ?_ | refine blk_alloc ?_ _)); refine blk_put (cs := #[.int .i64 t334, .int .i64 0, .int .i64 0]) ?_ 1 _ rfl; (with_reducible repeat (first | refine blk_drewN ?_ _ | refine blk_drew ?_ | refine blk_alloc ?_ _)); refine blk_put (cs := #[.int .i64 0, .int .i64 0, .int .i64 0]) ?_ 0 _ rfl; (with_reducible repeat (first | refine blk_drewN ?_ _ | refine blk_drew ?_ | refine blk_alloc ?_ _)); exact BK338.out) hb); have n2_ := Aside0.mk (below_step (by repeat (first | (with_reducible first | exact HB.out | apply below_alloc | apply pw_below_drewN | apply below_drew1 | refine below_set ?_ GE338.out) | exact HB.out)) hb); clear HO_12; clear BK338; clear HB; have HO_12 := n0_; have BK338 := n1_; have HB := n2_; clear n0_ n1_ n2_; (try clear hb); (try clear hb2); (try clear hk); (try clear hi)))
                  go_ret3
                  exact ⟨by first | rfl | (simp [errW_none, errW_some] <;> rfl) | (simp [*, errW_none, errW_some] <;> rfl), by repeat (first | (with_reducible first | exact HB.out | apply below_alloc | apply pw_below_drewN | apply below_drew1 | refine below_set ?_ GE338.out) | exact HB.out)⟩

end Go.Proofs.YtcinobfflfkmjaaDoor.XObjectFinds
