-- Written by this session's program (wip/xprint.py) with the kit's print, for this claim.
import Derived.Test.YtcinobfflfkmjaaDoorXObjectRowsx0
import Derived.Test.YtcinobfflfkmjaaDoorXObjectRowsx4
import Derived.Test.YtcinobfflfkmjaaDoorXObjectRowsx5
import Derived.Test.YtcinobfflfkmjaaDoorXObjectRowsx6
namespace Go.Proofs.YtcinobfflfkmjaaDoor.XObjectRows
open Go.RowKit Go.Proofs.YtcinobfflfkmjaaDoorW.PrintWords Go.Proofs.YtcinobfflfkmjaaDoorW.PrintLast Go.Proofs.YtcinobfflfkmjaaDoorW.PrintMore Go.Proofs.YtcinobfflfkmjaaDoor.Ext
attribute [local go_sem] max2_int min2_int max_two min_two max_three min_three max_four min_four   -- for this text's walks alone
set_option linter.unusedVariables false
set_option linter.unusedSimpArgs false

/-! ### bureaulaw13_ObjectRows: function 4 -/
mutual
def bureaulaw13_ObjectRows.j0 : Nat → ByteArray → Int → Int → Int → Int → Bool → Option (Bool)
  | 0, _, _, _, _, _, _ => none
  | k + 1, x0, x1, x5, x6, x7, x77 => if x77 = true then (some false) else (bureaulaw13_ObjectRows.l0 k x0 x1 x5 x6 x7 x6)
def bureaulaw13_ObjectRows.l0 : Nat → ByteArray → Int → Int → Int → Int → Int → Option (Bool)
  | 0, _, _, _, _, _, _ => none
  | k + 1, x0, x1, x5, x6, x7, x9 => if x9 < x7 then ((bureaulaw13_class.f k x0 x9).bind fun t245 => ((bureaulaw13_class.f k x0 x5).bind fun t246 => (if t245 = t246 then ((bureauref02_Next.f k x0 x9).bind fun t247 => (bureaulaw13_ObjectRows.l0 k x0 x1 x5 x6 x7 t247)) else (some false)))) else ((object_Find.f k x0 x1 true 119).bind fun bt242 => (if bt242.2.2 = true then (if bt242.1 ≤ x6 then (if bt242.2.1 ≥ x7 then (if bt242.1 = x6 then (some true) else (some (bt242.2.1 == x7))) else (some false)) else (some false)) else (some false)))
end
def bureaulaw13_ObjectRows.f (k : Nat) (a0 : ByteArray) (a1 : Int) : Option (Bool) := (bureaulaw13_alive.f k).bind fun t230 => (if t230 = true then (if (a0.size : Int) > 2048 then (some true) else ((bureauref02_Align.f k a0 a1).bind fun t231 => ((object_Find.f k a0 a1 false 119).bind fun bt232 => (if bt232.2.2 = true then (if (t231 < (a0.size : Int)) then (if bt232.1 < 0 then (bureaulaw13_ObjectRows.j0 k a0 a1 t231 bt232.1 bt232.2.1 true) else (if bt232.1 > t231 then (bureaulaw13_ObjectRows.j0 k a0 a1 t231 bt232.1 bt232.2.1 true) else (if t231 ≥ bt232.2.1 then (bureaulaw13_ObjectRows.j0 k a0 a1 t231 bt232.1 bt232.2.1 true) else (if bt232.2.1 > (a0.size : Int) then (bureaulaw13_ObjectRows.j0 k a0 a1 t231 bt232.1 bt232.2.1 true) else (if bt232.1 > 0 then ((bureauref02_Prev.f k a0 bt232.1).bind fun t235 => ((bureaulaw13_class.f k a0 t235).bind fun t236 => ((bureaulaw13_class.f k a0 t231).bind fun t237 => (if t236 = t237 then (bureaulaw13_ObjectRows.j0 k a0 a1 t231 bt232.1 bt232.2.1 true) else ((bureaulaw13_class.f k a0 bt232.2.1).bind fun t238 => ((bureaulaw13_class.f k a0 t231).bind fun t239 => (bureaulaw13_ObjectRows.j0 k a0 a1 t231 bt232.1 bt232.2.1 (t238 == t239)))))))) else ((bureaulaw13_class.f k a0 bt232.2.1).bind fun t240 => ((bureaulaw13_class.f k a0 t231).bind fun t241 => (bureaulaw13_ObjectRows.j0 k a0 a1 t231 bt232.1 bt232.2.1 (t240 == t241))))))))) else (some false)) else (if t231 < (a0.size : Int) then (some false) else (some true)))))) else (some false))
theorem bureaulaw13_ObjectRows.mono_l : ∀ k, (∀ y0 y1 y2 y3 y4 y5, LeO (bureaulaw13_ObjectRows.j0 k y0 y1 y2 y3 y4 y5) (bureaulaw13_ObjectRows.j0 (k + 1) y0 y1 y2 y3 y4 y5)) ∧ (∀ y0 y1 y2 y3 y4 y5, LeO (bureaulaw13_ObjectRows.l0 k y0 y1 y2 y3 y4 y5) (bureaulaw13_ObjectRows.l0 (k + 1) y0 y1 y2 y3 y4 y5))
  | 0 => ⟨fun _ _ _ _ _ _ r h => by simp [bureaulaw13_ObjectRows.j0] at h, fun _ _ _ _ _ _ r h => by simp [bureaulaw13_ObjectRows.l0] at h⟩
  | k + 1 => by
    obtain ⟨ih0, ih1⟩ := bureaulaw13_ObjectRows.mono_l k
    refine ⟨?_, ?_⟩
    · intro y0 y1 y2 y3 y4 y5
      unfold bureaulaw13_ObjectRows.j0
      repeat' first
      | (with_reducible exact ih0 _ _ _ _ _ _)
      | (with_reducible exact ih1 _ _ _ _ _ _)
      | (with_reducible exact bureaulaw13_alive.mono _)
      | (with_reducible exact bureaulaw13_class.mono _ _ _)
      | (with_reducible exact bureauref02_Align.mono _ _ _)
      | (with_reducible exact bureauref02_Next.mono _ _ _)
      | (with_reducible exact bureauref02_Prev.mono _ _ _)
      | (with_reducible exact object_Find.mono _ _ _ _ _)
      | (with_reducible exact LeO.refl _)
      | (with_reducible exact LeO.none _)
      | (with_reducible refine LeO.ite ?_ ?_)
      | (with_reducible refine LeO.bind ?_ (fun _ => ?_))
      | exact ih0 _ _ _ _ _ _
      | exact ih1 _ _ _ _ _ _
      | exact bureaulaw13_alive.mono _
      | exact bureaulaw13_class.mono _ _ _
      | exact bureauref02_Align.mono _ _ _
      | exact bureauref02_Next.mono _ _ _
      | exact bureauref02_Prev.mono _ _ _
      | exact object_Find.mono _ _ _ _ _
      | exact LeO.none _
      | refine LeO.ite ?_ ?_
      | refine LeO.bind ?_ (fun _ => ?_)
    · intro y0 y1 y2 y3 y4 y5
      unfold bureaulaw13_ObjectRows.l0
      repeat' first
      | (with_reducible exact ih0 _ _ _ _ _ _)
      | (with_reducible exact ih1 _ _ _ _ _ _)
      | (with_reducible exact bureaulaw13_alive.mono _)
      | (with_reducible exact bureaulaw13_class.mono _ _ _)
      | (with_reducible exact bureauref02_Align.mono _ _ _)
      | (with_reducible exact bureauref02_Next.mono _ _ _)
      | (with_reducible exact bureauref02_Prev.mono _ _ _)
      | (with_reducible exact object_Find.mono _ _ _ _ _)
      | (with_reducible exact LeO.refl _)
      | (with_reducible exact LeO.none _)
      | (with_reducible refine LeO.ite ?_ ?_)
      | (with_reducible refine LeO.bind ?_ (fun _ => ?_))
      | exact ih0 _ _ _ _ _ _
      | exact ih1 _ _ _ _ _ _
      | exact bureaulaw13_alive.mono _
      | exact bureaulaw13_class.mono _ _ _
      | exact bureauref02_Align.mono _ _ _
      | exact bureauref02_Next.mono _ _ _
      | exact bureauref02_Prev.mono _ _ _
      | exact object_Find.mono _ _ _ _ _
      | exact LeO.none _
      | refine LeO.ite ?_ ?_
      | refine LeO.bind ?_ (fun _ => ?_)
theorem bureaulaw13_ObjectRows.mono : ∀ a0 a1 k, LeO (bureaulaw13_ObjectRows.f k a0 a1) (bureaulaw13_ObjectRows.f (k + 1) a0 a1) := by
  intro a0 a1 k
  obtain ⟨ih0, ih1⟩ := bureaulaw13_ObjectRows.mono_l k
  unfold bureaulaw13_ObjectRows.f
  repeat' first
      | (with_reducible exact ih0 _ _ _ _ _ _)
      | (with_reducible exact ih1 _ _ _ _ _ _)
      | (with_reducible exact bureaulaw13_alive.mono _)
      | (with_reducible exact bureaulaw13_class.mono _ _ _)
      | (with_reducible exact bureauref02_Align.mono _ _ _)
      | (with_reducible exact bureauref02_Next.mono _ _ _)
      | (with_reducible exact bureauref02_Prev.mono _ _ _)
      | (with_reducible exact object_Find.mono _ _ _ _ _)
      | (with_reducible exact LeO.refl _)
      | (with_reducible exact LeO.none _)
      | (with_reducible refine LeO.ite ?_ ?_)
      | (with_reducible refine LeO.bind ?_ (fun _ => ?_))
      | exact ih0 _ _ _ _ _ _
      | exact ih1 _ _ _ _ _ _
      | exact bureaulaw13_alive.mono _
      | exact bureaulaw13_class.mono _ _ _
      | exact bureauref02_Align.mono _ _ _
      | exact bureauref02_Next.mono _ _ _
      | exact bureauref02_Prev.mono _ _ _
      | exact object_Find.mono _ _ _ _ _
      | exact LeO.none _
      | refine LeO.ite ?_ ?_
      | refine LeO.bind ?_ (fun _ => ?_)
set_option maxHeartbeats 8000000 in
set_option maxRecDepth 100000 in
theorem bureaulaw13_ObjectRows.calls (k : Nat) (a0 : ByteArray) (a1 : Int) (r : Bool) (w : World) (h : bureaulaw13_ObjectRows.f k a0 a1 = some r) (hTabs : Tabs w) :
    Calls Tryd.prog 4 #[.string a0, .int .i64 a1] w fun e w' => e = .returned (.bool r) ∧ Below w.heap.size w w' := by
  have HTABS := Aside0.mk hTabs
  clear hTabs
  have HB := Aside0.mk (Below.refl w.heap.size w)
  have H : ((bureaulaw13_alive.f k).bind fun t230 => (if t230 = true then (if (a0.size : Int) > 2048 then (some true) else ((bureauref02_Align.f k a0 a1).bind fun t231 => ((object_Find.f k a0 a1 false 119).bind fun bt232 => (if bt232.2.2 = true then (if (t231 < (a0.size : Int)) then (if bt232.1 < 0 then (bureaulaw13_ObjectRows.j0 k a0 a1 t231 bt232.1 bt232.2.1 true) else (if bt232.1 > t231 then (bureaulaw13_ObjectRows.j0 k a0 a1 t231 bt232.1 bt232.2.1 true) else (if t231 ≥ bt232.2.1 then (bureaulaw13_ObjectRows.j0 k a0 a1 t231 bt232.1 bt232.2.1 true) else (if bt232.2.1 > (a0.size : Int) then (bureaulaw13_ObjectRows.j0 k a0 a1 t231 bt232.1 bt232.2.1 true) else (if bt232.1 > 0 then ((bureauref02_Prev.f k a0 bt232.1).bind fun t235 => ((bureaulaw13_class.f k a0 t235).bind fun t236 => ((bureaulaw13_class.f k a0 t231).bind fun t237 => (if t236 = t237 then (bureaulaw13_ObjectRows.j0 k a0 a1 t231 bt232.1 bt232.2.1 true) else ((bureaulaw13_class.f k a0 bt232.2.1).bind fun t238 => ((bureaulaw13_class.f k a0 t231).bind fun t239 => (bureaulaw13_ObjectRows.j0 k a0 a1 t231 bt232.1 bt232.2.1 (t238 == t239)))))))) else ((bureaulaw13_class.f k a0 bt232.2.1).bind fun t240 => ((bureaulaw13_class.f k a0 t231).bind fun t241 => (bureaulaw13_ObjectRows.j0 k a0 a1 t231 bt232.1 bt232.2.1 (t240 == t241))))))))) else (some false)) else (if t231 < (a0.size : Int) then (some false) else (some true)))))) else (some false))) = some r := h
  clear h
  replace H := Option.bind_eq_some_iff.mp H
  obtain ⟨t230, A30, H⟩ := H
  replace H : (if t230 = true then (if (a0.size : Int) > 2048 then (some true) else ((bureauref02_Align.f k a0 a1).bind fun t231 => ((object_Find.f k a0 a1 false 119).bind fun bt232 => (if bt232.2.2 = true then (if (t231 < (a0.size : Int)) then (if bt232.1 < 0 then (bureaulaw13_ObjectRows.j0 k a0 a1 t231 bt232.1 bt232.2.1 true) else (if bt232.1 > t231 then (bureaulaw13_ObjectRows.j0 k a0 a1 t231 bt232.1 bt232.2.1 true) else (if t231 ≥ bt232.2.1 then (bureaulaw13_ObjectRows.j0 k a0 a1 t231 bt232.1 bt232.2.1 true) else (if bt232.2.1 > (a0.size : Int) then (bureaulaw13_ObjectRows.j0 k a0 a1 t231 bt232.1 bt232.2.1 true) else (if bt232.1 > 0 then ((bureauref02_Prev.f k a0 bt232.1).bind fun t235 => ((bureaulaw13_class.f k a0 t235).bind fun t236 => ((bureaulaw13_class.f k a0 t231).bind fun t237 => (if t236 = t237 then (bureaulaw13_ObjectRows.j0 k a0 a1 t231 bt232.1 bt232.2.1 true) else ((bureaulaw13_class.f k a0 bt232.2.1).bind fun t238 => ((bureaulaw13_class.f k a0 t231).bind fun t239 => (bureaulaw13_ObjectRows.j0 k a0 a1 t231 bt232.1 bt232.2.1 (t238 == t239)))))))) else ((bureaulaw13_class.f k a0 bt232.2.1).bind fun t240 => ((bureaulaw13_class.f k a0 t231).bind fun t241 => (bureaulaw13_ObjectRows.j0 k a0 a1 t231 bt232.1 bt232.2.1 (t240 == t241))))))))) else (some false)) else (if t231 < (a0.size : Int) then (some false) else (some true)))))) else (some false)) = some r := H
  have A3 := Aside0.mk A30
  clear A30
  by_cases c4 : t230 = true
  · subst c4
    have H1 : (if (a0.size : Int) > 2048 then (some true) else ((bureauref02_Align.f k a0 a1).bind fun t231 => ((object_Find.f k a0 a1 false 119).bind fun bt232 => (if bt232.2.2 = true then (if (t231 < (a0.size : Int)) then (if bt232.1 < 0 then (bureaulaw13_ObjectRows.j0 k a0 a1 t231 bt232.1 bt232.2.1 true) else (if bt232.1 > t231 then (bureaulaw13_ObjectRows.j0 k a0 a1 t231 bt232.1 bt232.2.1 true) else (if t231 ≥ bt232.2.1 then (bureaulaw13_ObjectRows.j0 k a0 a1 t231 bt232.1 bt232.2.1 true) else (if bt232.2.1 > (a0.size : Int) then (bureaulaw13_ObjectRows.j0 k a0 a1 t231 bt232.1 bt232.2.1 true) else (if bt232.1 > 0 then ((bureauref02_Prev.f k a0 bt232.1).bind fun t235 => ((bureaulaw13_class.f k a0 t235).bind fun t236 => ((bureaulaw13_class.f k a0 t231).bind fun t237 => (if t236 = t237 then (bureaulaw13_ObjectRows.j0 k a0 a1 t231 bt232.1 bt232.2.1 true) else ((bureaulaw13_class.f k a0 bt232.2.1).bind fun t238 => ((bureaulaw13_class.f k a0 t231).bind fun t239 => (bureaulaw13_ObjectRows.j0 k a0 a1 t231 bt232.1 bt232.2.1 (t238 == t239)))))))) else ((bureaulaw13_class.f k a0 bt232.2.1).bind fun t240 => ((bureaulaw13_class.f k a0 t231).bind fun t241 => (bureaulaw13_ObjectRows.j0 k a0 a1 t231 bt232.1 bt232.2.1 (t240 == t241))))))))) else (some false)) else (if t231 < (a0.size : Int) then (some false) else (some true)))))) = some r := by rw [if_pos rfl] at H; exact H
    clear H
    have H := H1
    clear H1
    by_cases c5 : (a0.size : Int) > 2048
    · rw [if_pos c5] at H
      have c5b0 : decide (2048 < (a0.size : Int)) = true := decide_eq_true c5
      have c5b1 : decide (2048 < a0.size) = true := decide_eq_true (by omega)
      clear c5
      obtain rfl := Option.some.inj H
      go_enter Tryd.func4, Tryd.ntmps4
      go_wp2_with (first | ((with_reducible refine gate_callee (f := 7) rfl ?_); refine goesL_ (some 13) rfl rfl Tryd.func7 (by kernel_rfl) rfl #[] rfl (by (try simp only [List.map_toArray, List.map_cons, List.map_nil]); first | done | rfl | (simp only [List.length_drop, List.length_take]; rfl)) ?_; (with_reducible refine (bureaulaw13_alive.calls k  true _ A3.out ?sideT).mono ?_); (case sideT => first | exact HTABS.out | exact HTABS.out.below (by repeat (first | (with_reducible first | exact HB.out | apply below_alloc | apply pw_below_drewN | apply below_drew1) | exact HB.out)) (Nat.le_refl _) | exact HTABS.out.below (Below.drew (Below.refl _ _)) (Nat.le_refl _)); rintro e w6 ⟨rfl, hb⟩; refine ⟨_, rfl, ?_⟩; have n0_ := Aside0.mk (below_step (by repeat (first | (with_reducible first | exact HB.out | apply below_alloc | apply pw_below_drewN | apply below_drew1) | exact HB.out)) hb); clear HB; have HB := n0_; clear n0_; (try clear hb); (try clear hb2); (try clear hk); (try clear hi)))
      go_ret
      exact ⟨by first | rfl | (simp [errW_none, errW_some] <;> rfl) | (simp [*, errW_none, errW_some] <;> rfl), by repeat (first | (with_reducible first | exact HB.out | apply below_alloc | apply pw_below_drewN | apply below_drew1) | exact HB.out)⟩
    · rw [if_neg c5] at H
      have c5b0 : decide (2048 < (a0.size : Int)) = false := decide_eq_false c5
      have c5b1 : decide (2048 < a0.size) = false := decide_eq_false (by omega)
      clear c5
      replace H := Option.bind_eq_some_iff.mp H
      obtain ⟨t231, A70, H⟩ := H
      replace H : ((object_Find.f k a0 a1 false 119).bind fun bt232 => (if bt232.2.2 = true then (if (t231 < (a0.size : Int)) then (if bt232.1 < 0 then (bureaulaw13_ObjectRows.j0 k a0 a1 t231 bt232.1 bt232.2.1 true) else (if bt232.1 > t231 then (bureaulaw13_ObjectRows.j0 k a0 a1 t231 bt232.1 bt232.2.1 true) else (if t231 ≥ bt232.2.1 then (bureaulaw13_ObjectRows.j0 k a0 a1 t231 bt232.1 bt232.2.1 true) else (if bt232.2.1 > (a0.size : Int) then (bureaulaw13_ObjectRows.j0 k a0 a1 t231 bt232.1 bt232.2.1 true) else (if bt232.1 > 0 then ((bureauref02_Prev.f k a0 bt232.1).bind fun t235 => ((bureaulaw13_class.f k a0 t235).bind fun t236 => ((bureaulaw13_class.f k a0 t231).bind fun t237 => (if t236 = t237 then (bureaulaw13_ObjectRows.j0 k a0 a1 t231 bt232.1 bt232.2.1 true) else ((bureaulaw13_class.f k a0 bt232.2.1).bind fun t238 => ((bureaulaw13_class.f k a0 t231).bind fun t239 => (bureaulaw13_ObjectRows.j0 k a0 a1 t231 bt232.1 bt232.2.1 (t238 == t239)))))))) else ((bureaulaw13_class.f k a0 bt232.2.1).bind fun t240 => ((bureaulaw13_class.f k a0 t231).bind fun t241 => (bureaulaw13_ObjectRows.j0 k a0 a1 t231 bt232.1 bt232.2.1 (t240 == t241))))))))) else (some false)) else (if t231 < (a0.size : Int) then (some false) else (some true)))) = some r := H
      have A7 := Aside0.mk A70
      clear A70
      replace H := Option.bind_eq_some_iff.mp H
      obtain ⟨⟨t232, t233, t234⟩, A80, H⟩ := H
      replace H : (if t234 = true then (if (t231 < (a0.size : Int)) then (if t232 < 0 then (bureaulaw13_ObjectRows.j0 k a0 a1 t231 t232 t233 true) else (if t232 > t231 then (bureaulaw13_ObjectRows.j0 k a0 a1 t231 t232 t233 true) else (if t231 ≥ t233 then (bureaulaw13_ObjectRows.j0 k a0 a1 t231 t232 t233 true) else (if t233 > (a0.size : Int) then (bureaulaw13_ObjectRows.j0 k a0 a1 t231 t232 t233 true) else (if t232 > 0 then ((bureauref02_Prev.f k a0 t232).bind fun t235 => ((bureaulaw13_class.f k a0 t235).bind fun t236 => ((bureaulaw13_class.f k a0 t231).bind fun t237 => (if t236 = t237 then (bureaulaw13_ObjectRows.j0 k a0 a1 t231 t232 t233 true) else ((bureaulaw13_class.f k a0 t233).bind fun t238 => ((bureaulaw13_class.f k a0 t231).bind fun t239 => (bureaulaw13_ObjectRows.j0 k a0 a1 t231 t232 t233 (t238 == t239)))))))) else ((bureaulaw13_class.f k a0 t233).bind fun t240 => ((bureaulaw13_class.f k a0 t231).bind fun t241 => (bureaulaw13_ObjectRows.j0 k a0 a1 t231 t232 t233 (t240 == t241))))))))) else (some false)) else (if t231 < (a0.size : Int) then (some false) else (some true))) = some r := H
      have A8 := Aside0.mk A80
      clear A80
      by_cases c9 : t234 = true
      · subst c9
        have H1 : (if (t231 < (a0.size : Int)) then (if t232 < 0 then (bureaulaw13_ObjectRows.j0 k a0 a1 t231 t232 t233 true) else (if t232 > t231 then (bureaulaw13_ObjectRows.j0 k a0 a1 t231 t232 t233 true) else (if t231 ≥ t233 then (bureaulaw13_ObjectRows.j0 k a0 a1 t231 t232 t233 true) else (if t233 > (a0.size : Int) then (bureaulaw13_ObjectRows.j0 k a0 a1 t231 t232 t233 true) else (if t232 > 0 then ((bureauref02_Prev.f k a0 t232).bind fun t235 => ((bureaulaw13_class.f k a0 t235).bind fun t236 => ((bureaulaw13_class.f k a0 t231).bind fun t237 => (if t236 = t237 then (bureaulaw13_ObjectRows.j0 k a0 a1 t231 t232 t233 true) else ((bureaulaw13_class.f k a0 t233).bind fun t238 => ((bureaulaw13_class.f k a0 t231).bind fun t239 => (bureaulaw13_ObjectRows.j0 k a0 a1 t231 t232 t233 (t238 == t239)))))))) else ((bureaulaw13_class.f k a0 t233).bind fun t240 => ((bureaulaw13_class.f k a0 t231).bind fun t241 => (bureaulaw13_ObjectRows.j0 k a0 a1 t231 t232 t233 (t240 == t241))))))))) else (some false)) = some r := by rw [if_pos rfl] at H; exact H
        clear H
        have H := H1
        clear H1
        by_cases c10 : (t231 < (a0.size : Int))
        · rw [if_pos c10] at H
          have c10b0 : decide (t231 < (a0.size : Int)) = true := decide_eq_true c10
          clear c10
          have HC11 := Aside0.mk H
          clear H
          go_enter Tryd.func4, Tryd.ntmps4
          go_upto_region 11 with (first | ((with_reducible refine gate_callee (f := 7) rfl ?_); refine goesL_ (some 13) rfl rfl Tryd.func7 (by kernel_rfl) rfl #[] rfl (by (try simp only [List.map_toArray, List.map_cons, List.map_nil]); first | done | rfl | (simp only [List.length_drop, List.length_take]; rfl)) ?_; (with_reducible refine (bureaulaw13_alive.calls k  true _ A3.out ?sideT).mono ?_); (case sideT => first | exact HTABS.out | exact HTABS.out.below (by repeat (first | (with_reducible first | exact HB.out | apply below_alloc | apply pw_below_drewN | apply below_drew1) | exact HB.out)) (Nat.le_refl _) | exact HTABS.out.below (Below.drew (Below.refl _ _)) (Nat.le_refl _)); rintro e w12 ⟨rfl, hb⟩; refine ⟨_, rfl, ?_⟩; have n0_ := Aside0.mk (below_step (by repeat (first | (with_reducible first | exact HB.out | apply below_alloc | apply pw_below_drewN | apply below_drew1) | exact HB.out)) hb); clear HB; have HB := n0_; clear n0_; (try clear hb); (try clear hb2); (try clear hk); (try clear hi)) | ((with_reducible refine gate_callee (f := 10) rfl ?_); refine goesL_ (some 20) rfl rfl Tryd.func10 (by kernel_rfl) rfl #[.string a0, .int .i64 a1] rfl (by (try simp only [List.map_toArray, List.map_cons, List.map_nil]); first | done | rfl | (simp only [List.length_drop, List.length_take]; rfl)) ?_; (with_reducible refine (bureauref02_Align.calls k a0 a1 t231 _ A7.out ?sideT).mono ?_); (case sideT => first | exact HTABS.out | exact HTABS.out.below (by repeat (first | (with_reducible first | exact HB.out | apply below_alloc | apply pw_below_drewN | apply below_drew1) | exact HB.out)) (Nat.le_refl _) | exact HTABS.out.below (Below.drew (Below.refl _ _)) (Nat.le_refl _)); rintro e w13 ⟨rfl, hb⟩; refine ⟨_, rfl, ?_⟩; have n0_ := Aside0.mk (below_step (by repeat (first | (with_reducible first | exact HB.out | apply below_alloc | apply pw_below_drewN | apply below_drew1) | exact HB.out)) hb); clear HB; have HB := n0_; clear n0_; (try clear hb); (try clear hb2); (try clear hk); (try clear hi)) | ((with_reducible refine gate_callee (f := 8) rfl ?_); refine goesL_ (some 24) rfl rfl Tryd.func8 (by kernel_rfl) rfl #[.string a0, .int .i64 a1, .bool false, .int .i32 119] rfl (by (try simp only [List.map_toArray, List.map_cons, List.map_nil]); first | done | rfl | (simp only [List.length_drop, List.length_take]; rfl)) ?_; (with_reducible refine (object_Find.calls k a0 a1 false 119 t232 t233 true _ A8.out ?sideT).mono ?_); (case sideT => first | exact HTABS.out | exact HTABS.out.below (by repeat (first | (with_reducible first | exact HB.out | apply below_alloc | apply pw_below_drewN | apply below_drew1) | exact HB.out)) (Nat.le_refl _) | exact HTABS.out.below (Below.drew (Below.refl _ _)) (Nat.le_refl _)); rintro e w14 ⟨rfl, hb⟩; refine ⟨_, rfl, ?_⟩; have n0_ := Aside0.mk (below_step (by repeat (first | (with_reducible first | exact HB.out | apply below_alloc | apply pw_below_drewN | apply below_drew1) | exact HB.out)) hb); clear HB; have HB := n0_; clear n0_; (try clear hb); (try clear hb2); (try clear hk); (try clear hi)))
          (try simp only [Act.put, List.setIfInBounds_toArray, List.set_cons_zero, List.set_cons_succ])
          go_cut [77] (fun v77 wc => ∃ (kq : Nat) (x77_10 : Bool), v77 = .bool x77_10 ∧ Aside0 (bureaulaw13_ObjectRows.j0 kq a0 a1 t231 t232 t233 x77_10 = some r) ∧ Aside0 (kq ≤ k) ∧ Aside0 (Below w.heap.size w wc))
          case first =>
            have H := HC11.out
            clear HC11
            by_cases c15 : t232 < 0
            · rw [if_pos c15] at H
              have c15b0 : decide (t232 < 0) = true := decide_eq_true c15
              clear c15
              (first | rw [c15b0] | (simp only [i64_w, i32_w]; rw [c15b0]) | skip)
              have H' := Aside0.mk H
              clear H
              go_wp2
              go_meet
              case rel => exact ⟨_, (true), (by first | rfl | (simp; done) | (simp [*]; done)), H', ⟨by first | omega | exact Nat.le_refl _⟩, ⟨by repeat (first | (with_reducible first | exact HB.out | apply below_alloc | apply pw_below_drewN | apply below_drew1) | exact HB.out)⟩⟩
            · rw [if_neg c15] at H
              have c15b0 : decide (t232 < 0) = false := decide_eq_false c15
              clear c15
              (first | rw [c15b0] | (simp only [i64_w, i32_w]; rw [c15b0]) | skip)
              by_cases c16 : t232 > t231
              · rw [if_pos c16] at H
                have c16b0 : decide (t231 < t232) = true := decide_eq_true c16
                clear c16
                have H' := Aside0.mk H
                clear H
                go_wp2
                go_meet
                case rel => exact ⟨_, (true), (by first | rfl | (simp; done) | (simp [*]; done)), H', ⟨by first | omega | exact Nat.le_refl _⟩, ⟨by repeat (first | (with_reducible first | exact HB.out | apply below_alloc | apply pw_below_drewN | apply below_drew1) | exact HB.out)⟩⟩
              · rw [if_neg c16] at H
                have c16b0 : decide (t231 < t232) = false := decide_eq_false c16
                clear c16
                by_cases c17 : t231 ≥ t233
                · rw [if_pos c17] at H
                  have c17b0 : decide (t233 ≤ t231) = true := decide_eq_true c17
                  clear c17
                  have H' := Aside0.mk H
                  clear H
                  go_wp2
                  go_meet
                  case rel => exact ⟨_, (true), (by first | rfl | (simp; done) | (simp [*]; done)), H', ⟨by first | omega | exact Nat.le_refl _⟩, ⟨by repeat (first | (with_reducible first | exact HB.out | apply below_alloc | apply pw_below_drewN | apply below_drew1) | exact HB.out)⟩⟩
                · rw [if_neg c17] at H
                  have c17b0 : decide (t233 ≤ t231) = false := decide_eq_false c17
                  clear c17
                  by_cases c18 : t233 > (a0.size : Int)
                  · rw [if_pos c18] at H
                    have c18b0 : decide ((a0.size : Int) < t233) = true := decide_eq_true c18
                    clear c18
                    have H' := Aside0.mk H
                    clear H
                    go_wp2
                    go_meet
                    case rel => exact ⟨_, (true), (by first | rfl | (simp; done) | (simp [*]; done)), H', ⟨by first | omega | exact Nat.le_refl _⟩, ⟨by repeat (first | (with_reducible first | exact HB.out | apply below_alloc | apply pw_below_drewN | apply below_drew1) | exact HB.out)⟩⟩
                  · rw [if_neg c18] at H
                    have c18b0 : decide ((a0.size : Int) < t233) = false := decide_eq_false c18
                    clear c18
                    by_cases c19 : t232 > 0
                    · rw [if_pos c19] at H
                      have c19b0 : decide (0 < t232) = true := decide_eq_true c19
                      clear c19
                      replace H := Option.bind_eq_some_iff.mp H
                      obtain ⟨t235, A200, H⟩ := H
                      replace H : ((bureaulaw13_class.f k a0 t235).bind fun t236 => ((bureaulaw13_class.f k a0 t231).bind fun t237 => (if t236 = t237 then (bureaulaw13_ObjectRows.j0 k a0 a1 t231 t232 t233 true) else ((bureaulaw13_class.f k a0 t233).bind fun t238 => ((bureaulaw13_class.f k a0 t231).bind fun t239 => (bureaulaw13_ObjectRows.j0 k a0 a1 t231 t232 t233 (t238 == t239))))))) = some r := H
                      have A20 := Aside0.mk A200
                      clear A200
                      replace H := Option.bind_eq_some_iff.mp H
                      obtain ⟨t236, A210, H⟩ := H
                      replace H : ((bureaulaw13_class.f k a0 t231).bind fun t237 => (if t236 = t237 then (bureaulaw13_ObjectRows.j0 k a0 a1 t231 t232 t233 true) else ((bureaulaw13_class.f k a0 t233).bind fun t238 => ((bureaulaw13_class.f k a0 t231).bind fun t239 => (bureaulaw13_ObjectRows.j0 k a0 a1 t231 t232 t233 (t238 == t239)))))) = some r := H
                      have A21 := Aside0.mk A210
                      clear A210
                      replace H := Option.bind_eq_some_iff.mp H
                      obtain ⟨t237, A220, H⟩ := H
                      replace H : (if t236 = t237 then (bureaulaw13_ObjectRows.j0 k a0 a1 t231 t232 t233 true) else ((bureaulaw13_class.f k a0 t233).bind fun t238 => ((bureaulaw13_class.f k a0 t231).bind fun t239 => (bureaulaw13_ObjectRows.j0 k a0 a1 t231 t232 t233 (t238 == t239))))) = some r := H
                      have A22 := Aside0.mk A220
                      clear A220
                      by_cases c23 : t236 = t237
                      · rw [if_pos c23] at H
                        have c23b0 : (t236 == t237) = true := beq_iff_eq.mpr c23
                        have c23b1 : (t236 != t237) = false := bne_eq_false_iff_eq.mpr c23
                        clear c23
                        have H' := Aside0.mk H
                        clear H
                        try have EQA21A22 := Aside0.mk (Option.some.inj (A21.out.symm.trans A22.out))
                        go_wp2_with (first | (go_at_call 12; (with_reducible refine (bureauref02_Prev.calls k a0 t232 t235 _ A20.out ?sideT).mono ?_); (case sideT => first | exact HTABS.out | exact HTABS.out.below (by repeat (first | (with_reducible first | exact HB.out | apply below_alloc | apply pw_below_drewN | apply below_drew1) | exact HB.out)) (Nat.le_refl _) | exact HTABS.out.below (Below.drew (Below.refl _ _)) (Nat.le_refl _)); rintro e w24 ⟨rfl, hb⟩; have n0_ := Aside0.mk (below_step (by repeat (first | (with_reducible first | exact HB.out | apply below_alloc | apply pw_below_drewN | apply below_drew1) | exact HB.out)) hb); clear HB; have HB := n0_; clear n0_; (try clear hb); (try clear hb2); (try clear hk); (try clear hi)) | (go_at_call 11; (with_reducible refine (bureaulaw13_class.calls k a0 t235 t236 _ A21.out ?sideT).mono ?_); (case sideT => first | exact HTABS.out | exact HTABS.out.below (by repeat (first | (with_reducible first | exact HB.out | apply below_alloc | apply pw_below_drewN | apply below_drew1) | exact HB.out)) (Nat.le_refl _) | exact HTABS.out.below (Below.drew (Below.refl _ _)) (Nat.le_refl _)); rintro e w25 ⟨rfl, hb⟩; have n0_ := Aside0.mk (below_step (by repeat (first | (with_reducible first | exact HB.out | apply below_alloc | apply pw_below_drewN | apply below_drew1) | exact HB.out)) hb); clear HB; have HB := n0_; clear n0_; (try clear hb); (try clear hb2); (try clear hk); (try clear hi)) | (go_at_call 11; (with_reducible refine (bureaulaw13_class.calls k a0 t231 t237 _ A22.out ?sideT).mono ?_); (case sideT => first | exact HTABS.out | exact HTABS.out.below (by repeat (first | (with_reducible first | exact HB.out | apply below_alloc | apply pw_below_drewN | apply below_drew1) | exact HB.out)) (Nat.le_refl _) | exact HTABS.out.below (Below.drew (Below.refl _ _)) (Nat.le_refl _)); rintro e w26 ⟨rfl, hb⟩; have n0_ := Aside0.mk (below_step (by repeat (first | (with_reducible first | exact HB.out | apply below_alloc | apply pw_below_drewN | apply below_drew1) | exact HB.out)) hb); clear HB; have HB := n0_; clear n0_; (try clear hb); (try clear hb2); (try clear hk); (try clear hi)))
                        go_meet
                        case rel => exact ⟨_, (true), (by first | rfl | (simp; done) | (simp [*]; done) | ((try have eqA21A22 := EQA21A22.out); simp [*]; done)), H', ⟨by first | omega | exact Nat.le_refl _⟩, ⟨by repeat (first | (with_reducible first | exact HB.out | apply below_alloc | apply pw_below_drewN | apply below_drew1) | exact HB.out)⟩⟩
                      · rw [if_neg c23] at H
                        have c23b0 : (t236 == t237) = false := beq_eq_false_iff_ne.mpr c23
                        have c23b1 : (t236 != t237) = true := bne_iff_ne.mpr c23
                        replace H := Option.bind_eq_some_iff.mp H
                        obtain ⟨t238, A270, H⟩ := H
                        replace H : ((bureaulaw13_class.f k a0 t231).bind fun t239 => (bureaulaw13_ObjectRows.j0 k a0 a1 t231 t232 t233 (t238 == t239))) = some r := H
                        have A27 := Aside0.mk A270
                        clear A270
                        replace H := Option.bind_eq_some_iff.mp H
                        obtain ⟨t239, A280, H⟩ := H
                        replace H : (bureaulaw13_ObjectRows.j0 k a0 a1 t231 t232 t233 (t238 == t239)) = some r := H
                        have A28 := Aside0.mk A280
                        clear A280
                        have H' := Aside0.mk H
                        clear H
                        try have EQA21A22 := Aside0.mk (Option.some.inj (A21.out.symm.trans A22.out))
                        try have EQA21A27 := Aside0.mk (Option.some.inj (A21.out.symm.trans A27.out))
                        try have EQA21A28 := Aside0.mk (Option.some.inj (A21.out.symm.trans A28.out))
                        try have EQA22A27 := Aside0.mk (Option.some.inj (A22.out.symm.trans A27.out))
                        try have EQA22A28 := Aside0.mk (Option.some.inj (A22.out.symm.trans A28.out))
                        try have EQA27A28 := Aside0.mk (Option.some.inj (A27.out.symm.trans A28.out))
                        go_wp2_with (first | (go_at_call 12; (with_reducible refine (bureauref02_Prev.calls k a0 t232 t235 _ A20.out ?sideT).mono ?_); (case sideT => first | exact HTABS.out | exact HTABS.out.below (by repeat (first | (with_reducible first | exact HB.out | apply below_alloc | apply pw_below_drewN | apply below_drew1) | exact HB.out)) (Nat.le_refl _) | exact HTABS.out.below (Below.drew (Below.refl _ _)) (Nat.le_refl _)); rintro e w29 ⟨rfl, hb⟩; have n0_ := Aside0.mk (below_step (by repeat (first | (with_reducible first | exact HB.out | apply below_alloc | apply pw_below_drewN | apply below_drew1) | exact HB.out)) hb); clear HB; have HB := n0_; clear n0_; (try clear hb); (try clear hb2); (try clear hk); (try clear hi)) | (go_at_call 11; (with_reducible refine (bureaulaw13_class.calls k a0 t235 t236 _ A21.out ?sideT).mono ?_); (case sideT => first | exact HTABS.out | exact HTABS.out.below (by repeat (first | (with_reducible first | exact HB.out | apply below_alloc | apply pw_below_drewN | apply below_drew1) | exact HB.out)) (Nat.le_refl _) | exact HTABS.out.below (Below.drew (Below.refl _ _)) (Nat.le_refl _)); rintro e w30 ⟨rfl, hb⟩; have n0_ := Aside0.mk (below_step (by repeat (first | (with_reducible first | exact HB.out | apply below_alloc | apply pw_below_drewN | apply below_drew1) | exact HB.out)) hb); clear HB; have HB := n0_; clear n0_; (try clear hb); (try clear hb2); (try clear hk); (try clear hi)) | (go_at_call 11; (with_reducible refine (bureaulaw13_class.calls k a0 t231 t237 _ A22.out ?sideT).mono ?_); (case sideT => first | exact HTABS.out | exact HTABS.out.below (by repeat (first | (with_reducible first | exact HB.out | apply below_alloc | apply pw_below_drewN | apply below_drew1) | exact HB.out)) (Nat.le_refl _) | exact HTABS.out.below (Below.drew (Below.refl _ _)) (Nat.le_refl _)); rintro e w31 ⟨rfl, hb⟩; have n0_ := Aside0.mk (below_step (by repeat (first | (with_reducible first | exact HB.out | apply below_alloc | apply pw_below_drewN | apply below_drew1) | exact HB.out)) hb); clear HB; have HB := n0_; clear n0_; (try clear hb); (try clear hb2); (try clear hk); (try clear hi)) | (go_at_call 11; (with_reducible refine (bureaulaw13_class.calls k a0 t233 t238 _ A27.out ?sideT).mono ?_); (case sideT => first | exact HTABS.out | exact HTABS.out.below (by repeat (first | (with_reducible first | exact HB.out | apply below_alloc | apply pw_below_drewN | apply below_drew1) | exact HB.out)) (Nat.le_refl _) | exact HTABS.out.below (Below.drew (Below.refl _ _)) (Nat.le_refl _)); rintro e w32 ⟨rfl, hb⟩; have n0_ := Aside0.mk (below_step (by repeat (first | (with_reducible first | exact HB.out | apply below_alloc | apply pw_below_drewN | apply below_drew1) | exact HB.out)) hb); clear HB; have HB := n0_; clear n0_; (try clear hb); (try clear hb2); (try clear hk); (try clear hi)) | (go_at_call 11; (with_reducible refine (bureaulaw13_class.calls k a0 t231 t239 _ A28.out ?sideT).mono ?_); (case sideT => first | exact HTABS.out | exact HTABS.out.below (by repeat (first | (with_reducible first | exact HB.out | apply below_alloc | apply pw_below_drewN | apply below_drew1) | exact HB.out)) (Nat.le_refl _) | exact HTABS.out.below (Below.drew (Below.refl _ _)) (Nat.le_refl _)); rintro e w33 ⟨rfl, hb⟩; have n0_ := Aside0.mk (below_step (by repeat (first | (with_reducible first | exact HB.out | apply below_alloc | apply pw_below_drewN | apply below_drew1) | exact HB.out)) hb); clear HB; have HB := n0_; clear n0_; (try clear hb); (try clear hb2); (try clear hk); (try clear hi)))
                        go_meet
                        case rel => exact ⟨_, ((t238 == t239)), (by first | rfl | (simp; done) | (simp [*]; done) | ((try have eqA21A22 := EQA21A22.out); (try have eqA21A27 := EQA21A27.out); (try have eqA21A28 := EQA21A28.out); (try have eqA22A27 := EQA22A27.out); (try have eqA22A28 := EQA22A28.out); (try have eqA27A28 := EQA27A28.out); simp [*]; done)), H', ⟨by first | omega | exact Nat.le_refl _⟩, ⟨by repeat (first | (with_reducible first | exact HB.out | apply below_alloc | apply pw_below_drewN | apply below_drew1) | exact HB.out)⟩⟩
                    · rw [if_neg c19] at H
                      have c19b0 : decide (0 < t232) = false := decide_eq_false c19
                      clear c19
                      replace H := Option.bind_eq_some_iff.mp H
                      obtain ⟨t240, A340, H⟩ := H
                      replace H : ((bureaulaw13_class.f k a0 t231).bind fun t241 => (bureaulaw13_ObjectRows.j0 k a0 a1 t231 t232 t233 (t240 == t241))) = some r := H
                      have A34 := Aside0.mk A340
                      clear A340
                      replace H := Option.bind_eq_some_iff.mp H
                      obtain ⟨t241, A350, H⟩ := H
                      replace H : (bureaulaw13_ObjectRows.j0 k a0 a1 t231 t232 t233 (t240 == t241)) = some r := H
                      have A35 := Aside0.mk A350
                      clear A350
                      have H' := Aside0.mk H
                      clear H
                      try have EQA34A35 := Aside0.mk (Option.some.inj (A34.out.symm.trans A35.out))
                      go_wp2_with (first | (go_at_call 11; (with_reducible refine (bureaulaw13_class.calls k a0 t233 t240 _ A34.out ?sideT).mono ?_); (case sideT => first | exact HTABS.out | exact HTABS.out.below (by repeat (first | (with_reducible first | exact HB.out | apply below_alloc | apply pw_below_drewN | apply below_drew1) | exact HB.out)) (Nat.le_refl _) | exact HTABS.out.below (Below.drew (Below.refl _ _)) (Nat.le_refl _)); rintro e w36 ⟨rfl, hb⟩; have n0_ := Aside0.mk (below_step (by repeat (first | (with_reducible first | exact HB.out | apply below_alloc | apply pw_below_drewN | apply below_drew1) | exact HB.out)) hb); clear HB; have HB := n0_; clear n0_; (try clear hb); (try clear hb2); (try clear hk); (try clear hi)) | (go_at_call 11; (with_reducible refine (bureaulaw13_class.calls k a0 t231 t241 _ A35.out ?sideT).mono ?_); (case sideT => first | exact HTABS.out | exact HTABS.out.below (by repeat (first | (with_reducible first | exact HB.out | apply below_alloc | apply pw_below_drewN | apply below_drew1) | exact HB.out)) (Nat.le_refl _) | exact HTABS.out.below (Below.drew (Below.refl _ _)) (Nat.le_refl _)); rintro e w37 ⟨rfl, hb⟩; have n0_ := Aside0.mk (below_step (by repeat (first | (with_reducible first | exact HB.out | apply below_alloc | apply pw_below_drewN | apply below_drew1) | exact HB.out)) hb); clear HB; have HB := n0_; clear n0_; (try clear hb); (try clear hb2); (try clear hk); (try clear hi)))
                      go_meet
                      case rel => exact ⟨_, ((t240 == t241)), (by first | rfl | (simp; done) | (simp [*]; done) | ((try have eqA34A35 := EQA34A35.out); simp [*]; done)), H', ⟨by first | omega | exact Nat.le_refl _⟩, ⟨by repeat (first | (with_reducible first | exact HB.out | apply below_alloc | apply pw_below_drewN | apply below_drew1) | exact HB.out)⟩⟩
          case rest =>
            clear HC11
            try clear c1
            try clear c2
            try clear p2
            try clear c4
            try clear c5
            try clear c5b0
            try clear c5b1
            try clear c7
            try clear c8
            try clear c9
            try clear c10
            try clear c10b0
            try clear c15
            try clear c15b0
            try clear c16
            try clear c16b0
            try clear c17
            try clear c17b0
            try clear c18
            try clear c18b0
            try clear c19
            try clear c19b0
            try clear c23
            try clear c23b0
            try clear c23b1
            obtain ⟨kq, x77_10, rfl, HA, HJ10, HB⟩ := hcut
            cases kq with
            | zero => exact absurd HA.out (by simp [bureaulaw13_ObjectRows.j0])
            | succ kj10 =>
              have H := HA.out
              clear HA
              simp only [bureaulaw13_ObjectRows.j0] at H
              by_cases c38 : x77_10 = true
              · subst c38
                have H1 : (some false) = some r := by rw [if_pos rfl] at H; exact H
                clear H
                have H := H1
                clear H1
                obtain rfl := Option.some.inj H
                go_wp2
                go_ret
                exact ⟨by first | rfl | (simp [errW_none, errW_some] <;> rfl) | (simp [*, errW_none, errW_some] <;> rfl), by repeat (first | (with_reducible first | exact HB.out | apply below_alloc | apply pw_below_drewN | apply below_drew1) | exact HB.out)⟩
              · replace c38 := Bool.eq_false_iff.mpr c38
                subst c38
                have H1 : (bureaulaw13_ObjectRows.l0 kj10 a0 a1 t231 t232 t233 t232) = some r := by rw [if_neg (show ¬ (false = true) by decide)] at H; exact H
                clear H
                have H := H1
                clear H1
                have H' := Aside0.mk H
                clear H
                go_wp2
                go_loopg [9] kj10 (fun kq v9 w' => ∃ (x9_2 : Int), v9 = .int .i64 x9_2 ∧ Aside0 (bureaulaw13_ObjectRows.l0 kq a0 a1 t231 t232 t233 x9_2 = some r) ∧ Aside0 (kq ≤ kj10) ∧ Aside0 (Below w.heap.size w w'))
                case atStart => exact ⟨(t232), (by first | rfl | (simp; done) | (simp [*]; done) | ((try have eqA34A35 := EQA34A35.out); simp [*]; done)), H', ⟨Nat.le_refl _⟩, ⟨by repeat (first | (with_reducible first | exact HB.out | apply below_alloc | apply pw_below_drewN | apply below_drew1) | exact HB.out)⟩⟩
                case round =>
                  clear H'
                  try clear c1
                  try clear c2
                  try clear p2
                  try clear c3
                  try clear c4
                  try clear c5
                  try clear c5b0
                  try clear c5b1
                  try clear c7
                  try clear c8
                  try clear c9
                  try clear c10
                  try clear c10b0
                  try clear c15
                  try clear c15b0
                  try clear c16
                  try clear c16b0
                  try clear c17
                  try clear c17b0
                  try clear c18
                  try clear c18b0
                  try clear c19
                  try clear c19b0
                  try clear c23
                  try clear c23b0
                  try clear c23b1
                  try clear c38
                  try clear p2
                  obtain ⟨x9_2, rfl, HA, HK2, HB⟩ := hrel
                  cases gk with
                  | zero => exact absurd HA.out (by simp [bureaulaw13_ObjectRows.l0])
                  | succ k2 =>
                    have H := HA.out
                    clear HA
                    simp only [bureaulaw13_ObjectRows.l0] at H
                    by_cases c39 : x9_2 < t233
                    · rw [if_pos c39] at H
                      have c39b0 : decide (x9_2 < t233) = true := decide_eq_true c39
                      clear c39
                      replace H := Option.bind_eq_some_iff.mp H
                      obtain ⟨t245, A400, H⟩ := H
                      replace H : ((bureaulaw13_class.f k2 a0 t231).bind fun t246 => (if t245 = t246 then ((bureauref02_Next.f k2 a0 x9_2).bind fun t247 => (bureaulaw13_ObjectRows.l0 k2 a0 a1 t231 t232 t233 t247)) else (some false))) = some r := H
                      have A40 := Aside0.mk A400
                      clear A400
                      replace H := Option.bind_eq_some_iff.mp H
                      obtain ⟨t246, A410, H⟩ := H
                      replace H : (if t245 = t246 then ((bureauref02_Next.f k2 a0 x9_2).bind fun t247 => (bureaulaw13_ObjectRows.l0 k2 a0 a1 t231 t232 t233 t247)) else (some false)) = some r := H
                      have A41 := Aside0.mk A410
                      clear A410
                      by_cases c42 : t245 = t246
                      · rw [if_pos c42] at H
                        have c42b0 : (t245 == t246) = true := beq_iff_eq.mpr c42
                        have c42b1 : (t245 != t246) = false := bne_eq_false_iff_eq.mpr c42
                        clear c42
                        replace H := Option.bind_eq_some_iff.mp H
                        obtain ⟨t247, A430, H⟩ := H
                        replace H : (bureaulaw13_ObjectRows.l0 k2 a0 a1 t231 t232 t233 t247) = some r := H
                        have A43 := Aside0.mk A430
                        clear A430
                        have H' := Aside0.mk H
                        clear H
                        go_wp2_with (first | ((with_reducible refine gate_callee (f := 11) rfl ?_); refine goesL_ (some 87) rfl rfl Tryd.func11 (by kernel_rfl) rfl #[.string a0, .int .i64 x9_2] rfl (by (try simp only [List.map_toArray, List.map_cons, List.map_nil]); first | done | rfl | (simp only [List.length_drop, List.length_take]; rfl)) ?_; (with_reducible refine (bureaulaw13_class.calls k2 a0 x9_2 t245 _ A40.out ?sideT).mono ?_); (case sideT => first | exact HTABS.out | exact HTABS.out.below (by repeat (first | (with_reducible first | exact HB.out | apply below_alloc | apply pw_below_drewN | apply below_drew1) | exact HB.out)) (Nat.le_refl _) | exact HTABS.out.below (Below.drew (Below.refl _ _)) (Nat.le_refl _)); rintro e w44 ⟨rfl, hb⟩; refine ⟨_, rfl, ?_⟩; have n0_ := Aside0.mk (below_step (by repeat (first | (with_reducible first | exact HB.out | apply below_alloc | apply pw_below_drewN | apply below_drew1) | exact HB.out)) hb); clear HB; have HB := n0_; clear n0_; (try clear hb); (try clear hb2); (try clear hk); (try clear hi)) | ((with_reducible refine gate_callee (f := 11) rfl ?_); refine goesL_ (some 90) rfl rfl Tryd.func11 (by kernel_rfl) rfl #[.string a0, .int .i64 t231] rfl (by (try simp only [List.map_toArray, List.map_cons, List.map_nil]); first | done | rfl | (simp only [List.length_drop, List.length_take]; rfl)) ?_; (with_reducible refine (bureaulaw13_class.calls k2 a0 t231 t246 _ A41.out ?sideT).mono ?_); (case sideT => first | exact HTABS.out | exact HTABS.out.below (by repeat (first | (with_reducible first | exact HB.out | apply below_alloc | apply pw_below_drewN | apply below_drew1) | exact HB.out)) (Nat.le_refl _) | exact HTABS.out.below (Below.drew (Below.refl _ _)) (Nat.le_refl _)); rintro e w45 ⟨rfl, hb⟩; refine ⟨_, rfl, ?_⟩; have n0_ := Aside0.mk (below_step (by repeat (first | (with_reducible first | exact HB.out | apply below_alloc | apply pw_below_drewN | apply below_drew1) | exact HB.out)) hb); clear HB; have HB := n0_; clear n0_; (try clear hb); (try clear hb2); (try clear hk); (try clear hi)) | ((with_reducible refine gate_callee (f := 13) rfl ?_); refine goesL_ (some 84) rfl rfl Tryd.func13 (by kernel_rfl) rfl #[.string a0, .int .i64 x9_2] rfl (by (try simp only [List.map_toArray, List.map_cons, List.map_nil]); first | done | rfl | (simp only [List.length_drop, List.length_take]; rfl)) ?_; (with_reducible refine (bureauref02_Next.calls k2 a0 x9_2 t247 _ A43.out ?sideT).mono ?_); (case sideT => first | exact HTABS.out | exact HTABS.out.below (by repeat (first | (with_reducible first | exact HB.out | apply below_alloc | apply pw_below_drewN | apply below_drew1) | exact HB.out)) (Nat.le_refl _) | exact HTABS.out.below (Below.drew (Below.refl _ _)) (Nat.le_refl _)); rintro e w46 ⟨rfl, hb⟩; refine ⟨_, rfl, ?_⟩; have n0_ := Aside0.mk (below_step (by repeat (first | (with_reducible first | exact HB.out | apply below_alloc | apply pw_below_drewN | apply below_drew1) | exact HB.out)) hb); clear HB; have HB := n0_; clear n0_; (try clear hb); (try clear hb2); (try clear hk); (try clear hi)))
                        go_roundg k2
                        case measure => have := HJ10.out; have := HK2.out; omega
                        case rel => exact ⟨(t247), (by first | rfl | (simp; done) | (simp [*]; done)), H', ⟨by have := HJ10.out; have := HK2.out; omega⟩, ⟨by repeat (first | (with_reducible first | exact HB.out | apply below_alloc | apply pw_below_drewN | apply below_drew1) | exact HB.out)⟩⟩
                      · rw [if_neg c42] at H
                        have c42b0 : (t245 == t246) = false := beq_eq_false_iff_ne.mpr c42
                        have c42b1 : (t245 != t246) = true := bne_iff_ne.mpr c42
                        obtain rfl := Option.some.inj H
                        go_wp2_with (first | ((with_reducible refine gate_callee (f := 11) rfl ?_); refine goesL_ (some 87) rfl rfl Tryd.func11 (by kernel_rfl) rfl #[.string a0, .int .i64 x9_2] rfl (by (try simp only [List.map_toArray, List.map_cons, List.map_nil]); first | done | rfl | (simp only [List.length_drop, List.length_take]; rfl)) ?_; (with_reducible refine (bureaulaw13_class.calls k2 a0 x9_2 t245 _ A40.out ?sideT).mono ?_); (case sideT => first | exact HTABS.out | exact HTABS.out.below (by repeat (first | (with_reducible first | exact HB.out | apply below_alloc | apply pw_below_drewN | apply below_drew1) | exact HB.out)) (Nat.le_refl _) | exact HTABS.out.below (Below.drew (Below.refl _ _)) (Nat.le_refl _)); rintro e w47 ⟨rfl, hb⟩; refine ⟨_, rfl, ?_⟩; have n0_ := Aside0.mk (below_step (by repeat (first | (with_reducible first | exact HB.out | apply below_alloc | apply pw_below_drewN | apply below_drew1) | exact HB.out)) hb); clear HB; have HB := n0_; clear n0_; (try clear hb); (try clear hb2); (try clear hk); (try clear hi)) | ((with_reducible refine gate_callee (f := 11) rfl ?_); refine goesL_ (some 90) rfl rfl Tryd.func11 (by kernel_rfl) rfl #[.string a0, .int .i64 t231] rfl (by (try simp only [List.map_toArray, List.map_cons, List.map_nil]); first | done | rfl | (simp only [List.length_drop, List.length_take]; rfl)) ?_; (with_reducible refine (bureaulaw13_class.calls k2 a0 t231 t246 _ A41.out ?sideT).mono ?_); (case sideT => first | exact HTABS.out | exact HTABS.out.below (by repeat (first | (with_reducible first | exact HB.out | apply below_alloc | apply pw_below_drewN | apply below_drew1) | exact HB.out)) (Nat.le_refl _) | exact HTABS.out.below (Below.drew (Below.refl _ _)) (Nat.le_refl _)); rintro e w48 ⟨rfl, hb⟩; refine ⟨_, rfl, ?_⟩; have n0_ := Aside0.mk (below_step (by repeat (first | (with_reducible first | exact HB.out | apply below_alloc | apply pw_below_drewN | apply below_drew1) | exact HB.out)) hb); clear HB; have HB := n0_; clear n0_; (try clear hb); (try clear hb2); (try clear hk); (try clear hi)))
                        go_ret
                        exact ⟨by first | rfl | (simp [errW_none, errW_some] <;> rfl) | (simp [*, errW_none, errW_some] <;> rfl), by repeat (first | (with_reducible first | exact HB.out | apply below_alloc | apply pw_below_drewN | apply below_drew1) | exact HB.out)⟩
                    · rw [if_neg c39] at H
                      have c39b0 : decide (x9_2 < t233) = false := decide_eq_false c39
                      clear c39
                      replace H := Option.bind_eq_some_iff.mp H
                      obtain ⟨⟨t242, t243, t244⟩, A490, H⟩ := H
                      replace H : (if t244 = true then (if t242 ≤ t232 then (if t243 ≥ t233 then (if t242 = t232 then (some true) else (some (t243 == t233))) else (some false)) else (some false)) else (some false)) = some r := H
                      have A49 := Aside0.mk A490
                      clear A490
                      by_cases c50 : t244 = true
                      · subst c50
                        have H1 : (if t242 ≤ t232 then (if t243 ≥ t233 then (if t242 = t232 then (some true) else (some (t243 == t233))) else (some false)) else (some false)) = some r := by rw [if_pos rfl] at H; exact H
                        clear H
                        have H := H1
                        clear H1
                        by_cases c51 : t242 ≤ t232
                        · rw [if_pos c51] at H
                          have c51b0 : decide (t242 ≤ t232) = true := decide_eq_true c51
                          clear c51
                          by_cases c52 : t243 ≥ t233
                          · rw [if_pos c52] at H
                            have c52b0 : decide (t233 ≤ t243) = true := decide_eq_true c52
                            clear c52
                            by_cases c53 : t242 = t232
                            · rw [if_pos c53] at H
                              have c53b0 : (t242 == t232) = true := beq_iff_eq.mpr c53
                              have c53b1 : (t242 != t232) = false := bne_eq_false_iff_eq.mpr c53
                              clear c53
                              obtain rfl := Option.some.inj H
                              go_wp2_with (first | ((with_reducible refine gate_callee (f := 8) rfl ?_); refine goesL_ (some 95) rfl rfl Tryd.func8 (by kernel_rfl) rfl #[.string a0, .int .i64 a1, .bool true, .int .i32 119] rfl (by (try simp only [List.map_toArray, List.map_cons, List.map_nil]); first | done | rfl | (simp only [List.length_drop, List.length_take]; rfl)) ?_; (with_reducible refine (object_Find.calls k2 a0 a1 true 119 t242 t243 true _ A49.out ?sideT).mono ?_); (case sideT => first | exact HTABS.out | exact HTABS.out.below (by repeat (first | (with_reducible first | exact HB.out | apply below_alloc | apply pw_below_drewN | apply below_drew1) | exact HB.out)) (Nat.le_refl _) | exact HTABS.out.below (Below.drew (Below.refl _ _)) (Nat.le_refl _)); rintro e w54 ⟨rfl, hb⟩; refine ⟨_, rfl, ?_⟩; have n0_ := Aside0.mk (below_step (by repeat (first | (with_reducible first | exact HB.out | apply below_alloc | apply pw_below_drewN | apply below_drew1) | exact HB.out)) hb); clear HB; have HB := n0_; clear n0_; (try clear hb); (try clear hb2); (try clear hk); (try clear hi)))
                              go_ret
                              exact ⟨by first | rfl | (simp [errW_none, errW_some] <;> rfl) | (simp [*, errW_none, errW_some] <;> rfl), by repeat (first | (with_reducible first | exact HB.out | apply below_alloc | apply pw_below_drewN | apply below_drew1) | exact HB.out)⟩
                            · rw [if_neg c53] at H
                              have c53b0 : (t242 == t232) = false := beq_eq_false_iff_ne.mpr c53
                              have c53b1 : (t242 != t232) = true := bne_iff_ne.mpr c53
                              obtain rfl := Option.some.inj H
                              go_wp2_with (first | ((with_reducible refine gate_callee (f := 8) rfl ?_); refine goesL_ (some 95) rfl rfl Tryd.func8 (by kernel_rfl) rfl #[.string a0, .int .i64 a1, .bool true, .int .i32 119] rfl (by (try simp only [List.map_toArray, List.map_cons, List.map_nil]); first | done | rfl | (simp only [List.length_drop, List.length_take]; rfl)) ?_; (with_reducible refine (object_Find.calls k2 a0 a1 true 119 t242 t243 true _ A49.out ?sideT).mono ?_); (case sideT => first | exact HTABS.out | exact HTABS.out.below (by repeat (first | (with_reducible first | exact HB.out | apply below_alloc | apply pw_below_drewN | apply below_drew1) | exact HB.out)) (Nat.le_refl _) | exact HTABS.out.below (Below.drew (Below.refl _ _)) (Nat.le_refl _)); rintro e w55 ⟨rfl, hb⟩; refine ⟨_, rfl, ?_⟩; have n0_ := Aside0.mk (below_step (by repeat (first | (with_reducible first | exact HB.out | apply below_alloc | apply pw_below_drewN | apply below_drew1) | exact HB.out)) hb); clear HB; have HB := n0_; clear n0_; (try clear hb); (try clear hb2); (try clear hk); (try clear hi)))
                              go_ret
                              exact ⟨by first | rfl | (simp [errW_none, errW_some] <;> rfl) | (simp [*, errW_none, errW_some] <;> rfl), by repeat (first | (with_reducible first | exact HB.out | apply below_alloc | apply pw_below_drewN | apply below_drew1) | exact HB.out)⟩
                          · rw [if_neg c52] at H
                            have c52b0 : decide (t233 ≤ t243) = false := decide_eq_false c52
                            clear c52
                            obtain rfl := Option.some.inj H
                            go_wp2_with (first | ((with_reducible refine gate_callee (f := 8) rfl ?_); refine goesL_ (some 95) rfl rfl Tryd.func8 (by kernel_rfl) rfl #[.string a0, .int .i64 a1, .bool true, .int .i32 119] rfl (by (try simp only [List.map_toArray, List.map_cons, List.map_nil]); first | done | rfl | (simp only [List.length_drop, List.length_take]; rfl)) ?_; (with_reducible refine (object_Find.calls k2 a0 a1 true 119 t242 t243 true _ A49.out ?sideT).mono ?_); (case sideT => first | exact HTABS.out | exact HTABS.out.below (by repeat (first | (with_reducible first | exact HB.out | apply below_alloc | apply pw_below_drewN | apply below_drew1) | exact HB.out)) (Nat.le_refl _) | exact HTABS.out.below (Below.drew (Below.refl _ _)) (Nat.le_refl _)); rintro e w56 ⟨rfl, hb⟩; refine ⟨_, rfl, ?_⟩; have n0_ := Aside0.mk (below_step (by repeat (first | (with_reducible first | exact HB.out | apply below_alloc | apply pw_below_drewN | apply below_drew1) | exact HB.out)) hb); clear HB; have HB := n0_; clear n0_; (try clear hb); (try clear hb2); (try clear hk); (try clear hi)))
                            go_ret
                            exact ⟨by first | rfl | (simp [errW_none, errW_some] <;> rfl) | (simp [*, errW_none, errW_some] <;> rfl), by repeat (first | (with_reducible first | exact HB.out | apply below_alloc | apply pw_below_drewN | apply below_drew1) | exact HB.out)⟩
                        · rw [if_neg c51] at H
                          have c51b0 : decide (t242 ≤ t232) = false := decide_eq_false c51
                          clear c51
                          obtain rfl := Option.some.inj H
                          go_wp2_with (first | ((with_reducible refine gate_callee (f := 8) rfl ?_); refine goesL_ (some 95) rfl rfl Tryd.func8 (by kernel_rfl) rfl #[.string a0, .int .i64 a1, .bool true, .int .i32 119] rfl (by (try simp only [List.map_toArray, List.map_cons, List.map_nil]); first | done | rfl | (simp only [List.length_drop, List.length_take]; rfl)) ?_; (with_reducible refine (object_Find.calls k2 a0 a1 true 119 t242 t243 true _ A49.out ?sideT).mono ?_); (case sideT => first | exact HTABS.out | exact HTABS.out.below (by repeat (first | (with_reducible first | exact HB.out | apply below_alloc | apply pw_below_drewN | apply below_drew1) | exact HB.out)) (Nat.le_refl _) | exact HTABS.out.below (Below.drew (Below.refl _ _)) (Nat.le_refl _)); rintro e w57 ⟨rfl, hb⟩; refine ⟨_, rfl, ?_⟩; have n0_ := Aside0.mk (below_step (by repeat (first | (with_reducible first | exact HB.out | apply below_alloc | apply pw_below_drewN | apply below_drew1) | exact HB.out)) hb); clear HB; have HB := n0_; clear n0_; (try clear hb); (try clear hb2); (try clear hk); (try clear hi)))
                          go_ret
                          exact ⟨by first | rfl | (simp [errW_none, errW_some] <;> rfl) | (simp [*, errW_none, errW_some] <;> rfl), by repeat (first | (with_reducible first | exact HB.out | apply below_alloc | apply pw_below_drewN | apply below_drew1) | exact HB.out)⟩
                      · replace c50 := Bool.eq_false_iff.mpr c50
                        subst c50
                        have H1 : (some false) = some r := by rw [if_neg (show ¬ (false = true) by decide)] at H; exact H
                        clear H
                        have H := H1
                        clear H1
                        obtain rfl := Option.some.inj H
                        go_wp2_with (first | ((with_reducible refine gate_callee (f := 8) rfl ?_); refine goesL_ (some 95) rfl rfl Tryd.func8 (by kernel_rfl) rfl #[.string a0, .int .i64 a1, .bool true, .int .i32 119] rfl (by (try simp only [List.map_toArray, List.map_cons, List.map_nil]); first | done | rfl | (simp only [List.length_drop, List.length_take]; rfl)) ?_; (with_reducible refine (object_Find.calls k2 a0 a1 true 119 t242 t243 false _ A49.out ?sideT).mono ?_); (case sideT => first | exact HTABS.out | exact HTABS.out.below (by repeat (first | (with_reducible first | exact HB.out | apply below_alloc | apply pw_below_drewN | apply below_drew1) | exact HB.out)) (Nat.le_refl _) | exact HTABS.out.below (Below.drew (Below.refl _ _)) (Nat.le_refl _)); rintro e w58 ⟨rfl, hb⟩; refine ⟨_, rfl, ?_⟩; have n0_ := Aside0.mk (below_step (by repeat (first | (with_reducible first | exact HB.out | apply below_alloc | apply pw_below_drewN | apply below_drew1) | exact HB.out)) hb); clear HB; have HB := n0_; clear n0_; (try clear hb); (try clear hb2); (try clear hk); (try clear hi)))
                        go_ret
                        exact ⟨by first | rfl | (simp [errW_none, errW_some] <;> rfl) | (simp [*, errW_none, errW_some] <;> rfl), by repeat (first | (with_reducible first | exact HB.out | apply below_alloc | apply pw_below_drewN | apply below_drew1) | exact HB.out)⟩
        · rw [if_neg c10] at H
          have c10b0 : decide (t231 < (a0.size : Int)) = false := decide_eq_false c10
          clear c10
          obtain rfl := Option.some.inj H
          go_enter Tryd.func4, Tryd.ntmps4
          go_wp2_with (first | ((with_reducible refine gate_callee (f := 7) rfl ?_); refine goesL_ (some 13) rfl rfl Tryd.func7 (by kernel_rfl) rfl #[] rfl (by (try simp only [List.map_toArray, List.map_cons, List.map_nil]); first | done | rfl | (simp only [List.length_drop, List.length_take]; rfl)) ?_; (with_reducible refine (bureaulaw13_alive.calls k  true _ A3.out ?sideT).mono ?_); (case sideT => first | exact HTABS.out | exact HTABS.out.below (by repeat (first | (with_reducible first | exact HB.out | apply below_alloc | apply pw_below_drewN | apply below_drew1) | exact HB.out)) (Nat.le_refl _) | exact HTABS.out.below (Below.drew (Below.refl _ _)) (Nat.le_refl _)); rintro e w59 ⟨rfl, hb⟩; refine ⟨_, rfl, ?_⟩; have n0_ := Aside0.mk (below_step (by repeat (first | (with_reducible first | exact HB.out | apply below_alloc | apply pw_below_drewN | apply below_drew1) | exact HB.out)) hb); clear HB; have HB := n0_; clear n0_; (try clear hb); (try clear hb2); (try clear hk); (try clear hi)) | ((with_reducible refine gate_callee (f := 10) rfl ?_); refine goesL_ (some 20) rfl rfl Tryd.func10 (by kernel_rfl) rfl #[.string a0, .int .i64 a1] rfl (by (try simp only [List.map_toArray, List.map_cons, List.map_nil]); first | done | rfl | (simp only [List.length_drop, List.length_take]; rfl)) ?_; (with_reducible refine (bureauref02_Align.calls k a0 a1 t231 _ A7.out ?sideT).mono ?_); (case sideT => first | exact HTABS.out | exact HTABS.out.below (by repeat (first | (with_reducible first | exact HB.out | apply below_alloc | apply pw_below_drewN | apply below_drew1) | exact HB.out)) (Nat.le_refl _) | exact HTABS.out.below (Below.drew (Below.refl _ _)) (Nat.le_refl _)); rintro e w60 ⟨rfl, hb⟩; refine ⟨_, rfl, ?_⟩; have n0_ := Aside0.mk (below_step (by repeat (first | (with_reducible first | exact HB.out | apply below_alloc | apply pw_below_drewN | apply below_drew1) | exact HB.out)) hb); clear HB; have HB := n0_; clear n0_; (try clear hb); (try clear hb2); (try clear hk); (try clear hi)) | ((with_reducible refine gate_callee (f := 8) rfl ?_); refine goesL_ (some 24) rfl rfl Tryd.func8 (by kernel_rfl) rfl #[.string a0, .int .i64 a1, .bool false, .int .i32 119] rfl (by (try simp only [List.map_toArray, List.map_cons, List.map_nil]); first | done | rfl | (simp only [List.length_drop, List.length_take]; rfl)) ?_; (with_reducible refine (object_Find.calls k a0 a1 false 119 t232 t233 true _ A8.out ?sideT).mono ?_); (case sideT => first | exact HTABS.out | exact HTABS.out.below (by repeat (first | (with_reducible first | exact HB.out | apply below_alloc | apply pw_below_drewN | apply below_drew1) | exact HB.out)) (Nat.le_refl _) | exact HTABS.out.below (Below.drew (Below.refl _ _)) (Nat.le_refl _)); rintro e w61 ⟨rfl, hb⟩; refine ⟨_, rfl, ?_⟩; have n0_ := Aside0.mk (below_step (by repeat (first | (with_reducible first | exact HB.out | apply below_alloc | apply pw_below_drewN | apply below_drew1) | exact HB.out)) hb); clear HB; have HB := n0_; clear n0_; (try clear hb); (try clear hb2); (try clear hk); (try clear hi)))
          go_ret
          exact ⟨by first | rfl | (simp [errW_none, errW_some] <;> rfl) | (simp [*, errW_none, errW_some] <;> rfl), by repeat (first | (with_reducible first | exact HB.out | apply below_alloc | apply pw_below_drewN | apply below_drew1) | exact HB.out)⟩
      · replace c9 := Bool.eq_false_iff.mpr c9
        subst c9
        have H1 : (if t231 < (a0.size : Int) then (some false) else (some true)) = some r := by rw [if_neg (show ¬ (false = true) by decide)] at H; exact H
        clear H
        have H := H1
        clear H1
        by_cases c62 : t231 < (a0.size : Int)
        · rw [if_pos c62] at H
          have c62b0 : decide (t231 < (a0.size : Int)) = true := decide_eq_true c62
          clear c62
          obtain rfl := Option.some.inj H
          go_enter Tryd.func4, Tryd.ntmps4
          go_wp2_with (first | ((with_reducible refine gate_callee (f := 7) rfl ?_); refine goesL_ (some 13) rfl rfl Tryd.func7 (by kernel_rfl) rfl #[] rfl (by (try simp only [List.map_toArray, List.map_cons, List.map_nil]); first | done | rfl | (simp only [List.length_drop, List.length_take]; rfl)) ?_; (with_reducible refine (bureaulaw13_alive.calls k  true _ A3.out ?sideT).mono ?_); (case sideT => first | exact HTABS.out | exact HTABS.out.below (by repeat (first | (with_reducible first | exact HB.out | apply below_alloc | apply pw_below_drewN | apply below_drew1) | exact HB.out)) (Nat.le_refl _) | exact HTABS.out.below (Below.drew (Below.refl _ _)) (Nat.le_refl _)); rintro e w63 ⟨rfl, hb⟩; refine ⟨_, rfl, ?_⟩; have n0_ := Aside0.mk (below_step (by repeat (first | (with_reducible first | exact HB.out | apply below_alloc | apply pw_below_drewN | apply below_drew1) | exact HB.out)) hb); clear HB; have HB := n0_; clear n0_; (try clear hb); (try clear hb2); (try clear hk); (try clear hi)) | ((with_reducible refine gate_callee (f := 10) rfl ?_); refine goesL_ (some 20) rfl rfl Tryd.func10 (by kernel_rfl) rfl #[.string a0, .int .i64 a1] rfl (by (try simp only [List.map_toArray, List.map_cons, List.map_nil]); first | done | rfl | (simp only [List.length_drop, List.length_take]; rfl)) ?_; (with_reducible refine (bureauref02_Align.calls k a0 a1 t231 _ A7.out ?sideT).mono ?_); (case sideT => first | exact HTABS.out | exact HTABS.out.below (by repeat (first | (with_reducible first | exact HB.out | apply below_alloc | apply pw_below_drewN | apply below_drew1) | exact HB.out)) (Nat.le_refl _) | exact HTABS.out.below (Below.drew (Below.refl _ _)) (Nat.le_refl _)); rintro e w64 ⟨rfl, hb⟩; refine ⟨_, rfl, ?_⟩; have n0_ := Aside0.mk (below_step (by repeat (first | (with_reducible first | exact HB.out | apply below_alloc | apply pw_below_drewN | apply below_drew1) | exact HB.out)) hb); clear HB; have HB := n0_; clear n0_; (try clear hb); (try clear hb2); (try clear hk); (try clear hi)) | ((with_reducible refine gate_callee (f := 8) rfl ?_); refine goesL_ (some 24) rfl rfl Tryd.func8 (by kernel_rfl) rfl #[.string a0, .int .i64 a1, .bool false, .int .i32 119] rfl (by (try simp only [List.map_toArray, List.map_cons, List.map_nil]); first | done | rfl | (simp only [List.length_drop, List.length_take]; rfl)) ?_; (with_reducible refine (object_Find.calls k a0 a1 false 119 t232 t233 false _ A8.out ?sideT).mono ?_); (case sideT => first | exact HTABS.out | exact HTABS.out.below (by repeat (first | (with_reducible first | exact HB.out | apply below_alloc | apply pw_below_drewN | apply below_drew1) | exact HB.out)) (Nat.le_refl _) | exact HTABS.out.below (Below.drew (Below.refl _ _)) (Nat.le_refl _)); rintro e w65 ⟨rfl, hb⟩; refine ⟨_, rfl, ?_⟩; have n0_ := Aside0.mk (below_step (by repeat (first | (with_reducible first | exact HB.out | apply below_alloc | apply pw_below_drewN | apply below_drew1) | exact HB.out)) hb); clear HB; have HB := n0_; clear n0_; (try clear hb); (try clear hb2); (try clear hk); (try clear hi)))
          go_ret
          exact ⟨by first | rfl | (simp [errW_none, errW_some] <;> rfl) | (simp [*, errW_none, errW_some] <;> rfl), by repeat (first | (with_reducible first | exact HB.out | apply below_alloc | apply pw_below_drewN | apply below_drew1) | exact HB.out)⟩
        · rw [if_neg c62] at H
          have c62b0 : decide (t231 < (a0.size : Int)) = false := decide_eq_false c62
          clear c62
          obtain rfl := Option.some.inj H
          go_enter Tryd.func4, Tryd.ntmps4
          go_wp2_with (first | ((with_reducible refine gate_callee (f := 7) rfl ?_); refine goesL_ (some 13) rfl rfl Tryd.func7 (by kernel_rfl) rfl #[] rfl (by (try simp only [List.map_toArray, List.map_cons, List.map_nil]); first | done | rfl | (simp only [List.length_drop, List.length_take]; rfl)) ?_; (with_reducible refine (bureaulaw13_alive.calls k  true _ A3.out ?sideT).mono ?_); (case sideT => first | exact HTABS.out | exact HTABS.out.below (by repeat (first | (with_reducible first | exact HB.out | apply below_alloc | apply pw_below_drewN | apply below_drew1) | exact HB.out)) (Nat.le_refl _) | exact HTABS.out.below (Below.drew (Below.refl _ _)) (Nat.le_refl _)); rintro e w66 ⟨rfl, hb⟩; refine ⟨_, rfl, ?_⟩; have n0_ := Aside0.mk (below_step (by repeat (first | (with_reducible first | exact HB.out | apply below_alloc | apply pw_below_drewN | apply below_drew1) | exact HB.out)) hb); clear HB; have HB := n0_; clear n0_; (try clear hb); (try clear hb2); (try clear hk); (try clear hi)) | ((with_reducible refine gate_callee (f := 10) rfl ?_); refine goesL_ (some 20) rfl rfl Tryd.func10 (by kernel_rfl) rfl #[.string a0, .int .i64 a1] rfl (by (try simp only [List.map_toArray, List.map_cons, List.map_nil]); first | done | rfl | (simp only [List.length_drop, List.length_take]; rfl)) ?_; (with_reducible refine (bureauref02_Align.calls k a0 a1 t231 _ A7.out ?sideT).mono ?_); (case sideT => first | exact HTABS.out | exact HTABS.out.below (by repeat (first | (with_reducible first | exact HB.out | apply below_alloc | apply pw_below_drewN | apply below_drew1) | exact HB.out)) (Nat.le_refl _) | exact HTABS.out.below (Below.drew (Below.refl _ _)) (Nat.le_refl _)); rintro e w67 ⟨rfl, hb⟩; refine ⟨_, rfl, ?_⟩; have n0_ := Aside0.mk (below_step (by repeat (first | (with_reducible first | exact HB.out | apply below_alloc | apply pw_below_drewN | apply below_drew1) | exact HB.out)) hb); clear HB; have HB := n0_; clear n0_; (try clear hb); (try clear hb2); (try clear hk); (try clear hi)) | ((with_reducible refine gate_callee (f := 8) rfl ?_); refine goesL_ (some 24) rfl rfl Tryd.func8 (by kernel_rfl) rfl #[.string a0, .int .i64 a1, .bool false, .int .i32 119] rfl (by (try simp only [List.map_toArray, List.map_cons, List.map_nil]); first | done | rfl | (simp only [List.length_drop, List.length_take]; rfl)) ?_; (with_reducible refine (object_Find.calls k a0 a1 false 119 t232 t233 false _ A8.out ?sideT).mono ?_); (case sideT => first | exact HTABS.out | exact HTABS.out.below (by repeat (first | (with_reducible first | exact HB.out | apply below_alloc | apply pw_below_drewN | apply below_drew1) | exact HB.out)) (Nat.le_refl _) | exact HTABS.out.below (Below.drew (Below.refl _ _)) (Nat.le_refl _)); rintro e w68 ⟨rfl, hb⟩; refine ⟨_, rfl, ?_⟩; have n0_ := Aside0.mk (below_step (by repeat (first | (with_reducible first | exact HB.out | apply below_alloc | apply pw_below_drewN | apply below_drew1) | exact HB.out)) hb); clear HB; have HB := n0_; clear n0_; (try clear hb); (try clear hb2); (try clear hk); (try clear hi)))
          go_ret
          exact ⟨by first | rfl | (simp [errW_none, errW_some] <;> rfl) | (simp [*, errW_none, errW_some] <;> rfl), by repeat (first | (with_reducible first | exact HB.out | apply below_alloc | apply pw_below_drewN | apply below_drew1) | exact HB.out)⟩
  · replace c4 := Bool.eq_false_iff.mpr c4
    subst c4
    have H1 : (some false) = some r := by rw [if_neg (show ¬ (false = true) by decide)] at H; exact H
    clear H
    have H := H1
    clear H1
    obtain rfl := Option.some.inj H
    go_enter Tryd.func4, Tryd.ntmps4
    go_wp2_with (first | ((with_reducible refine gate_callee (f := 7) rfl ?_); refine goesL_ (some 13) rfl rfl Tryd.func7 (by kernel_rfl) rfl #[] rfl (by (try simp only [List.map_toArray, List.map_cons, List.map_nil]); first | done | rfl | (simp only [List.length_drop, List.length_take]; rfl)) ?_; (with_reducible refine (bureaulaw13_alive.calls k  false _ A3.out ?sideT).mono ?_); (case sideT => first | exact HTABS.out | exact HTABS.out.below (by repeat (first | (with_reducible first | exact HB.out | apply below_alloc | apply pw_below_drewN | apply below_drew1) | exact HB.out)) (Nat.le_refl _) | exact HTABS.out.below (Below.drew (Below.refl _ _)) (Nat.le_refl _)); rintro e w69 ⟨rfl, hb⟩; refine ⟨_, rfl, ?_⟩; have n0_ := Aside0.mk (below_step (by repeat (first | (with_reducible first | exact HB.out | apply below_alloc | apply pw_below_drewN | apply below_drew1) | exact HB.out)) hb); clear HB; have HB := n0_; clear n0_; (try clear hb); (try clear hb2); (try clear hk); (try clear hi)))
    go_ret
    exact ⟨by first | rfl | (simp [errW_none, errW_some] <;> rfl) | (simp [*, errW_none, errW_some] <;> rfl), by repeat (first | (with_reducible first | exact HB.out | apply below_alloc | apply pw_below_drewN | apply below_drew1) | exact HB.out)⟩

/-- What is to be proved of bureaulaw13_ObjectRows: no program in it. -/
def bureaulaw13_ObjectRows.Pure : Prop := ∀ (a0 : ByteArray) (a1 : Int), a0.size ≤ maxLen → (Lit.int .i64 a1).wf = true → ∃ k, bureaulaw13_ObjectRows.f k a0 a1 = some true

end Go.Proofs.YtcinobfflfkmjaaDoor.XObjectRows
