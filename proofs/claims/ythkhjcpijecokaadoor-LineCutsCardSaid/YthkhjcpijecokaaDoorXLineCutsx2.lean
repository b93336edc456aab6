-- Written by this session's program (wip/xprint.py) with the kit's print, for this claim.
import Derived.Test.YthkhjcpijecokaaDoorXLineCutsx0
import Derived.Test.YthkhjcpijecokaaDoorXLineCutsx1
namespace Go.Proofs.YthkhjcpijecokaaDoor.XLineCuts
open Go.RowKit Go.Proofs.YthkhjcpijecokaaDoorW.PrintWords Go.Proofs.YthkhjcpijecokaaDoorW.PrintLast Go.Proofs.YthkhjcpijecokaaDoorW.PrintMore Go.Proofs.YthkhjcpijecokaaDoor.Ext
attribute [local go_sem] max2_int min2_int max_two min_two max_three min_three max_four min_four   -- for this text's walks alone
set_option linter.unusedVariables false
set_option linter.unusedSimpArgs false

/-! ### bureaulaw06_LineCuts: function 5 -/
mutual
def bureaulaw06_LineCuts.j0 : Nat → List ByteArray → List ByteArray → Option (Bool)
  | 0, _, _ => none
  | k + 1, x11, x12 => if (x12.length : Int) = (x11.length : Int) then (bureaulaw06_LineCuts.l0 k x11 x12 (x12.length : Int) 0) else (some false)
def bureaulaw06_LineCuts.l0 : Nat → List ByteArray → List ByteArray → Int → Int → Option (Bool)
  | 0, _, _, _, _ => none
  | k + 1, x11, x12, x71, x72 => if x72 < x71 then (if 0 ≤ x72 then (if x72 < (x12.length : Int) then (if x72 < (x11.length : Int) then (if (rdOf ByteArray.empty x12 x72).toList = (rdOf ByteArray.empty x11 x72).toList then (bureaulaw06_LineCuts.l0 k x11 x12 x71 (wrap64 (x72 + 1))) else (some false)) else (none)) else (none)) else (none)) else (some true)
end
def bureaulaw06_LineCuts.f (k : Nat) (a0 : ByteArray) (a1 : Int) (a2 : Int) : Option (Bool) := (bureaulaw06_alive.f).bind fun t129 => (if t129 = true then (if (a0.size : Int) > 2048 then (some true) else ((line_Whole.f a0 a1 a2).bind fun bt130 => (if bt130.2.2 = 0 then ((bureauref06_Lines.f k a0).bind fun t134 => (if 0 ≤ bt130.1 then (if bt130.1 ≤ (a0.size : Int) then (if 0 ≤ bt130.2.1 then (if bt130.2.1 ≤ (a0.size : Int) then (if (a0.extract 0 (bt130.1 : Int).toNat).size + (a0.extract (bt130.2.1 : Int).toNat a0.size).size ≤ 9223372036854775807 then ((bureauref06_Lines.f k ((a0.extract 0 (bt130.1 : Int).toNat) ++ (a0.extract (bt130.2.1 : Int).toNat a0.size))).bind fun t137 => (if 0 ≤ a1 then (if a1 ≤ (t134.length : Int) then ((some (t134.take (a1 : Int).toNat : List ByteArray)).bind fun y140 => (if ([] : List ByteArray).length + y140.length < 8796093022208 then ((some (([] : List ByteArray) ++ y140 : List ByteArray)).bind fun y144 => (if 0 ≤ (wrap64 (a2 + 1)) then (if (wrap64 (a2 + 1)) ≤ (t134.length : Int) then ((some (t134.drop ((wrap64 (a2 + 1)) : Int).toNat : List ByteArray)).bind fun y147 => (if y144.length + y147.length < 8796093022208 then ((some (y144 ++ y147 : List ByteArray)).bind fun y151 => (if (y151.length : Int) = 0 then (bureaulaw06_LineCuts.j0 k t137 (([(⟨#[]⟩ : ByteArray)] : List ByteArray))) else (bureaulaw06_LineCuts.j0 k t137 y151))) else (none))) else (none)) else (none))) else (none))) else (none)) else (none))) else (none)) else (none)) else (none)) else (none)) else (none))) else (if a1 < 0 then (some true) else (if a2 < a1 then (some true) else ((line_Count.f a0).bind fun t133 => (some (decide (a2 ≥ t133))))))))) else (some false))
theorem bureaulaw06_LineCuts.mono_l : ∀ k, (∀ y0 y1, LeO (bureaulaw06_LineCuts.j0 k y0 y1) (bureaulaw06_LineCuts.j0 (k + 1) y0 y1)) ∧ (∀ y0 y1 y2 y3, LeO (bureaulaw06_LineCuts.l0 k y0 y1 y2 y3) (bureaulaw06_LineCuts.l0 (k + 1) y0 y1 y2 y3))
  | 0 => ⟨fun _ _ r h => by simp [bureaulaw06_LineCuts.j0] at h, fun _ _ _ _ r h => by simp [bureaulaw06_LineCuts.l0] at h⟩
  | k + 1 => by
    obtain ⟨ih0, ih1⟩ := bureaulaw06_LineCuts.mono_l k
    refine ⟨?_, ?_⟩
    · intro y0 y1
      unfold bureaulaw06_LineCuts.j0
      repeat' first
      | (with_reducible exact ih0 _ _)
      | (with_reducible exact ih1 _ _ _ _)
      | (with_reducible exact bureauref06_Lines.mono _ _)
      | (with_reducible exact LeO.refl _)
      | (with_reducible exact LeO.none _)
      | (with_reducible refine LeO.ite ?_ ?_)
      | (with_reducible refine LeO.bind ?_ (fun _ => ?_))
      | exact ih0 _ _
      | exact ih1 _ _ _ _
      | exact bureauref06_Lines.mono _ _
      | exact LeO.none _
      | refine LeO.ite ?_ ?_
      | refine LeO.bind ?_ (fun _ => ?_)
    · intro y0 y1 y2 y3
      unfold bureaulaw06_LineCuts.l0
      repeat' first
      | (with_reducible exact ih0 _ _)
      | (with_reducible exact ih1 _ _ _ _)
      | (with_reducible exact bureauref06_Lines.mono _ _)
      | (with_reducible exact LeO.refl _)
      | (with_reducible exact LeO.none _)
      | (with_reducible refine LeO.ite ?_ ?_)
      | (with_reducible refine LeO.bind ?_ (fun _ => ?_))
      | exact ih0 _ _
      | exact ih1 _ _ _ _
      | exact bureauref06_Lines.mono _ _
      | exact LeO.none _
      | refine LeO.ite ?_ ?_
      | refine LeO.bind ?_ (fun _ => ?_)
theorem bureaulaw06_LineCuts.mono : ∀ a0 a1 a2 k, LeO (bureaulaw06_LineCuts.f k a0 a1 a2) (bureaulaw06_LineCuts.f (k + 1) a0 a1 a2) := by
  intro a0 a1 a2 k
  obtain ⟨ih0, ih1⟩ := bureaulaw06_LineCuts.mono_l k
  unfold bureaulaw06_LineCuts.f
  repeat' first
      | (with_reducible exact ih0 _ _)
      | (with_reducible exact ih1 _ _ _ _)
      | (with_reducible exact bureauref06_Lines.mono _ _)
      | (with_reducible exact LeO.refl _)
      | (with_reducible exact LeO.none _)
      | (with_reducible refine LeO.ite ?_ ?_)
      | (with_reducible refine LeO.bind ?_ (fun _ => ?_))
      | exact ih0 _ _
      | exact ih1 _ _ _ _
      | exact bureauref06_Lines.mono _ _
      | exact LeO.none _
      | refine LeO.ite ?_ ?_
      | refine LeO.bind ?_ (fun _ => ?_)
def bureaulaw06_LineCuts.T8 : Bool × List (List Nat × List Nat) := (true, [([], []), ([0], [0]), ([], []), ([], []), ([2, 3], [2, 3]), ([], []), ([], []), ([5, 6], [5, 6]), ([4, 7], [4, 7]), ([8, 1], [8]), ([1, 9, 0, 1], [1]), ([9, 10, 0, 1, 2, 3, 4, 5, 6, 7, 8, 9, 10], [9])])
def bureaulaw06_LineCuts.B8 : List Nat := [0, 1, 0, 0, 12, 0, 0, 96, 252, 511, 1023, 2047]
theorem bureaulaw06_LineCuts.tab8 : rtab .any (opsOf Tryd.f5 8) = bureaulaw06_LineCuts.T8 := by kernel_rfl
theorem bureaulaw06_LineCuts.bits8 : waitsOk bureaulaw06_LineCuts.T8.2 bureaulaw06_LineCuts.B8 = true := by kernel_rfl
def bureaulaw06_LineCuts.T9 : Bool × List (List Nat × List Nat) := (true, [([], []), ([], []), ([0, 1], [0, 1]), ([2], [2]), ([], []), ([], []), ([5], [5]), ([4, 6], [4, 6]), ([3, 7, 3], [3, 7]), ([8, 8, 0, 1, 2, 3, 4, 5, 6, 7, 8], [8])])
def bureaulaw06_LineCuts.B9 : List Nat := [0, 0, 3, 7, 0, 0, 32, 112, 255, 511]
theorem bureaulaw06_LineCuts.tab9 : rtab .any (opsOf Tryd.f5 9) = bureaulaw06_LineCuts.T9 := by kernel_rfl
theorem bureaulaw06_LineCuts.bits9 : waitsOk bureaulaw06_LineCuts.T9.2 bureaulaw06_LineCuts.B9 = true := by kernel_rfl
def bureaulaw06_LineCuts.T17 : Bool × List (List Nat × List Nat) := (true, [([], []), ([], []), ([0, 1], [0, 1]), ([2], [2]), ([], []), ([], []), ([4, 5], [4, 5]), ([6], [6]), ([3, 7], [3, 7])])
def bureaulaw06_LineCuts.B17 : List Nat := [0, 0, 3, 7, 0, 0, 48, 112, 255]
theorem bureaulaw06_LineCuts.tab17 : rtab .any (opsOf Tryd.f5 17) = bureaulaw06_LineCuts.T17 := by kernel_rfl
theorem bureaulaw06_LineCuts.bits17 : waitsOk bureaulaw06_LineCuts.T17.2 bureaulaw06_LineCuts.B17 = true := by kernel_rfl
set_option maxHeartbeats 8000000 in
set_option maxRecDepth 100000 in
theorem bureaulaw06_LineCuts.calls (k : Nat) (a0 : ByteArray) (a1 : Int) (a2 : Int) (r : Bool) (w : World) (h : bureaulaw06_LineCuts.f k a0 a1 a2 = some r) (hTabs : Tabs w) :
    Calls Tryd.prog 5 #[.string a0, .int .i64 a1, .int .i64 a2] w fun e w' => e = .returned (.bool r) ∧ Below w.heap.size w w' := by
  have HTABS := Aside0.mk hTabs
  clear hTabs
  have HB := Aside0.mk (Below.refl w.heap.size w)
  have H : ((bureaulaw06_alive.f).bind fun t129 => (if t129 = true then (if (a0.size : Int) > 2048 then (some true) else ((line_Whole.f a0 a1 a2).bind fun bt130 => (if bt130.2.2 = 0 then ((bureauref06_Lines.f k a0).bind fun t134 => (if 0 ≤ bt130.1 then (if bt130.1 ≤ (a0.size : Int) then (if 0 ≤ bt130.2.1 then (if bt130.2.1 ≤ (a0.size : Int) then (if (a0.extract 0 (bt130.1 : Int).toNat).size + (a0.extract (bt130.2.1 : Int).toNat a0.size).size ≤ 9223372036854775807 then ((bureauref06_Lines.f k ((a0.extract 0 (bt130.1 : Int).toNat) ++ (a0.extract (bt130.2.1 : Int).toNat a0.size))).bind fun t137 => (if 0 ≤ a1 then (if a1 ≤ (t134.length : Int) then ((some (t134.take (a1 : Int).toNat : List ByteArray)).bind fun y140 => (if ([] : List ByteArray).length + y140.length < 8796093022208 then ((some (([] : List ByteArray) ++ y140 : List ByteArray)).bind fun y144 => (if 0 ≤ (wrap64 (a2 + 1)) then (if (wrap64 (a2 + 1)) ≤ (t134.length : Int) then ((some (t134.drop ((wrap64 (a2 + 1)) : Int).toNat : List ByteArray)).bind fun y147 => (if y144.length + y147.length < 8796093022208 then ((some (y144 ++ y147 : List ByteArray)).bind fun y151 => (if (y151.length : Int) = 0 then (bureaulaw06_LineCuts.j0 k t137 (([(⟨#[]⟩ : ByteArray)] : List ByteArray))) else (bureaulaw06_LineCuts.j0 k t137 y151))) else (none))) else (none)) else (none))) else (none))) else (none)) else (none))) else (none)) else (none)) else (none)) else (none)) else (none))) else (if a1 < 0 then (some true) else (if a2 < a1 then (some true) else ((line_Count.f a0).bind fun t133 => (some (decide (a2 ≥ t133))))))))) else (some false))) = some r := h
  clear h
  replace H := Option.bind_eq_some_iff.mp H
  obtain ⟨t129, A40, H⟩ := H
  replace H : (if t129 = true then (if (a0.size : Int) > 2048 then (some true) else ((line_Whole.f a0 a1 a2).bind fun bt130 => (if bt130.2.2 = 0 then ((bureauref06_Lines.f k a0).bind fun t134 => (if 0 ≤ bt130.1 then (if bt130.1 ≤ (a0.size : Int) then (if 0 ≤ bt130.2.1 then (if bt130.2.1 ≤ (a0.size : Int) then (if (a0.extract 0 (bt130.1 : Int).toNat).size + (a0.extract (bt130.2.1 : Int).toNat a0.size).size ≤ 9223372036854775807 then ((bureauref06_Lines.f k ((a0.extract 0 (bt130.1 : Int).toNat) ++ (a0.extract (bt130.2.1 : Int).toNat a0.size))).bind fun t137 => (if 0 ≤ a1 then (if a1 ≤ (t134.length : Int) then ((some (t134.take (a1 : Int).toNat : List ByteArray)).bind fun y140 => (if ([] : List ByteArray).length + y140.length < 8796093022208 then ((some (([] : List ByteArray) ++ y140 : List ByteArray)).bind fun y144 => (if 0 ≤ (wrap64 (a2 + 1)) then (if (wrap64 (a2 + 1)) ≤ (t134.length : Int) then ((some (t134.drop ((wrap64 (a2 + 1)) : Int).toNat : List ByteArray)).bind fun y147 => (if y144.length + y147.length < 8796093022208 then ((some (y144 ++ y147 : List ByteArray)).bind fun y151 => (if (y151.length : Int) = 0 then (bureaulaw06_LineCuts.j0 k t137 (([(⟨#[]⟩ : ByteArray)] : List ByteArray))) else (bureaulaw06_LineCuts.j0 k t137 y151))) else (none))) else (none)) else (none))) else (none))) else (none)) else (none))) else (none)) else (none)) else (none)) else (none)) else (none))) else (if a1 < 0 then (some true) else (if a2 < a1 then (some true) else ((line_Count.f a0).bind fun t133 => (some (decide (a2 ≥ t133))))))))) else (some false)) = some r := H
  have A4 := Aside0.mk A40
  clear A40
  by_cases c5 : t129 = true
  · subst c5
    have H1 : (if (a0.size : Int) > 2048 then (some true) else ((line_Whole.f a0 a1 a2).bind fun bt130 => (if bt130.2.2 = 0 then ((bureauref06_Lines.f k a0).bind fun t134 => (if 0 ≤ bt130.1 then (if bt130.1 ≤ (a0.size : Int) then (if 0 ≤ bt130.2.1 then (if bt130.2.1 ≤ (a0.size : Int) then (if (a0.extract 0 (bt130.1 : Int).toNat).size + (a0.extract (bt130.2.1 : Int).toNat a0.size).size ≤ 9223372036854775807 then ((bureauref06_Lines.f k ((a0.extract 0 (bt130.1 : Int).toNat) ++ (a0.extract (bt130.2.1 : Int).toNat a0.size))).bind fun t137 => (if 0 ≤ a1 then (if a1 ≤ (t134.length : Int) then ((some (t134.take (a1 : Int).toNat : List ByteArray)).bind fun y140 => (if ([] : List ByteArray).length + y140.length < 8796093022208 then ((some (([] : List ByteArray) ++ y140 : List ByteArray)).bind fun y144 => (if 0 ≤ (wrap64 (a2 + 1)) then (if (wrap64 (a2 + 1)) ≤ (t134.length : Int) then ((some (t134.drop ((wrap64 (a2 + 1)) : Int).toNat : List ByteArray)).bind fun y147 => (if y144.length + y147.length < 8796093022208 then ((some (y144 ++ y147 : List ByteArray)).bind fun y151 => (if (y151.length : Int) = 0 then (bureaulaw06_LineCuts.j0 k t137 (([(⟨#[]⟩ : ByteArray)] : List ByteArray))) else (bureaulaw06_LineCuts.j0 k t137 y151))) else (none))) else (none)) else (none))) else (none))) else (none)) else (none))) else (none)) else (none)) else (none)) else (none)) else (none))) else (if a1 < 0 then (some true) else (if a2 < a1 then (some true) else ((line_Count.f a0).bind fun t133 => (some (decide (a2 ≥ t133))))))))) = some r := by rw [if_pos rfl] at H; exact H
    clear H
    have H := H1
    clear H1
    by_cases c6 : (a0.size : Int) > 2048
    · rw [if_pos c6] at H
      have c6b0 : decide (2048 < (a0.size : Int)) = true := decide_eq_true c6
      have c6b1 : decide (2048 < a0.size) = true := decide_eq_true (by omega)
      clear c6
      obtain rfl := Option.some.inj H
      go_enter Tryd.func5, Tryd.ntmps5
      go_wp2_with (first | ((with_reducible refine gate_callee (f := 9) rfl ?_); refine goesL_ (some 14) rfl rfl Tryd.func9 (by kernel_rfl) rfl #[] rfl (by (try simp only [List.map_toArray, List.map_cons, List.map_nil]); first | done | rfl | (simp only [List.length_drop, List.length_take]; rfl)) ?_; (with_reducible refine (bureaulaw06_alive.calls  true _ A4.out ?sideT).mono ?_); (case sideT => first | exact HTABS.out | exact HTABS.out.below (by repeat (first | (with_reducible first | exact HB.out | apply below_alloc | apply pw_below_drewN | apply below_drew1) | exact HB.out)) (Nat.le_refl _) | exact HTABS.out.below (Below.drew (Below.refl _ _)) (Nat.le_refl _)); rintro e w7 ⟨rfl, hb⟩; refine ⟨_, rfl, ?_⟩; have n0_ := Aside0.mk (below_step (by repeat (first | (with_reducible first | exact HB.out | apply below_alloc | apply pw_below_drewN | apply below_drew1) | exact HB.out)) hb); clear HB; have HB := n0_; clear n0_; (try clear hb); (try clear hb2); (try clear hk); (try clear hi)))
      go_ret
      exact ⟨by first | rfl | (simp [errW_none, errW_some] <;> rfl) | (simp [*, errW_none, errW_some] <;> rfl), by repeat (first | (with_reducible first | exact HB.out | apply below_alloc | apply pw_below_drewN | apply below_drew1) | exact HB.out)⟩
    · rw [if_neg c6] at H
      have c6b0 : decide (2048 < (a0.size : Int)) = false := decide_eq_false c6
      have c6b1 : decide (2048 < a0.size) = false := decide_eq_false (by omega)
      clear c6
      replace H := Option.bind_eq_some_iff.mp H
      obtain ⟨⟨t130, t131, t132⟩, A80, H⟩ := H
      replace H : (if t132 = 0 then ((bureauref06_Lines.f k a0).bind fun t134 => (if 0 ≤ t130 then (if t130 ≤ (a0.size : Int) then (if 0 ≤ t131 then (if t131 ≤ (a0.size : Int) then (if (a0.extract 0 (t130 : Int).toNat).size + (a0.extract (t131 : Int).toNat a0.size).size ≤ 9223372036854775807 then ((bureauref06_Lines.f k ((a0.extract 0 (t130 : Int).toNat) ++ (a0.extract (t131 : Int).toNat a0.size))).bind fun t137 => (if 0 ≤ a1 then (if a1 ≤ (t134.length : Int) then ((some (t134.take (a1 : Int).toNat : List ByteArray)).bind fun y140 => (if ([] : List ByteArray).length + y140.length < 8796093022208 then ((some (([] : List ByteArray) ++ y140 : List ByteArray)).bind fun y144 => (if 0 ≤ (wrap64 (a2 + 1)) then (if (wrap64 (a2 + 1)) ≤ (t134.length : Int) then ((some (t134.drop ((wrap64 (a2 + 1)) : Int).toNat : List ByteArray)).bind fun y147 => (if y144.length + y147.length < 8796093022208 then ((some (y144 ++ y147 : List ByteArray)).bind fun y151 => (if (y151.length : Int) = 0 then (bureaulaw06_LineCuts.j0 k t137 (([(⟨#[]⟩ : ByteArray)] : List ByteArray))) else (bureaulaw06_LineCuts.j0 k t137 y151))) else (none))) else (none)) else (none))) else (none))) else (none)) else (none))) else (none)) else (none)) else (none)) else (none)) else (none))) else (if a1 < 0 then (some true) else (if a2 < a1 then (some true) else ((line_Count.f a0).bind fun t133 => (some (decide (a2 ≥ t133))))))) = some r := H
      have A8 := Aside0.mk A80
      clear A80
      by_cases c9 : t132 = 0
      · rw [if_pos c9] at H
        have c9b0 : (t132 == 0) = true := beq_iff_eq.mpr c9
        have c9b1 : (t132 != 0) = false := bne_eq_false_iff_eq.mpr c9
        clear c9
        replace H := Option.bind_eq_some_iff.mp H
        obtain ⟨t134, A100, H⟩ := H
        replace H : (if 0 ≤ t130 then (if t130 ≤ (a0.size : Int) then (if 0 ≤ t131 then (if t131 ≤ (a0.size : Int) then (if (a0.extract 0 (t130 : Int).toNat).size + (a0.extract (t131 : Int).toNat a0.size).size ≤ 9223372036854775807 then ((bureauref06_Lines.f k ((a0.extract 0 (t130 : Int).toNat) ++ (a0.extract (t131 : Int).toNat a0.size))).bind fun t137 => (if 0 ≤ a1 then (if a1 ≤ (t134.length : Int) then ((some (t134.take (a1 : Int).toNat : List ByteArray)).bind fun y140 => (if ([] : List ByteArray).length + y140.length < 8796093022208 then ((some (([] : List ByteArray) ++ y140 : List ByteArray)).bind fun y144 => (if 0 ≤ (wrap64 (a2 + 1)) then (if (wrap64 (a2 + 1)) ≤ (t134.length : Int) then ((some (t134.drop ((wrap64 (a2 + 1)) : Int).toNat : List ByteArray)).bind fun y147 => (if y144.length + y147.length < 8796093022208 then ((some (y144 ++ y147 : List ByteArray)).bind fun y151 => (if (y151.length : Int) = 0 then (bureaulaw06_LineCuts.j0 k t137 (([(⟨#[]⟩ : ByteArray)] : List ByteArray))) else (bureaulaw06_LineCuts.j0 k t137 y151))) else (none))) else (none)) else (none))) else (none))) else (none)) else (none))) else (none)) else (none)) else (none)) else (none)) else (none)) = some r := H
        have A10 := Aside0.mk A100
        clear A100
        by_cases c11 : 0 ≤ t130
        · rw [if_pos c11] at H
          have c11b0 := eq_true c11
          have c11b1 : decide (0 ≤ t130) = true := decide_eq_true c11
          clear c11
          by_cases c12 : t130 ≤ (a0.size : Int)
          · rw [if_pos c12] at H
            have c12b0 := eq_true c12
            have c12b1 : decide (t130 ≤ (a0.size : Int)) = true := decide_eq_true c12
            clear c12
            by_cases c13 : 0 ≤ t131
            · rw [if_pos c13] at H
              have c13b0 := eq_true c13
              have c13b1 : decide (0 ≤ t131) = true := decide_eq_true c13
              clear c13
              by_cases c14 : t131 ≤ (a0.size : Int)
              · rw [if_pos c14] at H
                have c14b0 := eq_true c14
                have c14b1 : decide (t131 ≤ (a0.size : Int)) = true := decide_eq_true c14
                clear c14
                by_cases c15 : (a0.extract 0 (t130 : Int).toNat).size + (a0.extract (t131 : Int).toNat a0.size).size ≤ 9223372036854775807
                · rw [if_pos c15] at H
                  have c15b0 := eq_true c15
                  have c15b1 : decide ((a0.extract 0 (t130 : Int).toNat).size + (a0.extract (t131 : Int).toNat a0.size).size ≤ 9223372036854775807) = true := decide_eq_true c15
                  try have c15b2 : (9223372036854775807 < (a0.extract 0 (t130 : Int).toNat).size + (a0.extract (t131 : Int).toNat a0.size).size) = False := eq_false (Nat.not_lt.2 c15)
                  try have c15b3 : (9223372036854775807 < t130.toNat + (a0.size - t131.toNat)) = False := eq_false (Nat.not_lt.2 (by have h_ := c15; rw [ByteArray.size_extract, ByteArray.size_extract] at h_; have h2_ : t130 ≤ (a0.size : Int) := of_eq_true (by assumption); omega))
                  replace H := Option.bind_eq_some_iff.mp H
                  obtain ⟨t137, A160, H⟩ := H
                  replace H : (if 0 ≤ a1 then (if a1 ≤ (t134.length : Int) then ((some (t134.take (a1 : Int).toNat : List ByteArray)).bind fun y140 => (if ([] : List ByteArray).length + y140.length < 8796093022208 then ((some (([] : List ByteArray) ++ y140 : List ByteArray)).bind fun y144 => (if 0 ≤ (wrap64 (a2 + 1)) then (if (wrap64 (a2 + 1)) ≤ (t134.length : Int) then ((some (t134.drop ((wrap64 (a2 + 1)) : Int).toNat : List ByteArray)).bind fun y147 => (if y144.length + y147.length < 8796093022208 then ((some (y144 ++ y147 : List ByteArray)).bind fun y151 => (if (y151.length : Int) = 0 then (bureaulaw06_LineCuts.j0 k t137 (([(⟨#[]⟩ : ByteArray)] : List ByteArray))) else (bureaulaw06_LineCuts.j0 k t137 y151))) else (none))) else (none)) else (none))) else (none))) else (none)) else (none)) = some r := H
                  have A16 := Aside0.mk A160
                  clear A160
                  by_cases c17 : 0 ≤ a1
                  · rw [if_pos c17] at H
                    have c17b0 := eq_true c17
                    have c17b1 : decide (0 ≤ a1) = true := decide_eq_true c17
                    clear c17
                    by_cases c18 : a1 ≤ (t134.length : Int)
                    · rw [if_pos c18] at H
                      have c18b0 := eq_true c18
                      have c18b1 : decide (a1 ≤ (t134.length : Int)) = true := decide_eq_true c18
                      clear c18
                      obtain ⟨y140, hy140⟩ : ∃ y_ : List ByteArray, y_ = (t134.take (a1 : Int).toNat) := ⟨_, rfl⟩
                      replace H : (if ([] : List ByteArray).length + y140.length < 8796093022208 then ((some (([] : List ByteArray) ++ y140 : List ByteArray)).bind fun y144 => (if 0 ≤ (wrap64 (a2 + 1)) then (if (wrap64 (a2 + 1)) ≤ (t134.length : Int) then ((some (t134.drop ((wrap64 (a2 + 1)) : Int).toNat : List ByteArray)).bind fun y147 => (if y144.length + y147.length < 8796093022208 then ((some (y144 ++ y147 : List ByteArray)).bind fun y151 => (if (y151.length : Int) = 0 then (bureaulaw06_LineCuts.j0 k t137 (([(⟨#[]⟩ : ByteArray)] : List ByteArray))) else (bureaulaw06_LineCuts.j0 k t137 y151))) else (none))) else (none)) else (none))) else (none)) = some r := by first | (rw [hy140]; with_reducible exact H) | (have H2_ := (Option.bind_some _ _).symm.trans H; rw [hy140]; with_reducible exact H2_) | (have H2_ := (Option.bind_some _ _).symm.trans H; with_reducible exact H2_) | with_reducible exact H | (rw [hy140]; exact H) | exact H
                      have Ny140 := Aside0.mk hy140
                      clear hy140
                      by_cases c19 : ([] : List ByteArray).length + y140.length < 8796093022208
                      · rw [if_pos c19] at H
                        have LMc19 := Aside0.mk c19
                        clear c19
                        obtain ⟨y144, hy144⟩ : ∃ y_ : List ByteArray, y_ = (([] : List ByteArray) ++ y140) := ⟨_, rfl⟩
                        replace H : (if 0 ≤ (wrap64 (a2 + 1)) then (if (wrap64 (a2 + 1)) ≤ (t134.length : Int) then ((some (t134.drop ((wrap64 (a2 + 1)) : Int).toNat : List ByteArray)).bind fun y147 => (if y144.length + y147.length < 8796093022208 then ((some (y144 ++ y147 : List ByteArray)).bind fun y151 => (if (y151.length : Int) = 0 then (bureaulaw06_LineCuts.j0 k t137 (([(⟨#[]⟩ : ByteArray)] : List ByteArray))) else (bureaulaw06_LineCuts.j0 k t137 y151))) else (none))) else (none)) else (none)) = some r := by first | (rw [hy144]; with_reducible exact H) | (have H2_ := (Option.bind_some _ _).symm.trans H; rw [hy144]; with_reducible exact H2_) | (have H2_ := (Option.bind_some _ _).symm.trans H; with_reducible exact H2_) | with_reducible exact H | (rw [hy144]; exact H) | exact H
                        have Ny144 := Aside0.mk hy144
                        clear hy144
                        obtain ⟨ji20, hji20⟩ : ∃ j_ : Int, (wrap64 (a2 + 1)) = j_ := ⟨_, rfl⟩
                        replace H : (if 0 ≤ (ji20) then (if (ji20) ≤ (t134.length : Int) then ((some (t134.drop ((ji20) : Int).toNat : List ByteArray)).bind fun y147 => (if y144.length + y147.length < 8796093022208 then ((some (y144 ++ y147 : List ByteArray)).bind fun y151 => (if (y151.length : Int) = 0 then (bureaulaw06_LineCuts.j0 k t137 (([(⟨#[]⟩ : ByteArray)] : List ByteArray))) else (bureaulaw06_LineCuts.j0 k t137 y151))) else (none))) else (none)) else (none)) = some r := by first | (rw [hji20] at H; exact H) | (simp only [hji20] at H ⊢; exact H)
                        (try rw [hji20] at A4)
                        (try rw [hji20] at A8)
                        (try rw [hji20] at A10)
                        (try rw [hji20] at A16)
                        have hji20w : (IntKind.i64.wrap (a2 + 1)) = ji20 := (i64_w _).trans hji20
                        by_cases c21 : 0 ≤ (ji20)
                        · rw [if_pos c21] at H
                          have c21b0 := eq_true c21
                          have c21b1 : decide (0 ≤ (ji20)) = true := decide_eq_true c21
                          clear c21
                          by_cases c22 : (ji20) ≤ (t134.length : Int)
                          · rw [if_pos c22] at H
                            have c22b0 := eq_true c22
                            have c22b1 : decide ((ji20) ≤ (t134.length : Int)) = true := decide_eq_true c22
                            clear c22
                            obtain ⟨y147, hy147⟩ : ∃ y_ : List ByteArray, y_ = (t134.drop ((ji20) : Int).toNat) := ⟨_, rfl⟩
                            replace H : (if y144.length + y147.length < 8796093022208 then ((some (y144 ++ y147 : List ByteArray)).bind fun y151 => (if (y151.length : Int) = 0 then (bureaulaw06_LineCuts.j0 k t137 (([(⟨#[]⟩ : ByteArray)] : List ByteArray))) else (bureaulaw06_LineCuts.j0 k t137 y151))) else (none)) = some r := by first | (rw [hy147]; with_reducible exact H) | (have H2_ := (Option.bind_some _ _).symm.trans H; rw [hy147]; with_reducible exact H2_) | (have H2_ := (Option.bind_some _ _).symm.trans H; with_reducible exact H2_) | with_reducible exact H | (rw [hy147]; exact H) | exact H
                            have Ny147 := Aside0.mk hy147
                            clear hy147
                            by_cases c23 : y144.length + y147.length < 8796093022208
                            · rw [if_pos c23] at H
                              have LMc23 := Aside0.mk c23
                              clear c23
                              obtain ⟨y151, hy151⟩ : ∃ y_ : List ByteArray, y_ = (y144 ++ y147) := ⟨_, rfl⟩
                              replace H : (if (y151.length : Int) = 0 then (bureaulaw06_LineCuts.j0 k t137 (([(⟨#[]⟩ : ByteArray)] : List ByteArray))) else (bureaulaw06_LineCuts.j0 k t137 y151)) = some r := by first | (rw [hy151]; with_reducible exact H) | (have H2_ := (Option.bind_some _ _).symm.trans H; rw [hy151]; with_reducible exact H2_) | (have H2_ := (Option.bind_some _ _).symm.trans H; with_reducible exact H2_) | with_reducible exact H | (rw [hy151]; exact H) | exact H
                              have Ny151 := Aside0.mk hy151
                              clear hy151
                              have HC24 := Aside0.mk H
                              clear H
                              go_enter Tryd.func5, Tryd.ntmps5
                              try go_wp2_with (first | ((with_reducible refine gate_callee (f := 9) rfl ?_); refine goesL_ (some 14) rfl rfl Tryd.func9 (by kernel_rfl) rfl #[] rfl (by (try simp only [List.map_toArray, List.map_cons, List.map_nil]); first | done | rfl | (simp only [List.length_drop, List.length_take]; rfl)) ?_; (with_reducible refine (bureaulaw06_alive.calls  true _ A4.out ?sideT).mono ?_); (case sideT => first | exact HTABS.out | exact HTABS.out.below (by repeat (first | (with_reducible first | exact HB.out | apply below_alloc | apply pw_below_drewN | apply below_drew1) | exact HB.out)) (Nat.le_refl _) | exact HTABS.out.below (Below.drew (Below.refl _ _)) (Nat.le_refl _)); rintro e w25 ⟨rfl, hb⟩; refine ⟨_, rfl, ?_⟩; have n0_ := Aside0.mk (below_step (by repeat (first | (with_reducible first | exact HB.out | apply below_alloc | apply pw_below_drewN | apply below_drew1) | exact HB.out)) hb); clear HB; have HB := n0_; clear n0_; (try clear hb); (try clear hb2); (try clear hk); (try clear hi)) | ((with_reducible refine gate_callee (f := 12) rfl ?_); refine goesL_ (some 23) rfl rfl Tryd.func12 (by kernel_rfl) rfl #[.string a0, .int .i64 a1, .int .i64 a2] rfl (by (try simp only [List.map_toArray, List.map_cons, List.map_nil]); first | done | rfl | (simp only [List.length_drop, List.length_take]; rfl)) ?_; (with_reducible refine (line_Whole.calls a0 a1 a2 t130 t131 t132 _ A8.out ?sideT).mono ?_); (case sideT => first | exact HTABS.out | exact HTABS.out.below (by repeat (first | (with_reducible first | exact HB.out | apply below_alloc | apply pw_below_drewN | apply below_drew1) | exact HB.out)) (Nat.le_refl _) | exact HTABS.out.below (Below.drew (Below.refl _ _)) (Nat.le_refl _)); rintro e w26 ⟨rfl, hb⟩; refine ⟨_, rfl, ?_⟩; have n0_ := Aside0.mk (below_step (by repeat (first | (with_reducible first | exact HB.out | apply below_alloc | apply pw_below_drewN | apply below_drew1) | exact HB.out)) hb); clear HB; have HB := n0_; clear n0_; (try clear hb); (try clear hb2); (try clear hk); (try clear hi)))
                              have n0_ := Aside0.mk (below_drew1 HB.out)
                              clear HB
                              have HB := n0_
                              clear n0_
                              refine start_ (n := 12) (S := fun w' => True) (ds := []) #[false, false, false, false, false, false, false, false, false, false, false, false] (by kernel_rfl) rfl rfl trivial (fun hHeld => ?_); refine with_tabW bureaulaw06_LineCuts.tab8 bureaulaw06_LineCuts.bits8 (fun HT_ HW_ => ?_)
                              generalize w26.drew = w27 at HB hHeld ⊢
                              refine pure_ (i := 0) (N := some 42) (v := ?_) (a' := ?_) #[true, false, false, false, false, false, false, false, false, false, false, false] rfl rfl (any_of HT_.out (by kernel_rfl)) (fun _ _ _ h => h) (Or.inl ⟨by rfl, ?_⟩) ?_ ?_
                              rotate_left
                              · intro w'
                                go_simp
                                with_reducible rfl
                              rotate_left
                              · simp only [Act.put, List.setIfInBounds_toArray, List.set_cons_zero, List.set_cons_succ, i64_w, i32_w]
                                rfl
                              refine pure_ (i := 2) (N := some 44) (v := ?_) (a' := ?_) #[true, false, true, false, false, false, false, false, false, false, false, false] rfl rfl (any_of HT_.out (by kernel_rfl)) (fun _ _ _ h => h) (Or.inl ⟨by rfl, ?_⟩) ?_ ?_
                              rotate_left
                              · intro w'
                                go_simp
                                with_reducible rfl
                              rotate_left
                              · simp only [Act.put, List.setIfInBounds_toArray, List.set_cons_zero, List.set_cons_succ, i64_w, i32_w]
                                rfl
                              refine pure_ (i := 3) (N := some 45) (v := ?_) (a' := ?_) #[true, false, true, true, false, false, false, false, false, false, false, false] rfl rfl (any_of HT_.out (by kernel_rfl)) (fun _ _ _ h => h) (Or.inl ⟨by rfl, ?_⟩) ?_ ?_
                              rotate_left
                              · intro w'
                                go_simp
                                with_reducible rfl
                              rotate_left
                              · simp only [Act.put, List.setIfInBounds_toArray, List.set_cons_zero, List.set_cons_succ, i64_w, i32_w]
                                rfl
                              refine pure_ (i := 4) (N := some 46) (v := ?_) (a' := ?_) #[true, false, true, true, true, false, false, false, false, false, false, false] rfl rfl (any_of HT_.out (by kernel_rfl)) (fun _ _ _ h => h) (Or.inl ⟨by rfl, ?_⟩) ?_ ?_
                              rotate_left
                              · intro w'
                                go_simp
                                with_reducible rfl
                              rotate_left
                              · simp only [Act.put, List.setIfInBounds_toArray, List.set_cons_zero, List.set_cons_succ, i64_w, i32_w]
                                rfl
                              refine pure_ (i := 5) (N := some 47) (v := ?_) (a' := ?_) #[true, false, true, true, true, true, false, false, false, false, false, false] rfl rfl (any_of HT_.out (by kernel_rfl)) (fun _ _ _ h => h) (Or.inl ⟨by rfl, ?_⟩) ?_ ?_
                              rotate_left
                              · intro w'
                                go_simp
                                with_reducible rfl
                              rotate_left
                              · simp only [Act.put, List.setIfInBounds_toArray, List.set_cons_zero, List.set_cons_succ, i64_w, i32_w]
                                rfl
                              refine pure_ (i := 6) (N := some 48) (v := ?_) (a' := ?_) #[true, false, true, true, true, true, true, false, false, false, false, false] rfl rfl (any_of HT_.out (by kernel_rfl)) (fun _ _ _ h => h) (Or.inl ⟨by rfl, ?_⟩) ?_ ?_
                              rotate_left
                              · intro w'
                                go_simp
                                with_reducible rfl
                              rotate_left
                              · simp only [Act.put, List.setIfInBounds_toArray, List.set_cons_zero, List.set_cons_succ, i64_w, i32_w]
                                rfl
                              refine pure_ (i := 7) (N := some 49) (v := ?_) (a' := ?_) #[true, false, true, true, true, true, true, true, false, false, false, false] rfl rfl (any_of HT_.out (by kernel_rfl)) (fun _ _ _ h => h) (Or.inl ⟨by rfl, ?_⟩) ?_ ?_
                              rotate_left
                              · intro w'
                                go_simp
                                with_reducible rfl
                              rotate_left
                              · simp only [Act.put, List.setIfInBounds_toArray, List.set_cons_zero, List.set_cons_succ, i64_w, i32_w]
                                rfl
                              refine pure_ (i := 8) (N := some 50) (v := ?_) (a' := ?_) #[true, false, true, true, true, true, true, true, true, false, false, false] rfl rfl (any_of HT_.out (by kernel_rfl)) (fun _ _ _ h => h) (Or.inl ⟨by rfl, ?_⟩) ?_ ?_
                              rotate_left
                              · intro w'
                                go_simp
                                with_reducible rfl
                              rotate_left
                              · simp only [Act.put, List.setIfInBounds_toArray, List.set_cons_zero, List.set_cons_succ, i64_w, i32_w]
                                rfl
                              refine one_ (i := 1) (N := some 43) #[true, true, true, true, true, true, true, true, true, false, false, false] rfl rfl (one_of HT_.out (by kernel_rfl)) (by decide) (fun K hK => ?_)
                              refine goes_ Tryd.func15 (by kernel_rfl) rfl #[.string a0] (by rfl) rfl rfl (by (try simp only [List.map_toArray, List.map_cons, List.map_nil]); first | done | rfl | (simp only [List.length_drop, List.length_take]; rfl)) ?_
                              (with_reducible refine (bureauref06_Lines.calls k a0 t134 _ A10.out ?sideT).mono ?_); (case sideT => first | exact HTABS.out | exact HTABS.out.below (by repeat (first | (with_reducible first | exact HB.out | apply below_alloc | apply pw_below_drewN | apply below_drew1) | exact HB.out)) (Nat.le_refl _) | exact HTABS.out.below (Below.drew (Below.refl _ _)) (Nat.le_refl _))
                              rintro e w28 ⟨v135, rfl, ho0, hb⟩
                              refine ⟨_, rfl, ?_⟩
                              have n0_ := Aside0.mk (Kd.R_lower ho0 (below_size (by repeat (first | (with_reducible first | exact HB.out | apply below_alloc | apply pw_below_drewN | apply below_drew1) | exact HB.out))))
                              have n1_ := Aside0.mk (below_step (by repeat (first | (with_reducible first | exact HB.out | apply below_alloc | apply pw_below_drewN | apply below_drew1) | exact HB.out)) hb)
                              clear HB
                              have HO136 := n0_
                              have HB := n1_
                              clear n0_ n1_
                              (try clear hb)
                              (try clear hb2)
                              (try clear hk)
                              (try clear hi)
                              (try clear ho0)
                              refine hK.out _ _ trivial (fun hHeld => ?_)
                              clear hK K
                              refine norm_ (a' := ?_) ?_ ?_
                              rotate_left
                              · show Act.put _ (some 43) _ = _
                                simp only [Act.put, List.setIfInBounds_toArray, List.set_cons_zero, List.set_cons_succ, i64_w, i32_w]
                                rfl
                              refine one_ (i := 9) (N := some 51) #[true, true, true, true, true, true, true, true, true, true, false, false] rfl rfl (one_of HT_.out (by kernel_rfl)) (by decide) (fun K hK => ?_)
                              refine goes_ Tryd.func15 (by kernel_rfl) rfl #[.string ((a0.extract 0 (t130 : Int).toNat) ++ (a0.extract (t131 : Int).toNat a0.size))] (by rfl) rfl rfl (by (try simp only [List.map_toArray, List.map_cons, List.map_nil]); first | done | rfl | (simp only [List.length_drop, List.length_take]; rfl)) ?_
                              (with_reducible refine (bureauref06_Lines.calls k ((a0.extract 0 (t130 : Int).toNat) ++ (a0.extract (t131 : Int).toNat a0.size)) t137 _ A16.out ?sideT).mono ?_); (case sideT => first | exact HTABS.out | exact HTABS.out.below (by repeat (first | (with_reducible first | exact HB.out | apply below_alloc | apply pw_below_drewN | apply below_drew1) | exact HB.out)) (Nat.le_refl _) | exact HTABS.out.below (Below.drew (Below.refl _ _)) (Nat.le_refl _))
                              rintro e w29 ⟨v138, rfl, ho0, hb⟩
                              refine ⟨_, rfl, ?_⟩
                              have n0_ := Aside0.mk (Kd.R_elder' (by (with_reducible repeat (first | apply Kd.R_alloc | apply Kd.R_drewN | apply Kd.R_drew)); exact HO136.out) (Kd.R_base ho0) hb)
                              have n1_ := Aside0.mk (Kd.R_lower (Kd.R_new' ho0 (Kd.R_lt (by (with_reducible repeat (first | apply Kd.R_alloc | apply Kd.R_drewN | apply Kd.R_drew)); exact HO136.out))) (below_size (by repeat (first | (with_reducible first | exact HB.out | apply below_alloc | apply pw_below_drewN | apply below_drew1) | exact HB.out))))
                              have n2_ := Aside0.mk (below_step (by repeat (first | (with_reducible first | exact HB.out | apply below_alloc | apply pw_below_drewN | apply below_drew1) | exact HB.out)) hb)
                              clear HO136
                              clear HB
                              have HO136 := n0_
                              have HO139 := n1_
                              have HB := n2_
                              clear n0_ n1_ n2_
                              (try clear hb)
                              (try clear hb2)
                              (try clear hk)
                              (try clear hi)
                              (try clear ho0)
                              refine hK.out _ _ trivial (fun hHeld => ?_)
                              clear hK K
                              refine norm_ (a' := ?_) ?_ ?_
                              rotate_left
                              · show Act.put _ (some 51) _ = _
                                simp only [Act.put, List.setIfInBounds_toArray, List.set_cons_zero, List.set_cons_succ, i64_w, i32_w]
                                rfl
                              refine pure_ (i := 10) (N := some 10) (v := ?_) (a' := ?_) #[true, true, true, true, true, true, true, true, true, true, true, false] rfl rfl (any_of HT_.out (by kernel_rfl)) (fun _ _ _ h => h) (Or.inl ⟨by rfl, ?_⟩) ?_ ?_
                              rotate_left
                              · intro w'
                                go_simp
                                with_reducible rfl
                              rotate_left
                              · simp only [Act.put, List.setIfInBounds_toArray, List.set_cons_zero, List.set_cons_succ, i64_w, i32_w]
                                rfl
                              refine pure_ (i := 11) (N := some 11) (v := ?_) (a' := ?_) #[true, true, true, true, true, true, true, true, true, true, true, true] rfl rfl (any_of HT_.out (by kernel_rfl)) (fun _ _ _ h => h) (Or.inl ⟨by rfl, ?_⟩) ?_ ?_
                              rotate_left
                              · intro w'
                                go_simp
                                with_reducible rfl
                              rotate_left
                              · simp only [Act.put, List.setIfInBounds_toArray, List.set_cons_zero, List.set_cons_succ, i64_w, i32_w]
                                rfl
                              refine done_ (done_of HT_.out (by kernel_rfl)) ?_
                              try go_wp2
                              have n0_ := Aside0.mk (Kd.R_drew HO136.out)
                              have n1_ := Aside0.mk (Kd.R_drew HO139.out)
                              have n2_ := Aside0.mk (below_drew1 HB.out)
                              clear HO136
                              clear HO139
                              clear HB
                              have HO136 := n0_
                              have HO139 := n1_
                              have HB := n2_
                              clear n0_ n1_ n2_
                              obtain ⟨Ao32, co32, eo32⟩ := Kd.R_slice HO136.out
                              (first | subst eo32 | (injection eo32 with f1_ f2_ f3_; have f4_ := f1_.symm; have f5_ := f3_.symm; clear f1_ f2_ f3_; subst f4_; subst f5_))
                              have q31 : (a1 : Int) ≤ ((t134.length : Int) : Int) := of_decide_eq_true (by first | (with_reducible assumption) | assumption)
                              obtain ⟨i031, hi031, _, hsz31, _⟩ := info_parts info9
                              have hroom31 : t134.length ≤ co32 := (Kd.R_reads' HO136.out).2.1
                              have hC31 : Kd.C Kd.string _ Ao32 t134.length t134 := (Kd.R_reads' HO136.out).2.2
                              have hcut31 := cut_to (P := Tryd.prog) 33 9 .i64 Tryd.underlying33 hi031 Ao32 t134.length co32 a1 (of_decide_eq_true (by first | (with_reducible assumption) | assumption)) q31 hroom31
                              have hr31 := Kd.C_take (m := (a1 : Int).toNat) hC31 (by omega)
                              have hy31 : y140.length = (a1 : Int).toNat := (by rw [Ny140.out, List.length_take]; omega)
                              rw [← Ny140.out] at hr31
                              rw [← hy31] at hcut31
                              have HR143 := Aside0.mk hr31
                              have HC143 := Aside0.mk (show y140.length ≤ co32 from by omega)
                              clear hr31 hC31 hroom31 hi031 hsz31
                              have KY31 := Aside0.mk hy31
                              clear hy31
                              have KL31 := Aside0.mk (show (a1 : Int).toNat ≤ t134.length from by omega)
                              replace q31 := eq_true q31
                              have q33 : ((ji20) : Int) ≤ ((t134.length : Int) : Int) := of_decide_eq_true (by first | (with_reducible assumption) | assumption)
                              obtain ⟨i033, hi033, _, hsz33, _⟩ := info_parts info9
                              have hroom33 : t134.length ≤ co32 := (Kd.R_reads' HO136.out).2.1
                              have hC33 : Kd.C Kd.string _ Ao32 t134.length t134 := (Kd.R_reads' HO136.out).2.2
                              have q033 : (0 : Int) ≤ ((ji20) : Int) := of_decide_eq_true (by first | (with_reducible assumption) | assumption)
                              have hcut33 := cut_from (P := Tryd.prog) 33 9 .i64 Tryd.underlying33 hi033 1 hsz33 Ao32 t134.length co32 (ji20) q033 q33
                              have hr33 := Kd.C_drop (m := ((ji20) : Int).toNat) (c := co32) hC33 (by omega) hroom33
                              obtain ⟨A33, hA33⟩ : ∃ A1, A1 = (if co32 = ((ji20) : Int).toNat then Ao32 else (Ao32 : Option Addr).map (·.add (((ji20) : Int).toNat * 1))) := ⟨_, rfl⟩
                              obtain ⟨c33, hc33⟩ : ∃ c1, c1 = co32 - ((ji20) : Int).toNat := ⟨_, rfl⟩
                              have hy33 : y147.length = t134.length - ((ji20) : Int).toNat := (by rw [Ny147.out, List.length_drop] <;> omega)
                              rw [show (t134).drop ((ji20) : Int).toNat = y147 from Ny147.out.symm] at hr33
                              replace hr33 : Kd.C Kd.string _ A33 y147.length y147 := (by rw [hA33]; exact hr33)
                              rw [← hy33, ← hA33, ← hc33] at hcut33
                              have HR150 := Aside0.mk hr33
                              have HC150 := Aside0.mk (show y147.length ≤ c33 from by rw [hy33, hc33]; exact Nat.sub_le_sub_right hroom33 _)
                              clear hr33 hC33 hroom33 hi033 hsz33 hc33
                              have KY33 := Aside0.mk hy33
                              have KA33 := Aside0.mk hA33
                              clear hy33 hA33
                              have KL33 := Aside0.mk (show ((ji20) : Int).toNat ≤ t134.length from by omega)
                              replace q33 := eq_true q33
                              refine start_ (n := 10) (S := fun w' => True) (ds := []) #[false, false, false, false, false, false, false, false, false, false] (by kernel_rfl) rfl rfl trivial (fun hHeld => ?_); refine with_tabW bureaulaw06_LineCuts.tab9 bureaulaw06_LineCuts.bits9 (fun HT_ HW_ => ?_)
                              generalize w29.drew = w30 at HO136 HO139 HB HR143 HR150 hHeld ⊢
                              refine pure_ (i := 0) (N := some 52) (v := ?_) (a' := ?_) #[true, false, false, false, false, false, false, false, false, false] rfl rfl (any_of HT_.out (by kernel_rfl)) (fun _ _ _ h => h) (Or.inl ⟨by rfl, ?_⟩) ?_ ?_
                              rotate_left
                              · intro w'
                                go_simp
                                with_reducible rfl
                              rotate_left
                              · simp only [Act.put, List.setIfInBounds_toArray, List.set_cons_zero, List.set_cons_succ, i64_w, i32_w]
                                rfl
                              refine pure_ (i := 1) (N := some 53) (v := ?_) (a' := ?_) #[true, true, false, false, false, false, false, false, false, false] rfl rfl (any_of HT_.out (by kernel_rfl)) (fun _ _ _ h => h) (Or.inl ⟨by rfl, ?_⟩) ?_ ?_
                              rotate_left
                              · intro w'
                                go_simp
                                with_reducible rfl
                              rotate_left
                              · simp only [Act.put, List.setIfInBounds_toArray, List.set_cons_zero, List.set_cons_succ, i64_w, i32_w]
                                rfl
                              refine pure_ (i := 2) (N := some 54) (v := ?_) (a' := ?_) #[true, true, true, false, false, false, false, false, false, false] rfl rfl (any_of HT_.out (by kernel_rfl)) (fun _ _ _ h => h) (Or.inl ⟨by rfl, ?_⟩) ?_ ?_
                              rotate_left
                              · intro w'
                                go_simp
                                with_reducible rfl
                              rotate_left
                              · simp only [Act.put, List.setIfInBounds_toArray, List.set_cons_zero, List.set_cons_succ, i64_w, i32_w]
                                rfl
                              refine pure_ (i := 4) (N := some 56) (v := ?_) (a' := ?_) #[true, true, true, false, true, false, false, false, false, false] rfl rfl (any_of HT_.out (by kernel_rfl)) (fun _ _ _ h => h) (Or.inl ⟨by rfl, ?_⟩) ?_ ?_
                              rotate_left
                              · intro w'
                                go_simp
                                with_reducible rfl
                              rotate_left
                              · simp only [Act.put, List.setIfInBounds_toArray, List.set_cons_zero, List.set_cons_succ, i64_w, i32_w]
                                rfl
                              refine pure_ (i := 5) (N := some 57) (v := ?_) (a' := ?_) #[true, true, true, false, true, true, false, false, false, false] rfl rfl (any_of HT_.out (by kernel_rfl)) (fun _ _ _ h => h) (Or.inl ⟨by rfl, ?_⟩) ?_ ?_
                              rotate_left
                              · intro w'
                                go_simp
                                with_reducible rfl
                              rotate_left
                              · simp only [Act.put, List.setIfInBounds_toArray, List.set_cons_zero, List.set_cons_succ, i64_w, i32_w]
                                rfl
                              refine pure_ (i := 6) (N := some 58) (v := ?_) (a' := ?_) #[true, true, true, false, true, true, true, false, false, false] rfl rfl (any_of HT_.out (by kernel_rfl)) (fun _ _ _ h => h) (Or.inl ⟨by rfl, ?_⟩) ?_ ?_
                              rotate_left
                              · intro w'
                                go_simp
                                with_reducible rfl
                              rotate_left
                              · simp only [Act.put, List.setIfInBounds_toArray, List.set_cons_zero, List.set_cons_succ, i64_w, i32_w]
                                rfl
                              refine pure_ (i := 7) (N := some 59) (v := ?_) (a' := ?_) #[true, true, true, false, true, true, true, true, false, false] rfl rfl (any_of HT_.out (by kernel_rfl)) (fun _ _ _ h => h) (Or.inl ⟨by rfl, ?_⟩) ?_ ?_
                              rotate_left
                              · intro w'
                                go_simp
                                with_reducible rfl
                              rotate_left
                              · simp only [Act.put, List.setIfInBounds_toArray, List.set_cons_zero, List.set_cons_succ, i64_w, i32_w]
                                rfl
                              refine one_ (i := 3) (N := some 55) #[true, true, true, true, true, true, true, true, false, false] rfl rfl (one_of HT_.out (by kernel_rfl)) (by decide) (fun K hK => ?_)
                              refine Kd.R_append_rows_step Kd.string (w0 := w) w.heap.size rfl (.const (.slice none 0 0)) (.tmp 54) 33 9 (.string ⟨#[]⟩) 16 rfl Tryd.underlying33 info9 rfl (by decide) (by omega) (.slice none 0 0) ([] : List ByteArray) y140 _ _ _ (fun k_ => some k_ ≠ (.slice Ao32 t134.length co32 : Value).ownBlock ∧ some k_ ≠ (v138 : Value).ownBlock) (fun _ => False) rfl rfl ?aO ?aR (fun _ _ h => h) (fun _ h => h.elim) ?aF ?aB ?aS ?aL ?_
                              (case aR => repeat (first | exact (by repeat (first | (with_reducible exact HR143.out) | (with_reducible refine Kd.C_alloc ?_ _) | (with_reducible refine Kd.C_drewN ?_ _) | (with_reducible refine Kd.C_drew ?_) | exact HR143.out)) | (with_reducible refine Kd.C_alloc ?_ _) | (with_reducible refine Kd.C_drewN ?_ _) | (with_reducible refine Kd.C_drew ?_)))
                              (case aB => exact (by repeat (first | (with_reducible first | exact HB.out | apply below_alloc | apply pw_below_drewN | apply below_drew1) | exact HB.out)))
                              (case aF => exact (fun k_ hk => ⟨Kd.fresh' (Kd.R_lt (by (with_reducible repeat (first | apply Kd.R_alloc | apply Kd.R_drewN | apply Kd.R_drew)); exact HO136.out)) k_ hk, Kd.fresh' (Kd.R_lt (by (with_reducible repeat (first | apply Kd.R_alloc | apply Kd.R_drewN | apply Kd.R_drew)); exact HO139.out)) k_ hk⟩))
                              (case aO => exact ((Kd.R_nil _ _ _ _ (fun k_ => some k_ ≠ (.slice Ao32 t134.length co32 : Value).ownBlock ∧ some k_ ≠ (v138 : Value).ownBlock))))
                              (case aS => exact (below_size (by repeat (first | (with_reducible first | exact HB.out | apply below_alloc | apply pw_below_drewN | apply below_drew1) | exact HB.out))))
                              (case aL => have := LMc19.out; omega)
                              intro v145 w34 ho hb hg hat
                              rw [← Ny144.out] at ho
                              have n0_ := Aside0.mk (Kd.R_after (Kd.R_apart_nil (by (with_reducible repeat (first | apply Kd.R_alloc | apply Kd.R_drewN | apply Kd.R_drew)); exact HO136.out)) hg hat)
                              have n1_ := Aside0.mk (Kd.R_after (Kd.R_apart_nil (by (with_reducible repeat (first | apply Kd.R_alloc | apply Kd.R_drewN | apply Kd.R_drew)); exact HO139.out)) hg hat)
                              have n2_ := Aside0.mk (hb)
                              have n3_ := Aside0.mk ((show Kd.C Kd.string w34 Ao32 y140.length y140 from by rw [Ny140.out]; exact Kd.C_take (m := (a1 : Int).toNat) ((Kd.R_reads' (Kd.R_after (Kd.R_apart_nil (by (with_reducible repeat (first | apply Kd.R_alloc | apply Kd.R_drewN | apply Kd.R_drew)); exact HO136.out)) hg hat)).2.2) KL31.out))
                              have n4_ := Aside0.mk ((show Kd.C Kd.string w34 A33 y147.length y147 from by rw [Ny147.out, KA33.out]; exact Kd.C_drop (m := ((ji20) : Int).toNat) (c := co32) ((Kd.R_reads' (Kd.R_after (Kd.R_apart_nil (by (with_reducible repeat (first | apply Kd.R_alloc | apply Kd.R_drewN | apply Kd.R_drew)); exact HO136.out)) hg hat)).2.2) KL33.out ((Kd.R_reads' (Kd.R_after (Kd.R_apart_nil (by (with_reducible repeat (first | apply Kd.R_alloc | apply Kd.R_drewN | apply Kd.R_drew)); exact HO136.out)) hg hat)).2.1)))
                              have n5_ := Aside0.mk (ho)
                              clear HO136
                              clear HO139
                              clear HB
                              clear HR143
                              clear HR150
                              have HO136 := n0_
                              have HO139 := n1_
                              have HB := n2_
                              have HR143 := n3_
                              have HR150 := n4_
                              have HO146 := n5_
                              clear n0_ n1_ n2_ n3_ n4_ n5_
                              clear ho hb hg hat
                              refine hK.out _ _ trivial (fun hHeld => ?_)
                              clear hK K
                              refine norm_ (a' := ?_) ?_ ?_
                              rotate_left
                              · show Act.put _ (some 55) _ = _
                                simp only [Act.put, List.setIfInBounds_toArray, List.set_cons_zero, List.set_cons_succ, i64_w, i32_w]
                                rfl
                              refine one_ (i := 8) (N := some 60) #[true, true, true, true, true, true, true, true, true, false] rfl rfl (one_of HT_.out (by kernel_rfl)) (by decide) (fun K hK => ?_)
                              refine Kd.R_append_rows_step Kd.string (w0 := w) w.heap.size (by rfl) (.tmp 55) (.tmp 59) 33 9 (.string ⟨#[]⟩) 16 rfl Tryd.underlying33 info9 rfl (by decide) (by omega) v145 y144 y147 _ _ _ (fun k_ => some k_ ≠ (.slice Ao32 t134.length co32 : Value).ownBlock ∧ some k_ ≠ (v138 : Value).ownBlock) (fun _ => False) rfl rfl ?aO ?aR (fun _ _ h => h) (fun _ h => h.elim) ?aF ?aB ?aS ?aL ?_
                              (case aR => repeat (first | exact (by repeat (first | (with_reducible exact HR150.out) | (with_reducible refine Kd.C_alloc ?_ _) | (with_reducible refine Kd.C_drewN ?_ _) | (with_reducible refine Kd.C_drew ?_) | exact HR150.out)) | (with_reducible refine Kd.C_alloc ?_ _) | (with_reducible refine Kd.C_drewN ?_ _) | (with_reducible refine Kd.C_drew ?_)))
                              (case aB => exact (by repeat (first | (with_reducible first | exact HB.out | apply below_alloc | apply pw_below_drewN | apply below_drew1) | exact HB.out)))
                              (case aF => exact (fun k_ hk => ⟨Kd.fresh' (Kd.R_lt (by (with_reducible repeat (first | apply Kd.R_alloc | apply Kd.R_drewN | apply Kd.R_drew)); exact HO136.out)) k_ hk, Kd.fresh' (Kd.R_lt (by (with_reducible repeat (first | apply Kd.R_alloc | apply Kd.R_drewN | apply Kd.R_drew)); exact HO139.out)) k_ hk⟩))
                              (case aO => exact (by (with_reducible repeat (first | apply Kd.R_alloc | apply Kd.R_drewN | apply Kd.R_drew)); exact HO146.out))
                              (case aS => exact (below_size (by repeat (first | (with_reducible first | exact HB.out | apply below_alloc | apply pw_below_drewN | apply below_drew1) | exact HB.out))))
                              (case aL => have := LMc23.out; omega)
                              intro v152 w35 ho hb hg hat
                              rw [← Ny151.out] at ho
                              have n0_ := Aside0.mk (Kd.R_after (ok := (fun k_ => some k_ ≠ (v138 : Value).ownBlock)) (by (with_reducible repeat (first | apply Kd.R_alloc | apply Kd.R_drewN | apply Kd.R_drew)); exact Kd.R_mono HO136.out (fun _ hk => ⟨hk.1.2, hk.2⟩)) hg hat)
                              have n1_ := Aside0.mk (Kd.R_after (ok := (fun k_ => some k_ ≠ (.slice Ao32 t134.length co32 : Value).ownBlock)) (by (with_reducible repeat (first | apply Kd.R_alloc | apply Kd.R_drewN | apply Kd.R_drew)); exact Kd.R_mono HO139.out (fun _ hk => ⟨hk.1.2, hk.2⟩)) hg hat)
                              have n2_ := Aside0.mk (hb)
                              have n3_ := Aside0.mk ((show Kd.C Kd.string w35 Ao32 y140.length y140 from by rw [Ny140.out]; exact Kd.C_take (m := (a1 : Int).toNat) ((Kd.R_reads' (Kd.R_after (ok := (fun k_ => some k_ ≠ (v138 : Value).ownBlock)) (by (with_reducible repeat (first | apply Kd.R_alloc | apply Kd.R_drewN | apply Kd.R_drew)); exact Kd.R_mono HO136.out (fun _ hk => ⟨hk.1.2, hk.2⟩)) hg hat)).2.2) KL31.out))
                              have n4_ := Aside0.mk ((show Kd.C Kd.string w35 A33 y147.length y147 from by rw [Ny147.out, KA33.out]; exact Kd.C_drop (m := ((ji20) : Int).toNat) (c := co32) ((Kd.R_reads' (Kd.R_after (ok := (fun k_ => some k_ ≠ (v138 : Value).ownBlock)) (by (with_reducible repeat (first | apply Kd.R_alloc | apply Kd.R_drewN | apply Kd.R_drew)); exact Kd.R_mono HO136.out (fun _ hk => ⟨hk.1.2, hk.2⟩)) hg hat)).2.2) KL33.out ((Kd.R_reads' (Kd.R_after (ok := (fun k_ => some k_ ≠ (v138 : Value).ownBlock)) (by (with_reducible repeat (first | apply Kd.R_alloc | apply Kd.R_drewN | apply Kd.R_drew)); exact Kd.R_mono HO136.out (fun _ hk => ⟨hk.1.2, hk.2⟩)) hg hat)).2.1)))
                              have n5_ := Aside0.mk (ho)
                              clear HO136
                              clear HO139
                              clear HB
                              clear HR143
                              clear HR150
                              clear HO146
                              have HO136 := n0_
                              have HO139 := n1_
                              have HB := n2_
                              have HR143 := n3_
                              have HR150 := n4_
                              have HO153 := n5_
                              clear n0_ n1_ n2_ n3_ n4_ n5_
                              clear ho hb hg hat
                              refine hK.out _ _ trivial (fun hHeld => ?_)
                              clear hK K
                              refine norm_ (a' := ?_) ?_ ?_
                              rotate_left
                              · show Act.put _ (some 60) _ = _
                                simp only [Act.put, List.setIfInBounds_toArray, List.set_cons_zero, List.set_cons_succ, i64_w, i32_w]
                                rfl
                              refine pure_ (i := 9) (N := some 12) (v := ?_) (a' := ?_) #[true, true, true, true, true, true, true, true, true, true] rfl rfl (any_of HT_.out (by kernel_rfl)) (fun _ _ _ h => h) (Or.inl ⟨by rfl, ?_⟩) ?_ ?_
                              rotate_left
                              · intro w'
                                go_simp
                                with_reducible rfl
                              rotate_left
                              · simp only [Act.put, List.setIfInBounds_toArray, List.set_cons_zero, List.set_cons_succ, i64_w, i32_w]
                                rfl
                              refine done_ (done_of HT_.out (by kernel_rfl)) ?_
                              obtain ⟨Ao36, co36, eo36⟩ := Kd.R_slice HO153.out
                              subst eo36
                              go_upto_if 63 with (fail)
                              go_cut [12] (fun v12 wc => ∃ (kq : Nat) (x12_23 : List ByteArray), Aside0 (bureaulaw06_LineCuts.j0 kq t137 x12_23 = some r) ∧ Aside0 (kq ≤ k) ∧ Aside0 (Kd.R Kd.string 9 wc w.heap.size (fun k_ => some k_ ≠ (v12 : Value).ownBlock) v138 t137) ∧ Aside0 (Kd.R Kd.string 9 wc w.heap.size (fun k_ => some k_ ≠ (v138 : Value).ownBlock) v12 x12_23) ∧ Aside0 True ∧ Aside0 True ∧ Aside0 (Below w.heap.size w wc))
                              case first =>
                                have H := HC24.out
                                clear HC24
                                by_cases c37 : (y151.length : Int) = 0
                                · rw [if_pos c37] at H
                                  have c37b0 : ((y151.length : Int) == 0) = true := beq_iff_eq.mpr c37
                                  have c37b1 : ((y151.length : Int) != 0) = false := bne_eq_false_iff_eq.mpr c37
                                  clear c37
                                  (first | rw [c37b0] | (simp only [i64_w, i32_w]; rw [c37b0]) | skip)
                                  obtain ⟨y154, hy154⟩ : ∃ y_ : List ByteArray, y_ = (([(⟨#[]⟩ : ByteArray)] : List ByteArray)) := ⟨_, rfl⟩
                                  replace H : (bureaulaw06_LineCuts.j0 k t137 y154) = some r := by first | (rw [hy154]; with_reducible exact H) | (have H2_ := (Option.bind_some _ _).symm.trans H; rw [hy154]; with_reducible exact H2_) | (have H2_ := (Option.bind_some _ _).symm.trans H; with_reducible exact H2_) | with_reducible exact H | (rw [hy154]; exact H) | exact H
                                  have Ny154 := Aside0.mk hy154
                                  clear hy154
                                  have H' := Aside0.mk H
                                  clear H
                                  go_wp2_with (first | ((with_reducible refine gate_dst (N := 64) rfl ?_); refine Kd.R_lit Kd.string _ 9 ?hg (N := 64) ?hd (xs := ([(⟨#[]⟩ : ByteArray)] : List ByteArray)) (inner := [.string (⟨#[]⟩ : ByteArray)]) (ok := fun _ => True) (okp := fun _ => True) ?hr ?hp (fun _ hk => hk) trivial (Below.refl _ _) (Nat.le_refl _) (by simp) ?_; (case hd => rfl); (case hg => rfl); (case hr => first | (go_simp; done) | (go_simp; rfl)); (case hp => exact (Reps.one (show Kd.M Kd.string _ _ _ (⟨#[]⟩ : ByteArray) [.string (⟨#[]⟩ : ByteArray)] from rfl) (Reps.none _ _))); intro v155 w38 ho39 hb hg_ hnew_; clear hg_ hnew_; (first | rw [← Ny154.out] at ho39 | (simp only [Int.reduceToNat] at ho39; rw [← Ny154.out] at ho39)); have n0_ := Aside0.mk (Kd.R_elder' (by (with_reducible repeat (first | apply Kd.R_alloc | apply Kd.R_drewN | apply Kd.R_drew)); exact HO136.out) (Kd.R_base ho39) hb); have n1_ := Aside0.mk (Kd.R_elder' (by (with_reducible repeat (first | apply Kd.R_alloc | apply Kd.R_drewN | apply Kd.R_drew)); exact HO139.out) (Kd.R_base ho39) hb); have n2_ := Aside0.mk (Kd.R_elder' (by (with_reducible repeat (first | apply Kd.R_alloc | apply Kd.R_drewN | apply Kd.R_drew)); exact HO153.out) (Kd.R_base ho39) hb); have n3_ := Aside0.mk (Kd.R_lower (Kd.R_new' (Kd.R_new' (Kd.R_new' ho39 (Kd.R_lt (by (with_reducible repeat (first | apply Kd.R_alloc | apply Kd.R_drewN | apply Kd.R_drew)); exact HO136.out))) (Kd.R_lt (by (with_reducible repeat (first | apply Kd.R_alloc | apply Kd.R_drewN | apply Kd.R_drew)); exact HO139.out))) (Kd.R_lt (by (with_reducible repeat (first | apply Kd.R_alloc | apply Kd.R_drewN | apply Kd.R_drew)); exact HO153.out))) (below_size (by repeat (first | (with_reducible first | exact HB.out | apply below_alloc | apply pw_below_drewN | apply below_drew1) | exact HB.out)))); have n4_ := Aside0.mk (Kd.C_below (by repeat (first | (with_reducible exact HR143.out) | (with_reducible refine Kd.C_alloc ?_ _) | (with_reducible refine Kd.C_drewN ?_ _) | (with_reducible refine Kd.C_drew ?_) | exact HR143.out)) hb); have n5_ := Aside0.mk (Kd.C_below (by repeat (first | (with_reducible exact HR150.out) | (with_reducible refine Kd.C_alloc ?_ _) | (with_reducible refine Kd.C_drewN ?_ _) | (with_reducible refine Kd.C_drew ?_) | exact HR150.out)) hb); have n6_ := Aside0.mk (below_step (by repeat (first | (with_reducible first | exact HB.out | apply below_alloc | apply pw_below_drewN | apply below_drew1) | exact HB.out)) hb); clear HO136; clear HO139; clear HO153; clear HR143; clear HR150; clear HB; have HO136 := n0_; have HO139 := n1_; have HO153 := n2_; have HO156 := n3_; have HR143 := n4_; have HR150 := n5_; have HB := n6_; clear n0_ n1_ n2_ n3_ n4_ n5_ n6_; clear hb ho39))
                                  go_meet
                                  case rel => exact ⟨_, (y154), H', ⟨by first | omega | exact Nat.le_refl _⟩, ⟨by (with_reducible repeat (first | apply Kd.R_alloc | apply Kd.R_drewN | apply Kd.R_drew)); exact Kd.R_mono HO139.out (fun _ hk => hk.2)⟩, ⟨by (with_reducible repeat (first | apply Kd.R_alloc | apply Kd.R_drewN | apply Kd.R_drew)); exact Kd.R_mono HO156.out (fun _ hk => hk.1.2)⟩, ⟨True.intro⟩, ⟨True.intro⟩, ⟨by repeat (first | (with_reducible first | exact HB.out | apply below_alloc | apply pw_below_drewN | apply below_drew1) | exact HB.out)⟩⟩
                                · rw [if_neg c37] at H
                                  have c37b0 : ((y151.length : Int) == 0) = false := beq_eq_false_iff_ne.mpr c37
                                  have c37b1 : ((y151.length : Int) != 0) = true := bne_iff_ne.mpr c37
                                  have c37b2 : ¬ (y151 = []) := fun h_ => c37 (by rw [h_]; rfl)
                                  (first | rw [c37b0] | (simp only [i64_w, i32_w]; rw [c37b0]) | skip)
                                  have H' := Aside0.mk H
                                  clear H
                                  go_wp2
                                  go_meet
                                  case rel => exact ⟨_, (y151), H', ⟨by first | omega | exact Nat.le_refl _⟩, ⟨by (with_reducible repeat (first | apply Kd.R_alloc | apply Kd.R_drewN | apply Kd.R_drew)); exact Kd.R_mono HO139.out (fun _ hk => hk.2)⟩, ⟨by (with_reducible repeat (first | apply Kd.R_alloc | apply Kd.R_drewN | apply Kd.R_drew)); exact Kd.R_mono HO153.out (fun _ hk => hk.2)⟩, ⟨True.intro⟩, ⟨True.intro⟩, ⟨by repeat (first | (with_reducible first | exact HB.out | apply below_alloc | apply pw_below_drewN | apply below_drew1) | exact HB.out)⟩⟩
                              case rest =>
                                clear HC24
                                try clear c1
                                try clear c2
                                try clear p2
                                try clear c3
                                try clear q3
                                try clear c5
                                try clear c6
                                try clear c6b0
                                try clear c6b1
                                try clear p6
                                try clear c9
                                try clear c9b0
                                try clear c9b1
                                try clear c11
                                try clear c11b0
                                try clear c11b1
                                try clear c12
                                try clear c12b0
                                try clear c12b1
                                try clear c13
                                try clear c13b0
                                try clear c13b1
                                try clear c14
                                try clear c14b0
                                try clear c14b1
                                try clear c15
                                try clear c15b0
                                try clear c15b1
                                try clear c15b2
                                try clear c17
                                try clear c17b0
                                try clear c17b1
                                try clear c18
                                try clear c18b0
                                try clear c18b1
                                try clear c19
                                try clear c21
                                try clear c21b0
                                try clear c21b1
                                try clear c22
                                try clear c22b0
                                try clear c22b1
                                try clear c23
                                try clear q31
                                try clear c33
                                try clear q33
                                try clear c37
                                try clear c37b0
                                try clear c37b1
                                try clear c37b2
                                try clear q033
                                try clear q31
                                try clear q33
                                obtain ⟨kq, x12_23, HA, HJ23, HO_11, HO_12, HR143, HR150, HB⟩ := hcut
                                cases kq with
                                | zero => exact absurd HA.out (by simp [bureaulaw06_LineCuts.j0])
                                | succ kj23 =>
                                  have H := HA.out
                                  clear HA
                                  simp only [bureaulaw06_LineCuts.j0] at H
                                  by_cases c40 : (x12_23.length : Int) = (t137.length : Int)
                                  · rw [if_pos c40] at H
                                    have c40b0 : ((x12_23.length : Int) == (t137.length : Int)) = true := beq_iff_eq.mpr c40
                                    have c40b1 : ((x12_23.length : Int) != (t137.length : Int)) = false := bne_eq_false_iff_eq.mpr c40
                                    have c40b2 : (x12_23.length == t137.length) = true := by first | simpa using c40 | (simp at c40 ⊢; omega)
                                    clear c40
                                    have H' := Aside0.mk H
                                    clear H
                                    obtain ⟨Ao41, co41, eo41⟩ := Kd.R_slice HO_12.out
                                    subst eo41
                                    obtain ⟨Ao42, co42, eo42⟩ := Kd.R_slice HO_11.out
                                    subst eo42
                                    go_wp2
                                    go_loopg [72] kj23 (fun kq v72 w' => ∃ (x72_2 : Int), v72 = .int .i64 x72_2 ∧ Aside0 (bureaulaw06_LineCuts.l0 kq t137 x12_23 (x12_23.length : Int) x72_2 = some r) ∧ Aside0 (kq ≤ kj23) ∧ Aside0 (Kd.R Kd.string 9 w' w.heap.size (fun k_ => some k_ ≠ ((.slice Ao41 x12_23.length co41) : Value).ownBlock) (.slice Ao42 t137.length co42) t137) ∧ Aside0 (Kd.R Kd.string 9 w' w.heap.size (fun k_ => some k_ ≠ ((.slice Ao42 t137.length co42) : Value).ownBlock) (.slice Ao41 x12_23.length co41) x12_23) ∧ Aside0 True ∧ Aside0 True ∧ Aside0 (Below w.heap.size w w'))
                                    case atStart => exact ⟨(0), (by first | rfl | (simp; done) | (simp [*]; done)), H', ⟨Nat.le_refl _⟩, ⟨by (with_reducible repeat (first | apply Kd.R_alloc | apply Kd.R_drewN | apply Kd.R_drew)); exact HO_11.out⟩, ⟨by (with_reducible repeat (first | apply Kd.R_alloc | apply Kd.R_drewN | apply Kd.R_drew)); exact HO_12.out⟩, ⟨True.intro⟩, ⟨True.intro⟩, ⟨by repeat (first | (with_reducible first | exact HB.out | apply below_alloc | apply pw_below_drewN | apply below_drew1) | exact HB.out)⟩⟩
                                    case round =>
                                      clear H'
                                      try clear c1
                                      try clear c2
                                      try clear p2
                                      try clear c3
                                      try clear q3
                                      try clear c4
                                      try clear c5
                                      try clear c6
                                      try clear c6b0
                                      try clear c6b1
                                      try clear p6
                                      try clear c9
                                      try clear c9b0
                                      try clear c9b1
                                      try clear c11
                                      try clear c11b0
                                      try clear c11b1
                                      try clear c12
                                      try clear c12b0
                                      try clear c12b1
                                      try clear c13
                                      try clear c13b0
                                      try clear c13b1
                                      try clear c14
                                      try clear c14b0
                                      try clear c14b1
                                      try clear c15
                                      try clear c15b0
                                      try clear c15b1
                                      try clear c15b2
                                      try clear c17
                                      try clear c17b0
                                      try clear c17b1
                                      try clear c18
                                      try clear c18b0
                                      try clear c18b1
                                      try clear c19
                                      try clear c21
                                      try clear c21b0
                                      try clear c21b1
                                      try clear c22
                                      try clear c22b0
                                      try clear c22b1
                                      try clear c23
                                      try clear q31
                                      try clear c33
                                      try clear q33
                                      try clear c37
                                      try clear c37b0
                                      try clear c37b1
                                      try clear c37b2
                                      try clear c40
                                      try clear c40b0
                                      try clear c40b1
                                      try clear c40b2
                                      try clear p2
                                      try clear p6
                                      try clear q033
                                      try clear q3
                                      try clear q31
                                      try clear q33
                                      obtain ⟨x72_2, rfl, HA, HK2, HO_11, HO_12, HR143, HR150, HB⟩ := hrel
                                      cases gk with
                                      | zero => exact absurd HA.out (by simp [bureaulaw06_LineCuts.l0])
                                      | succ k2 =>
                                        have H := HA.out
                                        clear HA
                                        simp only [bureaulaw06_LineCuts.l0] at H
                                        by_cases c43 : x72_2 < (x12_23.length : Int)
                                        · rw [if_pos c43] at H
                                          have c43b0 : decide (x72_2 < (x12_23.length : Int)) = true := decide_eq_true c43
                                          clear c43
                                          by_cases c44 : 0 ≤ x72_2
                                          · rw [if_pos c44] at H
                                            have c44b0 : decide (0 ≤ x72_2) = true := decide_eq_true c44
                                            clear c44
                                            by_cases c45 : x72_2 < (x12_23.length : Int)
                                            · rw [if_pos c45] at H
                                              have c45b0 : decide (x72_2 < (x12_23.length : Int)) = true := decide_eq_true c45
                                              clear c45
                                              by_cases c46 : x72_2 < (t137.length : Int)
                                              · rw [if_pos c46] at H
                                                have c46b0 : decide (x72_2 < (t137.length : Int)) = true := decide_eq_true c46
                                                clear c46
                                                by_cases c47 : (rdOf ByteArray.empty x12_23 x72_2).toList = (rdOf ByteArray.empty t137 x72_2).toList
                                                · rw [if_pos c47] at H
                                                  have c47b0 : ((rdOf ByteArray.empty x12_23 x72_2).toList == (rdOf ByteArray.empty t137 x72_2).toList) = true := beq_iff_eq.mpr c47
                                                  have c47b1 : ((rdOf ByteArray.empty x12_23 x72_2).toList != (rdOf ByteArray.empty t137 x72_2).toList) = false := bne_eq_false_iff_eq.mpr c47
                                                  clear c47
                                                  have H' := Aside0.mk H
                                                  clear H
                                                  try go_wp2
                                                  have n0_ := Aside0.mk (Kd.R_drew HO_11.out)
                                                  have n1_ := Aside0.mk (Kd.R_drew HO_12.out)
                                                  have n2_ := Aside0.mk True.intro
                                                  have n3_ := Aside0.mk True.intro
                                                  have n4_ := Aside0.mk (below_drew1 HB.out)
                                                  clear HO_11
                                                  clear HO_12
                                                  clear HR143
                                                  clear HR150
                                                  clear HB
                                                  have HO_11 := n0_
                                                  have HO_12 := n1_
                                                  have HR143 := n2_
                                                  have HR150 := n3_
                                                  have HB := n4_
                                                  clear n0_ n1_ n2_ n3_ n4_
                                                  have p157 : 0 ≤ (x72_2 : Int) := of_decide_eq_true (by first | (with_reducible assumption) | assumption)
                                                  have q157 : x72_2 < (x12_23.length : Int) := of_decide_eq_true (by first | (with_reducible assumption) | assumption)
                                                  obtain ⟨ad157, e157, hx157_0⟩ := Kd.at_string (Kd.R_reads' HO_12.out).2.2 x72_2 p157 q157
                                                  cases e157
                                                  replace p157 := eq_true p157
                                                  replace q157 := eq_true q157
                                                  have p158 : 0 ≤ (x72_2 : Int) := of_decide_eq_true (by first | (with_reducible assumption) | assumption)
                                                  have q158 : x72_2 < (t137.length : Int) := of_decide_eq_true (by first | (with_reducible assumption) | assumption)
                                                  obtain ⟨ad158, e158, hx158_0⟩ := Kd.at_string (Kd.R_reads' HO_11.out).2.2 x72_2 p158 q158
                                                  cases e158
                                                  replace p158 := eq_true p158
                                                  replace q158 := eq_true q158
                                                  refine start_ (n := 9) (S := fun w' => w'.cell? (ad157.add (x72_2).toNat) = some (.string (rdOf ByteArray.empty x12_23 x72_2)) ∧ w'.cell? (ad158.add (x72_2).toNat) = some (.string (rdOf ByteArray.empty t137 x72_2))) (ds := []) #[false, false, false, false, false, false, false, false, false] (by kernel_rfl) rfl rfl ⟨hx157_0, hx158_0⟩ (fun hHeld => ?_); refine with_tabW bureaulaw06_LineCuts.tab17 bureaulaw06_LineCuts.bits17 (fun HT_ HW_ => ?_)
                                                  generalize wr.drew = w48 at HO_11 HO_12 HR143 HR150 HB hx157_0 hx158_0 hHeld ⊢
                                                  refine pure_ (i := 0) (N := some 75) (v := ?_) (a' := ?_) #[true, false, false, false, false, false, false, false, false] rfl rfl (any_of HT_.out (by kernel_rfl)) (fun _ _ _ h => h) (Or.inl ⟨by rfl, ?_⟩) ?_ ?_
                                                  rotate_left
                                                  · intro w'
                                                    go_simp
                                                    with_reducible rfl
                                                  rotate_left
                                                  · simp only [Act.put, List.setIfInBounds_toArray, List.set_cons_zero, List.set_cons_succ, i64_w, i32_w]
                                                    rfl
                                                  refine pure_ (i := 1) (N := some 76) (v := ?_) (a' := ?_) #[true, true, false, false, false, false, false, false, false] rfl rfl (any_of HT_.out (by kernel_rfl)) (fun _ _ _ h => h) (Or.inl ⟨by rfl, ?_⟩) ?_ ?_
                                                  rotate_left
                                                  · intro w'
                                                    go_simp
                                                    with_reducible rfl
                                                  rotate_left
                                                  · simp only [Act.put, List.setIfInBounds_toArray, List.set_cons_zero, List.set_cons_succ, i64_w, i32_w]
                                                    rfl
                                                  refine pure_ (i := 2) (N := some 77) (v := ?_) (a' := ?_) #[true, true, true, false, false, false, false, false, false] rfl rfl (any_of HT_.out (by kernel_rfl)) (fun _ _ _ h => h) (Or.inl ⟨by rfl, ?_⟩) ?_ ?_
                                                  rotate_left
                                                  · intro w'
                                                    go_simp
                                                    with_reducible rfl
                                                  rotate_left
                                                  · simp only [Act.put, List.setIfInBounds_toArray, List.set_cons_zero, List.set_cons_succ, i64_w, i32_w]
                                                    rfl
                                                  refine pure_ (i := 4) (N := some 79) (v := ?_) (a' := ?_) #[true, true, true, false, true, false, false, false, false] rfl rfl (any_of HT_.out (by kernel_rfl)) (fun _ _ _ h => h) (Or.inl ⟨by rfl, ?_⟩) ?_ ?_
                                                  rotate_left
                                                  · intro w'
                                                    go_simp
                                                    with_reducible rfl
                                                  rotate_left
                                                  · simp only [Act.put, List.setIfInBounds_toArray, List.set_cons_zero, List.set_cons_succ, i64_w, i32_w]
                                                    rfl
                                                  refine pure_ (i := 5) (N := some 80) (v := ?_) (a' := ?_) #[true, true, true, false, true, true, false, false, false] rfl rfl (any_of HT_.out (by kernel_rfl)) (fun _ _ _ h => h) (Or.inl ⟨by rfl, ?_⟩) ?_ ?_
                                                  rotate_left
                                                  · intro w'
                                                    go_simp
                                                    with_reducible rfl
                                                  rotate_left
                                                  · simp only [Act.put, List.setIfInBounds_toArray, List.set_cons_zero, List.set_cons_succ, i64_w, i32_w]
                                                    rfl
                                                  refine pure_ (i := 6) (N := some 81) (v := ?_) (a' := ?_) #[true, true, true, false, true, true, true, false, false] rfl rfl (any_of HT_.out (by kernel_rfl)) (fun _ _ _ h => h) (Or.inl ⟨by rfl, ?_⟩) ?_ ?_
                                                  rotate_left
                                                  · intro w'
                                                    go_simp
                                                    with_reducible rfl
                                                  rotate_left
                                                  · simp only [Act.put, List.setIfInBounds_toArray, List.set_cons_zero, List.set_cons_succ, i64_w, i32_w]
                                                    rfl
                                                  refine take_ (i := 3) (N := some 78) (v := ?_) (a' := ?_) #[true, true, true, true, true, true, true, false, false] rfl rfl (take_ofW HT_.out HW_.out (by kernel_rfl)) (fun _ _ _ h => h) (Or.inl ⟨by rfl, ?_⟩) hHeld ?_ ?_
                                                  rotate_left
                                                  · rintro w' ⟨s0, s1⟩
                                                    go_simp
                                                    with_reducible rfl
                                                  rotate_left
                                                  · simp only [Act.put, List.setIfInBounds_toArray, List.set_cons_zero, List.set_cons_succ, i64_w, i32_w]
                                                    rfl
                                                  refine take_ (i := 7) (N := some 82) (v := ?_) (a' := ?_) #[true, true, true, true, true, true, true, true, false] rfl rfl (take_ofW HT_.out HW_.out (by kernel_rfl)) (fun _ _ _ h => h) (Or.inl ⟨by rfl, ?_⟩) hHeld ?_ ?_
                                                  rotate_left
                                                  · rintro w' ⟨s0, s1⟩
                                                    go_simp
                                                    with_reducible rfl
                                                  rotate_left
                                                  · simp only [Act.put, List.setIfInBounds_toArray, List.set_cons_zero, List.set_cons_succ, i64_w, i32_w]
                                                    rfl
                                                  refine pure_ (i := 8) (N := some 83) (v := ?_) (a' := ?_) #[true, true, true, true, true, true, true, true, true] rfl rfl (any_of HT_.out (by kernel_rfl)) (fun _ _ _ h => h) (Or.inl ⟨by rfl, ?_⟩) ?_ ?_
                                                  rotate_left
                                                  · intro w'
                                                    go_simp
                                                    with_reducible rfl
                                                  rotate_left
                                                  · simp only [Act.put, List.setIfInBounds_toArray, List.set_cons_zero, List.set_cons_succ, i64_w, i32_w]
                                                    rfl
                                                  refine done_ (done_of HT_.out (by kernel_rfl)) ?_
                                                  try go_wp2
                                                  go_roundg k2
                                                  case measure => have := HJ23.out; have := HK2.out; omega
                                                  case rel => exact ⟨(wrap64 (x72_2 + 1)), (by first | rfl | (simp; done) | (simp [*]; done)), H', ⟨by have := HJ23.out; have := HK2.out; omega⟩, ⟨by (with_reducible repeat (first | apply Kd.R_alloc | apply Kd.R_drewN | apply Kd.R_drew)); exact HO_11.out⟩, ⟨by (with_reducible repeat (first | apply Kd.R_alloc | apply Kd.R_drewN | apply Kd.R_drew)); exact HO_12.out⟩, ⟨True.intro⟩, ⟨True.intro⟩, ⟨by repeat (first | (with_reducible first | exact HB.out | apply below_alloc | apply pw_below_drewN | apply below_drew1) | exact HB.out)⟩⟩
                                                · rw [if_neg c47] at H
                                                  have c47b0 : ((rdOf ByteArray.empty x12_23 x72_2).toList == (rdOf ByteArray.empty t137 x72_2).toList) = false := beq_eq_false_iff_ne.mpr c47
                                                  have c47b1 : ((rdOf ByteArray.empty x12_23 x72_2).toList != (rdOf ByteArray.empty t137 x72_2).toList) = true := bne_iff_ne.mpr c47
                                                  obtain rfl := Option.some.inj H
                                                  try go_wp2
                                                  have n0_ := Aside0.mk (Kd.R_drew HO_11.out)
                                                  have n1_ := Aside0.mk (Kd.R_drew HO_12.out)
                                                  have n2_ := Aside0.mk True.intro
                                                  have n3_ := Aside0.mk True.intro
                                                  have n4_ := Aside0.mk (below_drew1 HB.out)
                                                  clear HO_11
                                                  clear HO_12
                                                  clear HR143
                                                  clear HR150
                                                  clear HB
                                                  have HO_11 := n0_
                                                  have HO_12 := n1_
                                                  have HR143 := n2_
                                                  have HR150 := n3_
                                                  have HB := n4_
                                                  clear n0_ n1_ n2_ n3_ n4_
                                                  have p157 : 0 ≤ (x72_2 : Int) := of_decide_eq_true (by first | (with_reducible assumption) | assumption)
                                                  have q157 : x72_2 < (x12_23.length : Int) := of_decide_eq_true (by first | (with_reducible assumption) | assumption)
                                                  obtain ⟨ad157, e157, hx157_0⟩ := Kd.at_string (Kd.R_reads' HO_12.out).2.2 x72_2 p157 q157
                                                  cases e157
                                                  replace p157 := eq_true p157
                                                  replace q157 := eq_true q157
                                                  have p158 : 0 ≤ (x72_2 : Int) := of_decide_eq_true (by first | (with_reducible assumption) | assumption)
                                                  have q158 : x72_2 < (t137.length : Int) := of_decide_eq_true (by first | (with_reducible assumption) | assumption)
                                                  obtain ⟨ad158, e158, hx158_0⟩ := Kd.at_string (Kd.R_reads' HO_11.out).2.2 x72_2 p158 q158
                                                  cases e158
                                                  replace p158 := eq_true p158
                                                  replace q158 := eq_true q158
                                                  refine start_ (n := 9) (S := fun w' => w'.cell? (ad157.add (x72_2).toNat) = some (.string (rdOf ByteArray.empty x12_23 x72_2)) ∧ w'.cell? (ad158.add (x72_2).toNat) = some (.string (rdOf ByteArray.empty t137 x72_2))) (ds := []) #[false, false, false, false, false, false, false, false, false] (by kernel_rfl) rfl rfl ⟨hx157_0, hx158_0⟩ (fun hHeld => ?_); refine with_tabW bureaulaw06_LineCuts.tab17 bureaulaw06_LineCuts.bits17 (fun HT_ HW_ => ?_)
                                                  generalize wr.drew = w49 at HO_11 HO_12 HR143 HR150 HB hx157_0 hx158_0 hHeld ⊢
                                                  refine pure_ (i := 0) (N := some 75) (v := ?_) (a' := ?_) #[true, false, false, false, false, false, false, false, false] rfl rfl (any_of HT_.out (by kernel_rfl)) (fun _ _ _ h => h) (Or.inl ⟨by rfl, ?_⟩) ?_ ?_
                                                  rotate_left
                                                  · intro w'
                                                    go_simp
                                                    with_reducible rfl
                                                  rotate_left
                                                  · simp only [Act.put, List.setIfInBounds_toArray, List.set_cons_zero, List.set_cons_succ, i64_w, i32_w]
                                                    rfl
                                                  refine pure_ (i := 1) (N := some 76) (v := ?_) (a' := ?_) #[true, true, false, false, false, false, false, false, false] rfl rfl (any_of HT_.out (by kernel_rfl)) (fun _ _ _ h => h) (Or.inl ⟨by rfl, ?_⟩) ?_ ?_
                                                  rotate_left
                                                  · intro w'
                                                    go_simp
                                                    with_reducible rfl
                                                  rotate_left
                                                  · simp only [Act.put, List.setIfInBounds_toArray, List.set_cons_zero, List.set_cons_succ, i64_w, i32_w]
                                                    rfl
                                                  refine pure_ (i := 2) (N := some 77) (v := ?_) (a' := ?_) #[true, true, true, false, false, false, false, false, false] rfl rfl (any_of HT_.out (by kernel_rfl)) (fun _ _ _ h => h) (Or.inl ⟨by rfl, ?_⟩) ?_ ?_
                                                  rotate_left
                                                  · intro w'
                                                    go_simp
                                                    with_reducible rfl
                                                  rotate_left
                                                  · simp only [Act.put, List.setIfInBounds_toArray, List.set_cons_zero, List.set_cons_succ, i64_w, i32_w]
                                                    rfl
                                                  refine pure_ (i := 4) (N := some 79) (v := ?_) (a' := ?_) #[true, true, true, false, true, false, false, false, false] rfl rfl (any_of HT_.out (by kernel_rfl)) (fun _ _ _ h => h) (Or.inl ⟨by rfl, ?_⟩) ?_ ?_
                                                  rotate_left
                                                  · intro w'
                                                    go_simp
                                                    with_reducible rfl
                                                  rotate_left
                                                  · simp only [Act.put, List.setIfInBounds_toArray, List.set_cons_zero, List.set_cons_succ, i64_w, i32_w]
                                                    rfl
                                                  refine pure_ (i := 5) (N := some 80) (v := ?_) (a' := ?_) #[true, true, true, false, true, true, false, false, false] rfl rfl (any_of HT_.out (by kernel_rfl)) (fun _ _ _ h => h) (Or.inl ⟨by rfl, ?_⟩) ?_ ?_
                                                  rotate_left
                                                  · intro w'
                                                    go_simp
                                                    with_reducible rfl
                                                  rotate_left
                                                  · simp only [Act.put, List.setIfInBounds_toArray, List.set_cons_zero, List.set_cons_succ, i64_w, i32_w]
                                                    rfl
                                                  refine pure_ (i := 6) (N := some 81) (v := ?_) (a' := ?_) #[true, true, true, false, true, true, true, false, false] rfl rfl (any_of HT_.out (by kernel_rfl)) (fun _ _ _ h => h) (Or.inl ⟨by rfl, ?_⟩) ?_ ?_
                                                  rotate_left
                                                  · intro w'
                                                    go_simp
                                                    with_reducible rfl
                                                  rotate_left
                                                  · simp only [Act.put, List.setIfInBounds_toArray, List.set_cons_zero, List.set_cons_succ, i64_w, i32_w]
                                                    rfl
                                                  refine take_ (i := 3) (N := some 78) (v := ?_) (a' := ?_) #[true, true, true, true, true, true, true, false, false] rfl rfl (take_ofW HT_.out HW_.out (by kernel_rfl)) (fun _ _ _ h => h) (Or.inl ⟨by rfl, ?_⟩) hHeld ?_ ?_
                                                  rotate_left
                                                  · rintro w' ⟨s0, s1⟩
                                                    go_simp
                                                    with_reducible rfl
                                                  rotate_left
                                                  · simp only [Act.put, List.setIfInBounds_toArray, List.set_cons_zero, List.set_cons_succ, i64_w, i32_w]
                                                    rfl
                                                  refine take_ (i := 7) (N := some 82) (v := ?_) (a' := ?_) #[true, true, true, true, true, true, true, true, false] rfl rfl (take_ofW HT_.out HW_.out (by kernel_rfl)) (fun _ _ _ h => h) (Or.inl ⟨by rfl, ?_⟩) hHeld ?_ ?_
                                                  rotate_left
                                                  · rintro w' ⟨s0, s1⟩
                                                    go_simp
                                                    with_reducible rfl
                                                  rotate_left
                                                  · simp only [Act.put, List.setIfInBounds_toArray, List.set_cons_zero, List.set_cons_succ, i64_w, i32_w]
                                                    rfl
                                                  refine pure_ (i := 8) (N := some 83) (v := ?_) (a' := ?_) #[true, true, true, true, true, true, true, true, true] rfl rfl (any_of HT_.out (by kernel_rfl)) (fun _ _ _ h => h) (Or.inl ⟨by rfl, ?_⟩) ?_ ?_
                                                  rotate_left
                                                  · intro w'
                                                    go_simp
                                                    with_reducible rfl
                                                  rotate_left
                                                  · simp only [Act.put, List.setIfInBounds_toArray, List.set_cons_zero, List.set_cons_succ, i64_w, i32_w]
                                                    rfl
                                                  refine done_ (done_of HT_.out (by kernel_rfl)) ?_
                                                  try go_wp2
                                                  go_ret
                                                  exact ⟨by first | rfl | (simp [errW_none, errW_some] <;> rfl) | (simp only [← hji20]; first | rfl | (simp [errW_none, errW_some] <;> rfl)) | (simp [*, errW_none, errW_some] <;> rfl), by repeat (first | (with_reducible first | exact HB.out | apply below_alloc | apply pw_below_drewN | apply below_drew1) | exact HB.out)⟩
                                              · rw [if_neg c46] at H
                                                exact absurd H (by simp)
                                            · rw [if_neg c45] at H
                                              exact absurd H (by simp)
                                          · rw [if_neg c44] at H
                                            exact absurd H (by simp)
                                        · rw [if_neg c43] at H
                                          have c43b0 : decide (x72_2 < (x12_23.length : Int)) = false := decide_eq_false c43
                                          clear c43
                                          obtain rfl := Option.some.inj H
                                          go_wp2
                                          go_ret
                                          exact ⟨by first | rfl | (simp [errW_none, errW_some] <;> rfl) | (simp only [← hji20]; first | rfl | (simp [errW_none, errW_some] <;> rfl)) | (simp [*, errW_none, errW_some] <;> rfl), by repeat (first | (with_reducible first | exact HB.out | apply below_alloc | apply pw_below_drewN | apply below_drew1) | exact HB.out)⟩
                                  · rw [if_neg c40] at H
                                    have c40b0 : ((x12_23.length : Int) == (t137.length : Int)) = false := beq_eq_false_iff_ne.mpr c40
                                    have c40b1 : ((x12_23.length : Int) != (t137.length : Int)) = true := bne_iff_ne.mpr c40
                                    have c40b2 : (x12_23.length == t137.length) = false := by first | simpa using c40 | (simp at c40 ⊢; omega)
                                    obtain rfl := Option.some.inj H
                                    obtain ⟨Ao50, co50, eo50⟩ := Kd.R_slice HO_12.out
                                    subst eo50
                                    obtain ⟨Ao51, co51, eo51⟩ := Kd.R_slice HO_11.out
                                    subst eo51
                                    go_wp2
                                    go_ret
                                    exact ⟨by first | rfl | (simp [errW_none, errW_some] <;> rfl) | (simp only [← hji20]; first | rfl | (simp [errW_none, errW_some] <;> rfl)) | (simp [*, errW_none, errW_some] <;> rfl), by repeat (first | (with_reducible first | exact HB.out | apply below_alloc | apply pw_below_drewN | apply below_drew1) | exact HB.out)⟩
                            · rw [if_neg c23] at H
                              exact absurd H (by simp)
                          · rw [if_neg c22] at H
                            exact absurd H (by simp)
                        · rw [if_neg c21] at H
                          exact absurd H (by simp)
                      · rw [if_neg c19] at H
                        exact absurd H (by simp)
                    · rw [if_neg c18] at H
                      exact absurd H (by simp)
                  · rw [if_neg c17] at H
                    exact absurd H (by simp)
                · rw [if_neg c15] at H
                  exact absurd H (by simp)
              · rw [if_neg c14] at H
                exact absurd H (by simp)
            · rw [if_neg c13] at H
              exact absurd H (by simp)
          · rw [if_neg c12] at H
            exact absurd H (by simp)
        · rw [if_neg c11] at H
          exact absurd H (by simp)
      · rw [if_neg c9] at H
        have c9b0 : (t132 == 0) = false := beq_eq_false_iff_ne.mpr c9
        have c9b1 : (t132 != 0) = true := bne_iff_ne.mpr c9
        by_cases c52 : a1 < 0
        · rw [if_pos c52] at H
          have c52b0 : decide (a1 < 0) = true := decide_eq_true c52
          clear c52
          obtain rfl := Option.some.inj H
          go_enter Tryd.func5, Tryd.ntmps5
          go_wp2_with (first | ((with_reducible refine gate_callee (f := 9) rfl ?_); refine goesL_ (some 14) rfl rfl Tryd.func9 (by kernel_rfl) rfl #[] rfl (by (try simp only [List.map_toArray, List.map_cons, List.map_nil]); first | done | rfl | (simp only [List.length_drop, List.length_take]; rfl)) ?_; (with_reducible refine (bureaulaw06_alive.calls  true _ A4.out ?sideT).mono ?_); (case sideT => first | exact HTABS.out | exact HTABS.out.below (by repeat (first | (with_reducible first | exact HB.out | apply below_alloc | apply pw_below_drewN | apply below_drew1) | exact HB.out)) (Nat.le_refl _) | exact HTABS.out.below (Below.drew (Below.refl _ _)) (Nat.le_refl _)); rintro e w53 ⟨rfl, hb⟩; refine ⟨_, rfl, ?_⟩; have n0_ := Aside0.mk (below_step (by repeat (first | (with_reducible first | exact HB.out | apply below_alloc | apply pw_below_drewN | apply below_drew1) | exact HB.out)) hb); clear HB; have HB := n0_; clear n0_; (try clear hb); (try clear hb2); (try clear hk); (try clear hi)) | ((with_reducible refine gate_callee (f := 12) rfl ?_); refine goesL_ (some 23) rfl rfl Tryd.func12 (by kernel_rfl) rfl #[.string a0, .int .i64 a1, .int .i64 a2] rfl (by (try simp only [List.map_toArray, List.map_cons, List.map_nil]); first | done | rfl | (simp only [List.length_drop, List.length_take]; rfl)) ?_; (with_reducible refine (line_Whole.calls a0 a1 a2 t130 t131 t132 _ A8.out ?sideT).mono ?_); (case sideT => first | exact HTABS.out | exact HTABS.out.below (by repeat (first | (with_reducible first | exact HB.out | apply below_alloc | apply pw_below_drewN | apply below_drew1) | exact HB.out)) (Nat.le_refl _) | exact HTABS.out.below (Below.drew (Below.refl _ _)) (Nat.le_refl _)); rintro e w54 ⟨rfl, hb⟩; refine ⟨_, rfl, ?_⟩; have n0_ := Aside0.mk (below_step (by repeat (first | (with_reducible first | exact HB.out | apply below_alloc | apply pw_below_drewN | apply below_drew1) | exact HB.out)) hb); clear HB; have HB := n0_; clear n0_; (try clear hb); (try clear hb2); (try clear hk); (try clear hi)))
          go_ret
          exact ⟨by first | rfl | (simp [errW_none, errW_some] <;> rfl) | (simp [*, errW_none, errW_some] <;> rfl), by repeat (first | (with_reducible first | exact HB.out | apply below_alloc | apply pw_below_drewN | apply below_drew1) | exact HB.out)⟩
        · rw [if_neg c52] at H
          have c52b0 : decide (a1 < 0) = false := decide_eq_false c52
          clear c52
          by_cases c55 : a2 < a1
          · rw [if_pos c55] at H
            have c55b0 : decide (a2 < a1) = true := decide_eq_true c55
            clear c55
            obtain rfl := Option.some.inj H
            go_enter Tryd.func5, Tryd.ntmps5
            go_wp2_with (first | ((with_reducible refine gate_callee (f := 9) rfl ?_); refine goesL_ (some 14) rfl rfl Tryd.func9 (by kernel_rfl) rfl #[] rfl (by (try simp only [List.map_toArray, List.map_cons, List.map_nil]); first | done | rfl | (simp only [List.length_drop, List.length_take]; rfl)) ?_; (with_reducible refine (bureaulaw06_alive.calls  true _ A4.out ?sideT).mono ?_); (case sideT => first | exact HTABS.out | exact HTABS.out.below (by repeat (first | (with_reducible first | exact HB.out | apply below_alloc | apply pw_below_drewN | apply below_drew1) | exact HB.out)) (Nat.le_refl _) | exact HTABS.out.below (Below.drew (Below.refl _ _)) (Nat.le_refl _)); rintro e w56 ⟨rfl, hb⟩; refine ⟨_, rfl, ?_⟩; have n0_ := Aside0.mk (below_step (by repeat (first | (with_reducible first | exact HB.out | apply below_alloc | apply pw_below_drewN | apply below_drew1) | exact HB.out)) hb); clear HB; have HB := n0_; clear n0_; (try clear hb); (try clear hb2); (try clear hk); (try clear hi)) | ((with_reducible refine gate_callee (f := 12) rfl ?_); refine goesL_ (some 23) rfl rfl Tryd.func12 (by kernel_rfl) rfl #[.string a0, .int .i64 a1, .int .i64 a2] rfl (by (try simp only [List.map_toArray, List.map_cons, List.map_nil]); first | done | rfl | (simp only [List.length_drop, List.length_take]; rfl)) ?_; (with_reducible refine (line_Whole.calls a0 a1 a2 t130 t131 t132 _ A8.out ?sideT).mono ?_); (case sideT => first | exact HTABS.out | exact HTABS.out.below (by repeat (first | (with_reducible first | exact HB.out | apply below_alloc | apply pw_below_drewN | apply below_drew1) | exact HB.out)) (Nat.le_refl _) | exact HTABS.out.below (Below.drew (Below.refl _ _)) (Nat.le_refl _)); rintro e w57 ⟨rfl, hb⟩; refine ⟨_, rfl, ?_⟩; have n0_ := Aside0.mk (below_step (by repeat (first | (with_reducible first | exact HB.out | apply below_alloc | apply pw_below_drewN | apply below_drew1) | exact HB.out)) hb); clear HB; have HB := n0_; clear n0_; (try clear hb); (try clear hb2); (try clear hk); (try clear hi)))
            go_ret
            exact ⟨by first | rfl | (simp [errW_none, errW_some] <;> rfl) | (simp [*, errW_none, errW_some] <;> rfl), by repeat (first | (with_reducible first | exact HB.out | apply below_alloc | apply pw_below_drewN | apply below_drew1) | exact HB.out)⟩
          · rw [if_neg c55] at H
            have c55b0 : decide (a2 < a1) = false := decide_eq_false c55
            clear c55
            replace H := Option.bind_eq_some_iff.mp H
            obtain ⟨t133, A580, H⟩ := H
            replace H : (some (decide (a2 ≥ t133))) = some r := H
            have A58 := Aside0.mk A580
            clear A580
            obtain rfl := Option.some.inj H
            go_enter Tryd.func5, Tryd.ntmps5
            go_wp2_with (first | ((with_reducible refine gate_callee (f := 9) rfl ?_); refine goesL_ (some 14) rfl rfl Tryd.func9 (by kernel_rfl) rfl #[] rfl (by (try simp only [List.map_toArray, List.map_cons, List.map_nil]); first | done | rfl | (simp only [List.length_drop, List.length_take]; rfl)) ?_; (with_reducible refine (bureaulaw06_alive.calls  true _ A4.out ?sideT).mono ?_); (case sideT => first | exact HTABS.out | exact HTABS.out.below (by repeat (first | (with_reducible first | exact HB.out | apply below_alloc | apply pw_below_drewN | apply below_drew1) | exact HB.out)) (Nat.le_refl _) | exact HTABS.out.below (Below.drew (Below.refl _ _)) (Nat.le_refl _)); rintro e w59 ⟨rfl, hb⟩; refine ⟨_, rfl, ?_⟩; have n0_ := Aside0.mk (below_step (by repeat (first | (with_reducible first | exact HB.out | apply below_alloc | apply pw_below_drewN | apply below_drew1) | exact HB.out)) hb); clear HB; have HB := n0_; clear n0_; (try clear hb); (try clear hb2); (try clear hk); (try clear hi)) | ((with_reducible refine gate_callee (f := 12) rfl ?_); refine goesL_ (some 23) rfl rfl Tryd.func12 (by kernel_rfl) rfl #[.string a0, .int .i64 a1, .int .i64 a2] rfl (by (try simp only [List.map_toArray, List.map_cons, List.map_nil]); first | done | rfl | (simp only [List.length_drop, List.length_take]; rfl)) ?_; (with_reducible refine (line_Whole.calls a0 a1 a2 t130 t131 t132 _ A8.out ?sideT).mono ?_); (case sideT => first | exact HTABS.out | exact HTABS.out.below (by repeat (first | (with_reducible first | exact HB.out | apply below_alloc | apply pw_below_drewN | apply below_drew1) | exact HB.out)) (Nat.le_refl _) | exact HTABS.out.below (Below.drew (Below.refl _ _)) (Nat.le_refl _)); rintro e w60 ⟨rfl, hb⟩; refine ⟨_, rfl, ?_⟩; have n0_ := Aside0.mk (below_step (by repeat (first | (with_reducible first | exact HB.out | apply below_alloc | apply pw_below_drewN | apply below_drew1) | exact HB.out)) hb); clear HB; have HB := n0_; clear n0_; (try clear hb); (try clear hb2); (try clear hk); (try clear hi)) | (go_at_call 14; (with_reducible refine (line_Count.calls a0 t133 _ A58.out ?sideT).mono ?_); (case sideT => first | exact HTABS.out | exact HTABS.out.below (by repeat (first | (with_reducible first | exact HB.out | apply below_alloc | apply pw_below_drewN | apply below_drew1) | exact HB.out)) (Nat.le_refl _) | exact HTABS.out.below (Below.drew (Below.refl _ _)) (Nat.le_refl _)); rintro e w61 ⟨rfl, hb⟩; have n0_ := Aside0.mk (below_step (by repeat (first | (with_reducible first | exact HB.out | apply below_alloc | apply pw_below_drewN | apply below_drew1) | exact HB.out)) hb); clear HB; have HB := n0_; clear n0_; (try clear hb); (try clear hb2); (try clear hk); (try clear hi)))
            go_ret
            exact ⟨by first | rfl | (simp [errW_none, errW_some] <;> rfl) | (simp [*, errW_none, errW_some] <;> rfl), by repeat (first | (with_reducible first | exact HB.out | apply below_alloc | apply pw_below_drewN | apply below_drew1) | exact HB.out)⟩
  · replace c5 := Bool.eq_false_iff.mpr c5
    subst c5
    have H1 : (some false) = some r := by rw [if_neg (show ¬ (false = true) by decide)] at H; exact H
    clear H
    have H := H1
    clear H1
    obtain rfl := Option.some.inj H
    go_enter Tryd.func5, Tryd.ntmps5
    go_wp2_with (first | ((with_reducible refine gate_callee (f := 9) rfl ?_); refine goesL_ (some 14) rfl rfl Tryd.func9 (by kernel_rfl) rfl #[] rfl (by (try simp only [List.map_toArray, List.map_cons, List.map_nil]); first | done | rfl | (simp only [List.length_drop, List.length_take]; rfl)) ?_; (with_reducible refine (bureaulaw06_alive.calls  false _ A4.out ?sideT).mono ?_); (case sideT => first | exact HTABS.out | exact HTABS.out.below (by repeat (first | (with_reducible first | exact HB.out | apply below_alloc | apply pw_below_drewN | apply below_drew1) | exact HB.out)) (Nat.le_refl _) | exact HTABS.out.below (Below.drew (Below.refl _ _)) (Nat.le_refl _)); rintro e w62 ⟨rfl, hb⟩; refine ⟨_, rfl, ?_⟩; have n0_ := Aside0.mk (below_step (by repeat (first | (with_reducible first | exact HB.out | apply below_alloc | apply pw_below_drewN | apply below_drew1) | exact HB.out)) hb); clear HB; have HB := n0_; clear n0_; (try clear hb); (try clear hb2); (try clear hk); (try clear hi)))
    go_ret
    exact ⟨by first | rfl | (simp [errW_none, errW_some] <;> rfl) | (simp [*, errW_none, errW_some] <;> rfl), by repeat (first | (with_reducible first | exact HB.out | apply below_alloc | apply pw_below_drewN | apply below_drew1) | exact HB.out)⟩

/-- What is to be proved of bureaulaw06_LineCuts: no program in it. -/
def bureaulaw06_LineCuts.Pure : Prop := ∀ (a0 : ByteArray) (a1 : Int) (a2 : Int), a0.size ≤ maxLen → (Lit.int .i64 a1).wf = true → (Lit.int .i64 a2).wf = true → ∃ k, bureaulaw06_LineCuts.f k a0 a1 a2 = some true

end Go.Proofs.YthkhjcpijecokaaDoor.XLineCuts
