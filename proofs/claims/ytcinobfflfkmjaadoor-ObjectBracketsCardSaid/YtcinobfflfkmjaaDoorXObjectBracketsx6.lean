-- Written by this session's program (wip/xprint.py) with the kit's print, for this claim.
import Derived.Test.YtcinobfflfkmjaaDoorXObjectBracketsx0
import Derived.Test.YtcinobfflfkmjaaDoorXObjectBracketsx4
import Derived.Test.YtcinobfflfkmjaaDoorXObjectBracketsx5
namespace Go.Proofs.YtcinobfflfkmjaaDoor.XObjectBrackets
open Go.RowKit Go.Proofs.YtcinobfflfkmjaaDoorW.PrintWords Go.Proofs.YtcinobfflfkmjaaDoorW.PrintLast Go.Proofs.YtcinobfflfkmjaaDoorW.PrintMore Go.Proofs.YtcinobfflfkmjaaDoor.Ext
attribute [local go_sem] max2_int min2_int max_two min_two max_three min_three max_four min_four   -- for this text's walks alone
set_option linter.unusedVariables false
set_option linter.unusedSimpArgs false

/-! ### bureaulaw13_ObjectBrackets: function 5 -/
mutual
def bureaulaw13_ObjectBrackets.j0 : Nat → ByteArray → Int → Int → Int → Int → Bool → Option (Bool)
  | 0, _, _, _, _, _, _ => none
  | k + 1, x0, x8, x9, x10, x11, x105 => if x105 = true then (some false) else (bureaulaw13_ObjectBrackets.l0 k x0 x8 x9 x11 0 x10)
def bureaulaw13_ObjectBrackets.l0 : Nat → ByteArray → Int → Int → Int → Int → Int → Option (Bool)
  | 0, _, _, _, _, _, _ => none
  | k + 1, x0, x8, x9, x11, x17, x18 => if x18 < x11 then (if 0 ≤ x18 then (if x18 < (x0.size : Int) then (if (bt x0 x18) = x8 then (bureaulaw13_ObjectBrackets.j2 k x0 x8 x9 x11 (wrap64 (x17 + 1)) x18) else (bureaulaw13_ObjectBrackets.j2 k x0 x8 x9 x11 x17 x18)) else (none)) else (none)) else (some (x17 == 0))
def bureaulaw13_ObjectBrackets.j2 : Nat → ByteArray → Int → Int → Int → Int → Int → Option (Bool)
  | 0, _, _, _, _, _, _ => none
  | k + 1, x0, x8, x9, x11, x17, x18 => if 0 ≤ x18 then (if x18 < (x0.size : Int) then (if (bt x0 x18) = x9 then (if (wrap64 (x17 - 1)) < 0 then (some false) else (bureaulaw13_ObjectBrackets.l0 k x0 x8 x9 x11 (wrap64 (x17 - 1)) (wrap64 (x18 + 1)))) else (if x17 < 0 then (some false) else (bureaulaw13_ObjectBrackets.l0 k x0 x8 x9 x11 x17 (wrap64 (x18 + 1))))) else (none)) else (none)
end
def bureaulaw13_ObjectBrackets.f (k : Nat) (a0 : ByteArray) (a1 : Int) (a2 : Int) : Option (Bool) := (bureaulaw13_alive.f k).bind fun t211 => (if t211 = true then (if (a0.size : Int) > 2048 then (some true) else (if 0 ≤ (wrap64 (Int.tmod a2 3)) then (if (wrap64 (Int.tmod a2 3)) < 3 then ((object_Find.f k a0 a1 false (wrap32 (bt (⟨#[40, 91, 123]⟩ : ByteArray) (wrap64 (Int.tmod a2 3))))).bind fun bt212 => ((object_Find.f k a0 a1 true (wrap32 (bt (⟨#[41, 93, 125]⟩ : ByteArray) (wrap64 (Int.tmod a2 3))))).bind fun bt215 => (if bt212.2.2 = true then (if bt215.2.2 = true then ((bureauref02_Align.f k a0 a1).bind fun t218 => (if bt212.1 < 1 then (bureaulaw13_ObjectBrackets.j0 k a0 (bt (⟨#[40, 91, 123]⟩ : ByteArray) (wrap64 (Int.tmod a2 3))) (bt (⟨#[41, 93, 125]⟩ : ByteArray) (wrap64 (Int.tmod a2 3))) bt212.1 bt212.2.1 true) else (if bt212.1 > bt212.2.1 then (bureaulaw13_ObjectBrackets.j0 k a0 (bt (⟨#[40, 91, 123]⟩ : ByteArray) (wrap64 (Int.tmod a2 3))) (bt (⟨#[41, 93, 125]⟩ : ByteArray) (wrap64 (Int.tmod a2 3))) bt212.1 bt212.2.1 true) else (if bt212.2.1 ≥ (a0.size : Int) then (bureaulaw13_ObjectBrackets.j0 k a0 (bt (⟨#[40, 91, 123]⟩ : ByteArray) (wrap64 (Int.tmod a2 3))) (bt (⟨#[41, 93, 125]⟩ : ByteArray) (wrap64 (Int.tmod a2 3))) bt212.1 bt212.2.1 true) else (if bt215.1 = (wrap64 (bt212.1 - 1)) then (if bt215.2.1 = (wrap64 (bt212.2.1 + 1)) then (if 0 ≤ bt215.1 then (if bt215.1 < (a0.size : Int) then (if (bt a0 bt215.1) = (bt (⟨#[40, 91, 123]⟩ : ByteArray) (wrap64 (Int.tmod a2 3))) then (if 0 ≤ bt212.2.1 then (if bt212.2.1 < (a0.size : Int) then (if (bt a0 bt212.2.1) = (bt (⟨#[41, 93, 125]⟩ : ByteArray) (wrap64 (Int.tmod a2 3))) then (if t218 < bt215.1 then (bureaulaw13_ObjectBrackets.j0 k a0 (bt (⟨#[40, 91, 123]⟩ : ByteArray) (wrap64 (Int.tmod a2 3))) (bt (⟨#[41, 93, 125]⟩ : ByteArray) (wrap64 (Int.tmod a2 3))) bt212.1 bt212.2.1 true) else (bureaulaw13_ObjectBrackets.j0 k a0 (bt (⟨#[40, 91, 123]⟩ : ByteArray) (wrap64 (Int.tmod a2 3))) (bt (⟨#[41, 93, 125]⟩ : ByteArray) (wrap64 (Int.tmod a2 3))) bt212.1 bt212.2.1 (decide (t218 > bt212.2.1)))) else (bureaulaw13_ObjectBrackets.j0 k a0 (bt (⟨#[40, 91, 123]⟩ : ByteArray) (wrap64 (Int.tmod a2 3))) (bt (⟨#[41, 93, 125]⟩ : ByteArray) (wrap64 (Int.tmod a2 3))) bt212.1 bt212.2.1 true)) else (none)) else (none)) else (bureaulaw13_ObjectBrackets.j0 k a0 (bt (⟨#[40, 91, 123]⟩ : ByteArray) (wrap64 (Int.tmod a2 3))) (bt (⟨#[41, 93, 125]⟩ : ByteArray) (wrap64 (Int.tmod a2 3))) bt212.1 bt212.2.1 true)) else (none)) else (none)) else (bureaulaw13_ObjectBrackets.j0 k a0 (bt (⟨#[40, 91, 123]⟩ : ByteArray) (wrap64 (Int.tmod a2 3))) (bt (⟨#[41, 93, 125]⟩ : ByteArray) (wrap64 (Int.tmod a2 3))) bt212.1 bt212.2.1 true)) else (bureaulaw13_ObjectBrackets.j0 k a0 (bt (⟨#[40, 91, 123]⟩ : ByteArray) (wrap64 (Int.tmod a2 3))) (bt (⟨#[41, 93, 125]⟩ : ByteArray) (wrap64 (Int.tmod a2 3))) bt212.1 bt212.2.1 true)))))) else (some false)) else (if bt215.2.2 = true then (some false) else (some true))))) else (none)) else (none))) else (some false))
theorem bureaulaw13_ObjectBrackets.mono_l : ∀ k, (∀ y0 y1 y2 y3 y4 y5, LeO (bureaulaw13_ObjectBrackets.j0 k y0 y1 y2 y3 y4 y5) (bureaulaw13_ObjectBrackets.j0 (k + 1) y0 y1 y2 y3 y4 y5)) ∧ (∀ y0 y1 y2 y3 y4 y5, LeO (bureaulaw13_ObjectBrackets.l0 k y0 y1 y2 y3 y4 y5) (bureaulaw13_ObjectBrackets.l0 (k + 1) y0 y1 y2 y3 y4 y5)) ∧ (∀ y0 y1 y2 y3 y4 y5, LeO (bureaulaw13_ObjectBrackets.j2 k y0 y1 y2 y3 y4 y5) (bureaulaw13_ObjectBrackets.j2 (k + 1) y0 y1 y2 y3 y4 y5))
  | 0 => ⟨fun _ _ _ _ _ _ r h => by simp [bureaulaw13_ObjectBrackets.j0] at h, fun _ _ _ _ _ _ r h => by simp [bureaulaw13_ObjectBrackets.l0] at h, fun _ _ _ _ _ _ r h => by simp [bureaulaw13_ObjectBrackets.j2] at h⟩
  | k + 1 => by
    obtain ⟨ih0, ih1, ih2⟩ := bureaulaw13_ObjectBrackets.mono_l k
    refine ⟨?_, ?_, ?_⟩
    · intro y0 y1 y2 y3 y4 y5
      unfold bureaulaw13_ObjectBrackets.j0
      repeat' first
      | (with_reducible exact ih0 _ _ _ _ _ _)
      | (with_reducible exact ih1 _ _ _ _ _ _)
      | (with_reducible exact ih2 _ _ _ _ _ _)
      | (with_reducible exact bureaulaw13_alive.mono _)
      | (with_reducible exact bureauref02_Align.mono _ _ _)
      | (with_reducible exact object_Find.mono _ _ _ _ _)
      | (with_reducible exact LeO.refl _)
      | (with_reducible exact LeO.none _)
      | (with_reducible refine LeO.ite ?_ ?_)
      | (with_reducible refine LeO.bind ?_ (fun _ => ?_))
      | exact ih0 _ _ _ _ _ _
      | exact ih1 _ _ _ _ _ _
      | exact ih2 _ _ _ _ _ _
      | exact bureaulaw13_alive.mono _
      | exact bureauref02_Align.mono _ _ _
      | exact object_Find.mono _ _ _ _ _
      | exact LeO.none _
      | refine LeO.ite ?_ ?_
      | refine LeO.bind ?_ (fun _ => ?_)
    · intro y0 y1 y2 y3 y4 y5
      unfold bureaulaw13_ObjectBrackets.l0
      repeat' first
      | (with_reducible exact ih0 _ _ _ _ _ _)
      | (with_reducible exact ih1 _ _ _ _ _ _)
      | (with_reducible exact ih2 _ _ _ _ _ _)
      | (with_reducible exact bureaulaw13_alive.mono _)
      | (with_reducible exact bureauref02_Align.mono _ _ _)
      | (with_reducible exact object_Find.mono _ _ _ _ _)
      | (with_reducible exact LeO.refl _)
      | (with_reducible exact LeO.none _)
      | (with_reducible refine LeO.ite ?_ ?_)
      | (with_reducible refine LeO.bind ?_ (fun _ => ?_))
      | exact ih0 _ _ _ _ _ _
      | exact ih1 _ _ _ _ _ _
      | exact ih2 _ _ _ _ _ _
      | exact bureaulaw13_alive.mono _
      | exact bureauref02_Align.mono _ _ _
      | exact object_Find.mono _ _ _ _ _
      | exact LeO.none _
      | refine LeO.ite ?_ ?_
      | refine LeO.bind ?_ (fun _ => ?_)
    · intro y0 y1 y2 y3 y4 y5
      unfold bureaulaw13_ObjectBrackets.j2
      repeat' first
      | (with_reducible exact ih0 _ _ _ _ _ _)
      | (with_reducible exact ih1 _ _ _ _ _ _)
      | (with_reducible exact ih2 _ _ _ _ _ _)
      | (with_reducible exact bureaulaw13_alive.mono _)
      | (with_reducible exact bureauref02_Align.mono _ _ _)
      | (with_reducible exact object_Find.mono _ _ _ _ _)
      | (with_reducible exact LeO.refl _)
      | (with_reducible exact LeO.none _)
      | (with_reducible refine LeO.ite ?_ ?_)
      | (with_reducible refine LeO.bind ?_ (fun _ => ?_))
      | exact ih0 _ _ _ _ _ _
      | exact ih1 _ _ _ _ _ _
      | exact ih2 _ _ _ _ _ _
      | exact bureaulaw13_alive.mono _
      | exact bureauref02_Align.mono _ _ _
      | exact object_Find.mono _ _ _ _ _
      | exact LeO.none _
      | refine LeO.ite ?_ ?_
      | refine LeO.bind ?_ (fun _ => ?_)
theorem bureaulaw13_ObjectBrackets.mono : ∀ a0 a1 a2 k, LeO (bureaulaw13_ObjectBrackets.f k a0 a1 a2) (bureaulaw13_ObjectBrackets.f (k + 1) a0 a1 a2) := by
  intro a0 a1 a2 k
  obtain ⟨ih0, ih1, ih2⟩ := bureaulaw13_ObjectBrackets.mono_l k
  unfold bureaulaw13_ObjectBrackets.f
  repeat' first
      | (with_reducible exact ih0 _ _ _ _ _ _)
      | (with_reducible exact ih1 _ _ _ _ _ _)
      | (with_reducible exact ih2 _ _ _ _ _ _)
      | (with_reducible exact bureaulaw13_alive.mono _)
      | (with_reducible exact bureauref02_Align.mono _ _ _)
      | (with_reducible exact object_Find.mono _ _ _ _ _)
      | (with_reducible exact LeO.refl _)
      | (with_reducible exact LeO.none _)
      | (with_reducible refine LeO.ite ?_ ?_)
      | (with_reducible refine LeO.bind ?_ (fun _ => ?_))
      | exact ih0 _ _ _ _ _ _
      | exact ih1 _ _ _ _ _ _
      | exact ih2 _ _ _ _ _ _
      | exact bureaulaw13_alive.mono _
      | exact bureauref02_Align.mono _ _ _
      | exact object_Find.mono _ _ _ _ _
      | exact LeO.none _
      | refine LeO.ite ?_ ?_
      | refine LeO.bind ?_ (fun _ => ?_)
set_option maxHeartbeats 8000000 in
set_option maxRecDepth 100000 in
theorem bureaulaw13_ObjectBrackets.calls (k : Nat) (a0 : ByteArray) (a1 : Int) (a2 : Int) (r : Bool) (w : World) (h : bureaulaw13_ObjectBrackets.f k a0 a1 a2 = some r) (hTabs : Tabs w) :
    Calls Tryd.prog 5 #[.string a0, .int .i64 a1, .int .u8 a2] w fun e w' => e = .returned (.bool r) ∧ Below w.heap.size w w' := by
  have HTABS := Aside0.mk hTabs
  clear hTabs
  have HB := Aside0.mk (Below.refl w.heap.size w)
  have H : ((bureaulaw13_alive.f k).bind fun t211 => (if t211 = true then (if (a0.size : Int) > 2048 then (some true) else (if 0 ≤ (wrap64 (Int.tmod a2 3)) then (if (wrap64 (Int.tmod a2 3)) < 3 then ((object_Find.f k a0 a1 false (wrap32 (bt (⟨#[40, 91, 123]⟩ : ByteArray) (wrap64 (Int.tmod a2 3))))).bind fun bt212 => ((object_Find.f k a0 a1 true (wrap32 (bt (⟨#[41, 93, 125]⟩ : ByteArray) (wrap64 (Int.tmod a2 3))))).bind fun bt215 => (if bt212.2.2 = true then (if bt215.2.2 = true then ((bureauref02_Align.f k a0 a1).bind fun t218 => (if bt212.1 < 1 then (bureaulaw13_ObjectBrackets.j0 k a0 (bt (⟨#[40, 91, 123]⟩ : ByteArray) (wrap64 (Int.tmod a2 3))) (bt (⟨#[41, 93, 125]⟩ : ByteArray) (wrap64 (Int.tmod a2 3))) bt212.1 bt212.2.1 true) else (if bt212.1 > bt212.2.1 then (bureaulaw13_ObjectBrackets.j0 k a0 (bt (⟨#[40, 91, 123]⟩ : ByteArray) (wrap64 (Int.tmod a2 3))) (bt (⟨#[41, 93, 125]⟩ : ByteArray) (wrap64 (Int.tmod a2 3))) bt212.1 bt212.2.1 true) else (if bt212.2.1 ≥ (a0.size : Int) then (bureaulaw13_ObjectBrackets.j0 k a0 (bt (⟨#[40, 91, 123]⟩ : ByteArray) (wrap64 (Int.tmod a2 3))) (bt (⟨#[41, 93, 125]⟩ : ByteArray) (wrap64 (Int.tmod a2 3))) bt212.1 bt212.2.1 true) else (if bt215.1 = (wrap64 (bt212.1 - 1)) then (if bt215.2.1 = (wrap64 (bt212.2.1 + 1)) then (if 0 ≤ bt215.1 then (if bt215.1 < (a0.size : Int) then (if (bt a0 bt215.1) = (bt (⟨#[40, 91, 123]⟩ : ByteArray) (wrap64 (Int.tmod a2 3))) then (if 0 ≤ bt212.2.1 then (if bt212.2.1 < (a0.size : Int) then (if (bt a0 bt212.2.1) = (bt (⟨#[41, 93, 125]⟩ : ByteArray) (wrap64 (Int.tmod a2 3))) then (if t218 < bt215.1 then (bureaulaw13_ObjectBrackets.j0 k a0 (bt (⟨#[40, 91, 123]⟩ : ByteArray) (wrap64 (Int.tmod a2 3))) (bt (⟨#[41, 93, 125]⟩ : ByteArray) (wrap64 (Int.tmod a2 3))) bt212.1 bt212.2.1 true) else (bureaulaw13_ObjectBrackets.j0 k a0 (bt (⟨#[40, 91, 123]⟩ : ByteArray) (wrap64 (Int.tmod a2 3))) (bt (⟨#[41, 93, 125]⟩ : ByteArray) (wrap64 (Int.tmod a2 3))) bt212.1 bt212.2.1 (decide (t218 > bt212.2.1)))) else (bureaulaw13_ObjectBrackets.j0 k a0 (bt (⟨#[40, 91, 123]⟩ : ByteArray) (wrap64 (Int.tmod a2 3))) (bt (⟨#[41, 93, 125]⟩ : ByteArray) (wrap64 (Int.tmod a2 3))) bt212.1 bt212.2.1 true)) else (none)) else (none)) else (bureaulaw13_ObjectBrackets.j0 k a0 (bt (⟨#[40, 91, 123]⟩ : ByteArray) (wrap64 (Int.tmod a2 3))) (bt (⟨#[41, 93, 125]⟩ : ByteArray) (wrap64 (Int.tmod a2 3))) bt212.1 bt212.2.1 true)) else (none)) else (none)) else (bureaulaw13_ObjectBrackets.j0 k a0 (bt (⟨#[40, 91, 123]⟩ : ByteArray) (wrap64 (Int.tmod a2 3))) (bt (⟨#[41, 93, 125]⟩ : ByteArray) (wrap64 (Int.tmod a2 3))) bt212.1 bt212.2.1 true)) else (bureaulaw13_ObjectBrackets.j0 k a0 (bt (⟨#[40, 91, 123]⟩ : ByteArray) (wrap64 (Int.tmod a2 3))) (bt (⟨#[41, 93, 125]⟩ : ByteArray) (wrap64 (Int.tmod a2 3))) bt212.1 bt212.2.1 true)))))) else (some false)) else (if bt215.2.2 = true then (some false) else (some true))))) else (none)) else (none))) else (some false))) = some r := h
  clear h
  replace H := Option.bind_eq_some_iff.mp H
  obtain ⟨t211, A40, H⟩ := H
  replace H : (if t211 = true then (if (a0.size : Int) > 2048 then (some true) else (if 0 ≤ (wrap64 (Int.tmod a2 3)) then (if (wrap64 (Int.tmod a2 3)) < 3 then ((object_Find.f k a0 a1 false (wrap32 (bt (⟨#[40, 91, 123]⟩ : ByteArray) (wrap64 (Int.tmod a2 3))))).bind fun bt212 => ((object_Find.f k a0 a1 true (wrap32 (bt (⟨#[41, 93, 125]⟩ : ByteArray) (wrap64 (Int.tmod a2 3))))).bind fun bt215 => (if bt212.2.2 = true then (if bt215.2.2 = true then ((bureauref02_Align.f k a0 a1).bind fun t218 => (if bt212.1 < 1 then (bureaulaw13_ObjectBrackets.j0 k a0 (bt (⟨#[40, 91, 123]⟩ : ByteArray) (wrap64 (Int.tmod a2 3))) (bt (⟨#[41, 93, 125]⟩ : ByteArray) (wrap64 (Int.tmod a2 3))) bt212.1 bt212.2.1 true) else (if bt212.1 > bt212.2.1 then (bureaulaw13_ObjectBrackets.j0 k a0 (bt (⟨#[40, 91, 123]⟩ : ByteArray) (wrap64 (Int.tmod a2 3))) (bt (⟨#[41, 93, 125]⟩ : ByteArray) (wrap64 (Int.tmod a2 3))) bt212.1 bt212.2.1 true) else (if bt212.2.1 ≥ (a0.size : Int) then (bureaulaw13_ObjectBrackets.j0 k a0 (bt (⟨#[40, 91, 123]⟩ : ByteArray) (wrap64 (Int.tmod a2 3))) (bt (⟨#[41, 93, 125]⟩ : ByteArray) (wrap64 (Int.tmod a2 3))) bt212.1 bt212.2.1 true) else (if bt215.1 = (wrap64 (bt212.1 - 1)) then (if bt215.2.1 = (wrap64 (bt212.2.1 + 1)) then (if 0 ≤ bt215.1 then (if bt215.1 < (a0.size : Int) then (if (bt a0 bt215.1) = (bt (⟨#[40, 91, 123]⟩ : ByteArray) (wrap64 (Int.tmod a2 3))) then (if 0 ≤ bt212.2.1 then (if bt212.2.1 < (a0.size : Int) then (if (bt a0 bt212.2.1) = (bt (⟨#[41, 93, 125]⟩ : ByteArray) (wrap64 (Int.tmod a2 3))) then (if t218 < bt215.1 then (bureaulaw13_ObjectBrackets.j0 k a0 (bt (⟨#[40, 91, 123]⟩ : ByteArray) (wrap64 (Int.tmod a2 3))) (bt (⟨#[41, 93, 125]⟩ : ByteArray) (wrap64 (Int.tmod a2 3))) bt212.1 bt212.2.1 true) else (bureaulaw13_ObjectBrackets.j0 k a0 (bt (⟨#[40, 91, 123]⟩ : ByteArray) (wrap64 (Int.tmod a2 3))) (bt (⟨#[41, 93, 125]⟩ : ByteArray) (wrap64 (Int.tmod a2 3))) bt212.1 bt212.2.1 (decide (t218 > bt212.2.1)))) else (bureaulaw13_ObjectBrackets.j0 k a0 (bt (⟨#[40, 91, 123]⟩ : ByteArray) (wrap64 (Int.tmod a2 3))) (bt (⟨#[41, 93, 125]⟩ : ByteArray) (wrap64 (Int.tmod a2 3))) bt212.1 bt212.2.1 true)) else (none)) else (none)) else (bureaulaw13_ObjectBrackets.j0 k a0 (bt (⟨#[40, 91, 123]⟩ : ByteArray) (wrap64 (Int.tmod a2 3))) (bt (⟨#[41, 93, 125]⟩ : ByteArray) (wrap64 (Int.tmod a2 3))) bt212.1 bt212.2.1 true)) else (none)) else (none)) else (bureaulaw13_ObjectBrackets.j0 k a0 (bt (⟨#[40, 91, 123]⟩ : ByteArray) (wrap64 (Int.tmod a2 3))) (bt (⟨#[41, 93, 125]⟩ : ByteArray) (wrap64 (Int.tmod a2 3))) bt212.1 bt212.2.1 true)) else (bureaulaw13_ObjectBrackets.j0 k a0 (bt (⟨#[40, 91, 123]⟩ : ByteArray) (wrap64 (Int.tmod a2 3))) (bt (⟨#[41, 93, 125]⟩ : ByteArray) (wrap64 (Int.tmod a2 3))) bt212.1 bt212.2.1 true)))))) else (some false)) else (if bt215.2.2 = true then (some false) else (some true))))) else (none)) else (none))) else (some false)) = some r := H
  have A4 := Aside0.mk A40
  clear A40
  by_cases c5 : t211 = true
  · subst c5
    have H1 : (if (a0.size : Int) > 2048 then (some true) else (if 0 ≤ (wrap64 (Int.tmod a2 3)) then (if (wrap64 (Int.tmod a2 3)) < 3 then ((object_Find.f k a0 a1 false (wrap32 (bt (⟨#[40, 91, 123]⟩ : ByteArray) (wrap64 (Int.tmod a2 3))))).bind fun bt212 => ((object_Find.f k a0 a1 true (wrap32 (bt (⟨#[41, 93, 125]⟩ : ByteArray) (wrap64 (Int.tmod a2 3))))).bind fun bt215 => (if bt212.2.2 = true then (if bt215.2.2 = true then ((bureauref02_Align.f k a0 a1).bind fun t218 => (if bt212.1 < 1 then (bureaulaw13_ObjectBrackets.j0 k a0 (bt (⟨#[40, 91, 123]⟩ : ByteArray) (wrap64 (Int.tmod a2 3))) (bt (⟨#[41, 93, 125]⟩ : ByteArray) (wrap64 (Int.tmod a2 3))) bt212.1 bt212.2.1 true) else (if bt212.1 > bt212.2.1 then (bureaulaw13_ObjectBrackets.j0 k a0 (bt (⟨#[40, 91, 123]⟩ : ByteArray) (wrap64 (Int.tmod a2 3))) (bt (⟨#[41, 93, 125]⟩ : ByteArray) (wrap64 (Int.tmod a2 3))) bt212.1 bt212.2.1 true) else (if bt212.2.1 ≥ (a0.size : Int) then (bureaulaw13_ObjectBrackets.j0 k a0 (bt (⟨#[40, 91, 123]⟩ : ByteArray) (wrap64 (Int.tmod a2 3))) (bt (⟨#[41, 93, 125]⟩ : ByteArray) (wrap64 (Int.tmod a2 3))) bt212.1 bt212.2.1 true) else (if bt215.1 = (wrap64 (bt212.1 - 1)) then (if bt215.2.1 = (wrap64 (bt212.2.1 + 1)) then (if 0 ≤ bt215.1 then (if bt215.1 < (a0.size : Int) then (if (bt a0 bt215.1) = (bt (⟨#[40, 91, 123]⟩ : ByteArray) (wrap64 (Int.tmod a2 3))) then (if 0 ≤ bt212.2.1 then (if bt212.2.1 < (a0.size : Int) then (if (bt a0 bt212.2.1) = (bt (⟨#[41, 93, 125]⟩ : ByteArray) (wrap64 (Int.tmod a2 3))) then (if t218 < bt215.1 then (bureaulaw13_ObjectBrackets.j0 k a0 (bt (⟨#[40, 91, 123]⟩ : ByteArray) (wrap64 (Int.tmod a2 3))) (bt (⟨#[41, 93, 125]⟩ : ByteArray) (wrap64 (Int.tmod a2 3))) bt212.1 bt212.2.1 true) else (bureaulaw13_ObjectBrackets.j0 k a0 (bt (⟨#[40, 91, 123]⟩ : ByteArray) (wrap64 (Int.tmod a2 3))) (bt (⟨#[41, 93, 125]⟩ : ByteArray) (wrap64 (Int.tmod a2 3))) bt212.1 bt212.2.1 (decide (t218 > bt212.2.1)))) else (bureaulaw13_ObjectBrackets.j0 k a0 (bt (⟨#[40, 91, 123]⟩ : ByteArray) (wrap64 (Int.tmod a2 3))) (bt (⟨#[41, 93, 125]⟩ : ByteArray) (wrap64 (Int.tmod a2 3))) bt212.1 bt212.2.1 true)) else (none)) else (none)) else (bureaulaw13_ObjectBrackets.j0 k a0 (bt (⟨#[40, 91, 123]⟩ : ByteArray) (wrap64 (Int.tmod a2 3))) (bt (⟨#[41, 93, 125]⟩ : ByteArray) (wrap64 (Int.tmod a2 3))) bt212.1 bt212.2.1 true)) else (none)) else (none)) else (bureaulaw13_ObjectBrackets.j0 k a0 (bt (⟨#[40, 91, 123]⟩ : ByteArray) (wrap64 (Int.tmod a2 3))) (bt (⟨#[41, 93, 125]⟩ : ByteArray) (wrap64 (Int.tmod a2 3))) bt212.1 bt212.2.1 true)) else (bureaulaw13_ObjectBrackets.j0 k a0 (bt (⟨#[40, 91, 123]⟩ : ByteArray) (wrap64 (Int.tmod a2 3))) (bt (⟨#[41, 93, 125]⟩ : ByteArray) (wrap64 (Int.tmod a2 3))) bt212.1 bt212.2.1 true)))))) else (some false)) else (if bt215.2.2 = true then (some false) else (some true))))) else (none)) else (none))) = some r := by rw [if_pos rfl] at H; exact H
    clear H
    have H := H1
    clear H1
    by_cases c6 : (a0.size : Int) > 2048
    · rw [if_pos c6] at H
      have c6b0 : decide (2048 < (a0.size : Int)) = true := decide_eq_true c6
      have c6b1 : decide (2048 < a0.size) = true := decide_eq_true (by omega)
      clear c6
      obtain rfl := Option.some.inj H
      go_enter Tryd.func5, Tryd.ntmps5
      go_wp2_with (first | (go_at_call 7; (with_reducible refine (bureaulaw13_alive.calls k  true _ A4.out ?sideT).mono ?_); (case sideT => first | exact HTABS.out | exact HTABS.out.below (by repeat (first | (with_reducible first | exact HB.out | apply below_alloc | apply pw_below_drewN | apply below_drew1) | exact HB.out)) (Nat.le_refl _) | exact HTABS.out.below (Below.drew (Below.refl _ _)) (Nat.le_refl _)); rintro e w7 ⟨rfl, hb⟩; have n0_ := Aside0.mk (below_step (by repeat (first | (with_reducible first | exact HB.out | apply below_alloc | apply pw_below_drewN | apply below_drew1) | exact HB.out)) hb); clear HB; have HB := n0_; clear n0_; (try clear hb); (try clear hb2); (try clear hk); (try clear hi)))
      repeat (go_quiet (first | (go_at_call 7; (with_reducible refine (bureaulaw13_alive.calls k  true _ A4.out ?sideT).mono ?_); (case sideT => first | exact HTABS.out | exact HTABS.out.below (by repeat (first | (with_reducible first | exact HB.out | apply below_alloc | apply pw_below_drewN | apply below_drew1) | exact HB.out)) (Nat.le_refl _) | exact HTABS.out.below (Below.drew (Below.refl _ _)) (Nat.le_refl _)); rintro e w7 ⟨rfl, hb⟩; have n0_ := Aside0.mk (below_step (by repeat (first | (with_reducible first | exact HB.out | apply below_alloc | apply pw_below_drewN | apply below_drew1) | exact HB.out)) hb); clear HB; have HB := n0_; clear n0_; (try clear hb); (try clear hb2); (try clear hk); (try clear hi))); try go_wp2_with (first | (go_at_call 7; (with_reducible refine (bureaulaw13_alive.calls k  true _ A4.out ?sideT).mono ?_); (case sideT => first | exact HTABS.out | exact HTABS.out.below (by repeat (first | (with_reducible first | exact HB.out | apply below_alloc | apply pw_below_drewN | apply below_drew1) | exact HB.out)) (Nat.le_refl _) | exact HTABS.out.below (Below.drew (Below.refl _ _)) (Nat.le_refl _)); rintro e w7 ⟨rfl, hb⟩; have n0_ := Aside0.mk (below_step (by repeat (first | (with_reducible first | exact HB.out | apply below_alloc | apply pw_below_drewN | apply below_drew1) | exact HB.out)) hb); clear HB; have HB := n0_; clear n0_; (try clear hb); (try clear hb2); (try clear hk); (try clear hi))))
      go_ret
      exact ⟨by first | rfl | (simp [errW_none, errW_some] <;> rfl) | (simp [*, errW_none, errW_some] <;> rfl), by repeat (first | (with_reducible first | exact HB.out | apply below_alloc | apply pw_below_drewN | apply below_drew1) | exact HB.out)⟩
    · rw [if_neg c6] at H
      have c6b0 : decide (2048 < (a0.size : Int)) = false := decide_eq_false c6
      have c6b1 : decide (2048 < a0.size) = false := decide_eq_false (by omega)
      clear c6
      obtain ⟨ji8, hji8⟩ : ∃ j_ : Int, (wrap64 (Int.tmod a2 3)) = j_ := ⟨_, rfl⟩
      replace H : (if 0 ≤ (ji8) then (if (ji8) < 3 then ((object_Find.f k a0 a1 false (wrap32 (bt (⟨#[40, 91, 123]⟩ : ByteArray) (ji8)))).bind fun bt212 => ((object_Find.f k a0 a1 true (wrap32 (bt (⟨#[41, 93, 125]⟩ : ByteArray) (ji8)))).bind fun bt215 => (if bt212.2.2 = true then (if bt215.2.2 = true then ((bureauref02_Align.f k a0 a1).bind fun t218 => (if bt212.1 < 1 then (bureaulaw13_ObjectBrackets.j0 k a0 (bt (⟨#[40, 91, 123]⟩ : ByteArray) (ji8)) (bt (⟨#[41, 93, 125]⟩ : ByteArray) (ji8)) bt212.1 bt212.2.1 true) else (if bt212.1 > bt212.2.1 then (bureaulaw13_ObjectBrackets.j0 k a0 (bt (⟨#[40, 91, 123]⟩ : ByteArray) (ji8)) (bt (⟨#[41, 93, 125]⟩ : ByteArray) (ji8)) bt212.1 bt212.2.1 true) else (if bt212.2.1 ≥ (a0.size : Int) then (bureaulaw13_ObjectBrackets.j0 k a0 (bt (⟨#[40, 91, 123]⟩ : ByteArray) (ji8)) (bt (⟨#[41, 93, 125]⟩ : ByteArray) (ji8)) bt212.1 bt212.2.1 true) else (if bt215.1 = (wrap64 (bt212.1 - 1)) then (if bt215.2.1 = (wrap64 (bt212.2.1 + 1)) then (if 0 ≤ bt215.1 then (if bt215.1 < (a0.size : Int) then (if (bt a0 bt215.1) = (bt (⟨#[40, 91, 123]⟩ : ByteArray) (ji8)) then (if 0 ≤ bt212.2.1 then (if bt212.2.1 < (a0.size : Int) then (if (bt a0 bt212.2.1) = (bt (⟨#[41, 93, 125]⟩ : ByteArray) (ji8)) then (if t218 < bt215.1 then (bureaulaw13_ObjectBrackets.j0 k a0 (bt (⟨#[40, 91, 123]⟩ : ByteArray) (ji8)) (bt (⟨#[41, 93, 125]⟩ : ByteArray) (ji8)) bt212.1 bt212.2.1 true) else (bureaulaw13_ObjectBrackets.j0 k a0 (bt (⟨#[40, 91, 123]⟩ : ByteArray) (ji8)) (bt (⟨#[41, 93, 125]⟩ : ByteArray) (ji8)) bt212.1 bt212.2.1 (decide (t218 > bt212.2.1)))) else (bureaulaw13_ObjectBrackets.j0 k a0 (bt (⟨#[40, 91, 123]⟩ : ByteArray) (ji8)) (bt (⟨#[41, 93, 125]⟩ : ByteArray) (ji8)) bt212.1 bt212.2.1 true)) else (none)) else (none)) else (bureaulaw13_ObjectBrackets.j0 k a0 (bt (⟨#[40, 91, 123]⟩ : ByteArray) (ji8)) (bt (⟨#[41, 93, 125]⟩ : ByteArray) (ji8)) bt212.1 bt212.2.1 true)) else (none)) else (none)) else (bureaulaw13_ObjectBrackets.j0 k a0 (bt (⟨#[40, 91, 123]⟩ : ByteArray) (ji8)) (bt (⟨#[41, 93, 125]⟩ : ByteArray) (ji8)) bt212.1 bt212.2.1 true)) else (bureaulaw13_ObjectBrackets.j0 k a0 (bt (⟨#[40, 91, 123]⟩ : ByteArray) (ji8)) (bt (⟨#[41, 93, 125]⟩ : ByteArray) (ji8)) bt212.1 bt212.2.1 true)))))) else (some false)) else (if bt215.2.2 = true then (some false) else (some true))))) else (none)) else (none)) = some r := by first | (rw [hji8] at H; exact H) | (simp only [hji8] at H ⊢; exact H)
      (try rw [hji8] at A4)
      have hji8w : (IntKind.i64.wrap (Int.tmod a2 3)) = ji8 := (i64_w _).trans hji8
      by_cases c9 : 0 ≤ (ji8)
      · rw [if_pos c9] at H
        have c9b0 : decide (0 ≤ (ji8)) = true := decide_eq_true c9
        clear c9
        by_cases c10 : (ji8) < 3
        · rw [if_pos c10] at H
          have c10b0 : decide ((ji8) < 3) = true := decide_eq_true c10
          clear c10
          replace H := Option.bind_eq_some_iff.mp H
          obtain ⟨⟨t212, t213, t214⟩, A130, H⟩ := H
          replace H : ((object_Find.f k a0 a1 true (wrap32 (bt (⟨#[41, 93, 125]⟩ : ByteArray) (ji8)))).bind fun bt215 => (if t214 = true then (if bt215.2.2 = true then ((bureauref02_Align.f k a0 a1).bind fun t218 => (if t212 < 1 then (bureaulaw13_ObjectBrackets.j0 k a0 (bt (⟨#[40, 91, 123]⟩ : ByteArray) (ji8)) (bt (⟨#[41, 93, 125]⟩ : ByteArray) (ji8)) t212 t213 true) else (if t212 > t213 then (bureaulaw13_ObjectBrackets.j0 k a0 (bt (⟨#[40, 91, 123]⟩ : ByteArray) (ji8)) (bt (⟨#[41, 93, 125]⟩ : ByteArray) (ji8)) t212 t213 true) else (if t213 ≥ (a0.size : Int) then (bureaulaw13_ObjectBrackets.j0 k a0 (bt (⟨#[40, 91, 123]⟩ : ByteArray) (ji8)) (bt (⟨#[41, 93, 125]⟩ : ByteArray) (ji8)) t212 t213 true) else (if bt215.1 = (wrap64 (t212 - 1)) then (if bt215.2.1 = (wrap64 (t213 + 1)) then (if 0 ≤ bt215.1 then (if bt215.1 < (a0.size : Int) then (if (bt a0 bt215.1) = (bt (⟨#[40, 91, 123]⟩ : ByteArray) (ji8)) then (if 0 ≤ t213 then (if t213 < (a0.size : Int) then (if (bt a0 t213) = (bt (⟨#[41, 93, 125]⟩ : ByteArray) (ji8)) then (if t218 < bt215.1 then (bureaulaw13_ObjectBrackets.j0 k a0 (bt (⟨#[40, 91, 123]⟩ : ByteArray) (ji8)) (bt (⟨#[41, 93, 125]⟩ : ByteArray) (ji8)) t212 t213 true) else (bureaulaw13_ObjectBrackets.j0 k a0 (bt (⟨#[40, 91, 123]⟩ : ByteArray) (ji8)) (bt (⟨#[41, 93, 125]⟩ : ByteArray) (ji8)) t212 t213 (decide (t218 > t213)))) else (bureaulaw13_ObjectBrackets.j0 k a0 (bt (⟨#[40, 91, 123]⟩ : ByteArray) (ji8)) (bt (⟨#[41, 93, 125]⟩ : ByteArray) (ji8)) t212 t213 true)) else (none)) else (none)) else (bureaulaw13_ObjectBrackets.j0 k a0 (bt (⟨#[40, 91, 123]⟩ : ByteArray) (ji8)) (bt (⟨#[41, 93, 125]⟩ : ByteArray) (ji8)) t212 t213 true)) else (none)) else (none)) else (bureaulaw13_ObjectBrackets.j0 k a0 (bt (⟨#[40, 91, 123]⟩ : ByteArray) (ji8)) (bt (⟨#[41, 93, 125]⟩ : ByteArray) (ji8)) t212 t213 true)) else (bureaulaw13_ObjectBrackets.j0 k a0 (bt (⟨#[40, 91, 123]⟩ : ByteArray) (ji8)) (bt (⟨#[41, 93, 125]⟩ : ByteArray) (ji8)) t212 t213 true)))))) else (some false)) else (if bt215.2.2 = true then (some false) else (some true)))) = some r := H
          have A13 := Aside0.mk A130
          clear A130
          replace H := Option.bind_eq_some_iff.mp H
          obtain ⟨⟨t215, t216, t217⟩, A140, H⟩ := H
          replace H : (if t214 = true then (if t217 = true then ((bureauref02_Align.f k a0 a1).bind fun t218 => (if t212 < 1 then (bureaulaw13_ObjectBrackets.j0 k a0 (bt (⟨#[40, 91, 123]⟩ : ByteArray) (ji8)) (bt (⟨#[41, 93, 125]⟩ : ByteArray) (ji8)) t212 t213 true) else (if t212 > t213 then (bureaulaw13_ObjectBrackets.j0 k a0 (bt (⟨#[40, 91, 123]⟩ : ByteArray) (ji8)) (bt (⟨#[41, 93, 125]⟩ : ByteArray) (ji8)) t212 t213 true) else (if t213 ≥ (a0.size : Int) then (bureaulaw13_ObjectBrackets.j0 k a0 (bt (⟨#[40, 91, 123]⟩ : ByteArray) (ji8)) (bt (⟨#[41, 93, 125]⟩ : ByteArray) (ji8)) t212 t213 true) else (if t215 = (wrap64 (t212 - 1)) then (if t216 = (wrap64 (t213 + 1)) then (if 0 ≤ t215 then (if t215 < (a0.size : Int) then (if (bt a0 t215) = (bt (⟨#[40, 91, 123]⟩ : ByteArray) (ji8)) then (if 0 ≤ t213 then (if t213 < (a0.size : Int) then (if (bt a0 t213) = (bt (⟨#[41, 93, 125]⟩ : ByteArray) (ji8)) then (if t218 < t215 then (bureaulaw13_ObjectBrackets.j0 k a0 (bt (⟨#[40, 91, 123]⟩ : ByteArray) (ji8)) (bt (⟨#[41, 93, 125]⟩ : ByteArray) (ji8)) t212 t213 true) else (bureaulaw13_ObjectBrackets.j0 k a0 (bt (⟨#[40, 91, 123]⟩ : ByteArray) (ji8)) (bt (⟨#[41, 93, 125]⟩ : ByteArray) (ji8)) t212 t213 (decide (t218 > t213)))) else (bureaulaw13_ObjectBrackets.j0 k a0 (bt (⟨#[40, 91, 123]⟩ : ByteArray) (ji8)) (bt (⟨#[41, 93, 125]⟩ : ByteArray) (ji8)) t212 t213 true)) else (none)) else (none)) else (bureaulaw13_ObjectBrackets.j0 k a0 (bt (⟨#[40, 91, 123]⟩ : ByteArray) (ji8)) (bt (⟨#[41, 93, 125]⟩ : ByteArray) (ji8)) t212 t213 true)) else (none)) else (none)) else (bureaulaw13_ObjectBrackets.j0 k a0 (bt (⟨#[40, 91, 123]⟩ : ByteArray) (ji8)) (bt (⟨#[41, 93, 125]⟩ : ByteArray) (ji8)) t212 t213 true)) else (bureaulaw13_ObjectBrackets.j0 k a0 (bt (⟨#[40, 91, 123]⟩ : ByteArray) (ji8)) (bt (⟨#[41, 93, 125]⟩ : ByteArray) (ji8)) t212 t213 true)))))) else (some false)) else (if t217 = true then (some false) else (some true))) = some r := H
          have A14 := Aside0.mk A140
          clear A140
          by_cases c15 : t214 = true
          · subst c15
            have H1 : (if t217 = true then ((bureauref02_Align.f k a0 a1).bind fun t218 => (if t212 < 1 then (bureaulaw13_ObjectBrackets.j0 k a0 (bt (⟨#[40, 91, 123]⟩ : ByteArray) (ji8)) (bt (⟨#[41, 93, 125]⟩ : ByteArray) (ji8)) t212 t213 true) else (if t212 > t213 then (bureaulaw13_ObjectBrackets.j0 k a0 (bt (⟨#[40, 91, 123]⟩ : ByteArray) (ji8)) (bt (⟨#[41, 93, 125]⟩ : ByteArray) (ji8)) t212 t213 true) else (if t213 ≥ (a0.size : Int) then (bureaulaw13_ObjectBrackets.j0 k a0 (bt (⟨#[40, 91, 123]⟩ : ByteArray) (ji8)) (bt (⟨#[41, 93, 125]⟩ : ByteArray) (ji8)) t212 t213 true) else (if t215 = (wrap64 (t212 - 1)) then (if t216 = (wrap64 (t213 + 1)) then (if 0 ≤ t215 then (if t215 < (a0.size : Int) then (if (bt a0 t215) = (bt (⟨#[40, 91, 123]⟩ : ByteArray) (ji8)) then (if 0 ≤ t213 then (if t213 < (a0.size : Int) then (if (bt a0 t213) = (bt (⟨#[41, 93, 125]⟩ : ByteArray) (ji8)) then (if t218 < t215 then (bureaulaw13_ObjectBrackets.j0 k a0 (bt (⟨#[40, 91, 123]⟩ : ByteArray) (ji8)) (bt (⟨#[41, 93, 125]⟩ : ByteArray) (ji8)) t212 t213 true) else (bureaulaw13_ObjectBrackets.j0 k a0 (bt (⟨#[40, 91, 123]⟩ : ByteArray) (ji8)) (bt (⟨#[41, 93, 125]⟩ : ByteArray) (ji8)) t212 t213 (decide (t218 > t213)))) else (bureaulaw13_ObjectBrackets.j0 k a0 (bt (⟨#[40, 91, 123]⟩ : ByteArray) (ji8)) (bt (⟨#[41, 93, 125]⟩ : ByteArray) (ji8)) t212 t213 true)) else (none)) else (none)) else (bureaulaw13_ObjectBrackets.j0 k a0 (bt (⟨#[40, 91, 123]⟩ : ByteArray) (ji8)) (bt (⟨#[41, 93, 125]⟩ : ByteArray) (ji8)) t212 t213 true)) else (none)) else (none)) else (bureaulaw13_ObjectBrackets.j0 k a0 (bt (⟨#[40, 91, 123]⟩ : ByteArray) (ji8)) (bt (⟨#[41, 93, 125]⟩ : ByteArray) (ji8)) t212 t213 true)) else (bureaulaw13_ObjectBrackets.j0 k a0 (bt (⟨#[40, 91, 123]⟩ : ByteArray) (ji8)) (bt (⟨#[41, 93, 125]⟩ : ByteArray) (ji8)) t212 t213 true)))))) else (some false)) = some r := by rw [if_pos rfl] at H; exact H
            clear H
            have H := H1
            clear H1
            by_cases c16 : t217 = true
            · subst c16
              have H1 : ((bureauref02_Align.f k a0 a1).bind fun t218 => (if t212 < 1 then (bureaulaw13_ObjectBrackets.j0 k a0 (bt (⟨#[40, 91, 123]⟩ : ByteArray) (ji8)) (bt (⟨#[41, 93, 125]⟩ : ByteArray) (ji8)) t212 t213 true) else (if t212 > t213 then (bureaulaw13_ObjectBrackets.j0 k a0 (bt (⟨#[40, 91, 123]⟩ : ByteArray) (ji8)) (bt (⟨#[41, 93, 125]⟩ : ByteArray) (ji8)) t212 t213 true) else (if t213 ≥ (a0.size : Int) then (bureaulaw13_ObjectBrackets.j0 k a0 (bt (⟨#[40, 91, 123]⟩ : ByteArray) (ji8)) (bt (⟨#[41, 93, 125]⟩ : ByteArray) (ji8)) t212 t213 true) else (if t215 = (wrap64 (t212 - 1)) then (if t216 = (wrap64 (t213 + 1)) then (if 0 ≤ t215 then (if t215 < (a0.size : Int) then (if (bt a0 t215) = (bt (⟨#[40, 91, 123]⟩ : ByteArray) (ji8)) then (if 0 ≤ t213 then (if t213 < (a0.size : Int) then (if (bt a0 t213) = (bt (⟨#[41, 93, 125]⟩ : ByteArray) (ji8)) then (if t218 < t215 then (bureaulaw13_ObjectBrackets.j0 k a0 (bt (⟨#[40, 91, 123]⟩ : ByteArray) (ji8)) (bt (⟨#[41, 93, 125]⟩ : ByteArray) (ji8)) t212 t213 true) else (bureaulaw13_ObjectBrackets.j0 k a0 (bt (⟨#[40, 91, 123]⟩ : ByteArray) (ji8)) (bt (⟨#[41, 93, 125]⟩ : ByteArray) (ji8)) t212 t213 (decide (t218 > t213)))) else (bureaulaw13_ObjectBrackets.j0 k a0 (bt (⟨#[40, 91, 123]⟩ : ByteArray) (ji8)) (bt (⟨#[41, 93, 125]⟩ : ByteArray) (ji8)) t212 t213 true)) else (none)) else (none)) else (bureaulaw13_ObjectBrackets.j0 k a0 (bt (⟨#[40, 91, 123]⟩ : ByteArray) (ji8)) (bt (⟨#[41, 93, 125]⟩ : ByteArray) (ji8)) t212 t213 true)) else (none)) else (none)) else (bureaulaw13_ObjectBrackets.j0 k a0 (bt (⟨#[40, 91, 123]⟩ : ByteArray) (ji8)) (bt (⟨#[41, 93, 125]⟩ : ByteArray) (ji8)) t212 t213 true)) else (bureaulaw13_ObjectBrackets.j0 k a0 (bt (⟨#[40, 91, 123]⟩ : ByteArray) (ji8)) (bt (⟨#[41, 93, 125]⟩ : ByteArray) (ji8)) t212 t213 true)))))) = some r := by rw [if_pos rfl] at H; exact H
              clear H
              have H := H1
              clear H1
              replace H := Option.bind_eq_some_iff.mp H
              obtain ⟨t218, A170, H⟩ := H
              replace H : (if t212 < 1 then (bureaulaw13_ObjectBrackets.j0 k a0 (bt (⟨#[40, 91, 123]⟩ : ByteArray) (ji8)) (bt (⟨#[41, 93, 125]⟩ : ByteArray) (ji8)) t212 t213 true) else (if t212 > t213 then (bureaulaw13_ObjectBrackets.j0 k a0 (bt (⟨#[40, 91, 123]⟩ : ByteArray) (ji8)) (bt (⟨#[41, 93, 125]⟩ : ByteArray) (ji8)) t212 t213 true) else (if t213 ≥ (a0.size : Int) then (bureaulaw13_ObjectBrackets.j0 k a0 (bt (⟨#[40, 91, 123]⟩ : ByteArray) (ji8)) (bt (⟨#[41, 93, 125]⟩ : ByteArray) (ji8)) t212 t213 true) else (if t215 = (wrap64 (t212 - 1)) then (if t216 = (wrap64 (t213 + 1)) then (if 0 ≤ t215 then (if t215 < (a0.size : Int) then (if (bt a0 t215) = (bt (⟨#[40, 91, 123]⟩ : ByteArray) (ji8)) then (if 0 ≤ t213 then (if t213 < (a0.size : Int) then (if (bt a0 t213) = (bt (⟨#[41, 93, 125]⟩ : ByteArray) (ji8)) then (if t218 < t215 then (bureaulaw13_ObjectBrackets.j0 k a0 (bt (⟨#[40, 91, 123]⟩ : ByteArray) (ji8)) (bt (⟨#[41, 93, 125]⟩ : ByteArray) (ji8)) t212 t213 true) else (bureaulaw13_ObjectBrackets.j0 k a0 (bt (⟨#[40, 91, 123]⟩ : ByteArray) (ji8)) (bt (⟨#[41, 93, 125]⟩ : ByteArray) (ji8)) t212 t213 (decide (t218 > t213)))) else (bureaulaw13_ObjectBrackets.j0 k a0 (bt (⟨#[40, 91, 123]⟩ : ByteArray) (ji8)) (bt (⟨#[41, 93, 125]⟩ : ByteArray) (ji8)) t212 t213 true)) else (none)) else (none)) else (bureaulaw13_ObjectBrackets.j0 k a0 (bt (⟨#[40, 91, 123]⟩ : ByteArray) (ji8)) (bt (⟨#[41, 93, 125]⟩ : ByteArray) (ji8)) t212 t213 true)) else (none)) else (none)) else (bureaulaw13_ObjectBrackets.j0 k a0 (bt (⟨#[40, 91, 123]⟩ : ByteArray) (ji8)) (bt (⟨#[41, 93, 125]⟩ : ByteArray) (ji8)) t212 t213 true)) else (bureaulaw13_ObjectBrackets.j0 k a0 (bt (⟨#[40, 91, 123]⟩ : ByteArray) (ji8)) (bt (⟨#[41, 93, 125]⟩ : ByteArray) (ji8)) t212 t213 true))))) = some r := H
              have A17 := Aside0.mk A170
              clear A170
              have HC18 := Aside0.mk H
              clear H
              go_enter Tryd.func5, Tryd.ntmps5
              go_upto_region 14 with (first | (go_at_call 7; (with_reducible refine (bureaulaw13_alive.calls k  true _ A4.out ?sideT).mono ?_); (case sideT => first | exact HTABS.out | exact HTABS.out.below (by repeat (first | (with_reducible first | exact HB.out | apply below_alloc | apply pw_below_drewN | apply below_drew1) | exact HB.out)) (Nat.le_refl _) | exact HTABS.out.below (Below.drew (Below.refl _ _)) (Nat.le_refl _)); rintro e w19 ⟨rfl, hb⟩; have n0_ := Aside0.mk (below_step (by repeat (first | (with_reducible first | exact HB.out | apply below_alloc | apply pw_below_drewN | apply below_drew1) | exact HB.out)) hb); clear HB; have HB := n0_; clear n0_; (try clear hb); (try clear hb2); (try clear hk); (try clear hi); have p11 : 0 ≤ ((ji8) : Int) := of_decide_eq_true (by first | (with_reducible assumption) | assumption); have q11 : (ji8) < (3 : Int) := of_decide_eq_true (by first | (with_reducible assumption) | assumption); have hx11 := bt_at (⟨#[40, 91, 123]⟩ : ByteArray) (ji8); replace p11 := eq_true p11; replace q11 := eq_true q11; have p12 : 0 ≤ ((ji8) : Int) := of_decide_eq_true (by first | (with_reducible assumption) | assumption); have q12 : (ji8) < (3 : Int) := of_decide_eq_true (by first | (with_reducible assumption) | assumption); have hx12 := bt_at (⟨#[41, 93, 125]⟩ : ByteArray) (ji8); replace p12 := eq_true p12; replace q12 := eq_true q12) | (go_at_call 8; (with_reducible refine (object_Find.calls k a0 a1 false (wrap32 (bt (⟨#[40, 91, 123]⟩ : ByteArray) (ji8))) t212 t213 true _ A13.out ?sideT).mono ?_); (case sideT => first | exact HTABS.out | exact HTABS.out.below (by repeat (first | (with_reducible first | exact HB.out | apply below_alloc | apply pw_below_drewN | apply below_drew1) | exact HB.out)) (Nat.le_refl _) | exact HTABS.out.below (Below.drew (Below.refl _ _)) (Nat.le_refl _)); rintro e w20 ⟨rfl, hb⟩; have n0_ := Aside0.mk (below_step (by repeat (first | (with_reducible first | exact HB.out | apply below_alloc | apply pw_below_drewN | apply below_drew1) | exact HB.out)) hb); clear HB; have HB := n0_; clear n0_; (try clear hb); (try clear hb2); (try clear hk); (try clear hi)) | (go_at_call 8; (with_reducible refine (object_Find.calls k a0 a1 true (wrap32 (bt (⟨#[41, 93, 125]⟩ : ByteArray) (ji8))) t215 t216 true _ A14.out ?sideT).mono ?_); (case sideT => first | exact HTABS.out | exact HTABS.out.below (by repeat (first | (with_reducible first | exact HB.out | apply below_alloc | apply pw_below_drewN | apply below_drew1) | exact HB.out)) (Nat.le_refl _) | exact HTABS.out.below (Below.drew (Below.refl _ _)) (Nat.le_refl _)); rintro e w21 ⟨rfl, hb⟩; have n0_ := Aside0.mk (below_step (by repeat (first | (with_reducible first | exact HB.out | apply below_alloc | apply pw_below_drewN | apply below_drew1) | exact HB.out)) hb); clear HB; have HB := n0_; clear n0_; (try clear hb); (try clear hb2); (try clear hk); (try clear hi)) | (go_at_call 10; (with_reducible refine (bureauref02_Align.calls k a0 a1 t218 _ A17.out ?sideT).mono ?_); (case sideT => first | exact HTABS.out | exact HTABS.out.below (by repeat (first | (with_reducible first | exact HB.out | apply below_alloc | apply pw_below_drewN | apply below_drew1) | exact HB.out)) (Nat.le_refl _) | exact HTABS.out.below (Below.drew (Below.refl _ _)) (Nat.le_refl _)); rintro e w22 ⟨rfl, hb⟩; have n0_ := Aside0.mk (below_step (by repeat (first | (with_reducible first | exact HB.out | apply below_alloc | apply pw_below_drewN | apply below_drew1) | exact HB.out)) hb); clear HB; have HB := n0_; clear n0_; (try clear hb); (try clear hb2); (try clear hk); (try clear hi)))
              repeat (go_quiet (first | (go_at_call 7; (with_reducible refine (bureaulaw13_alive.calls k  true _ A4.out ?sideT).mono ?_); (case sideT => first | exact HTABS.out | exact HTABS.out.below (by repeat (first | (with_reducible first | exact HB.out | apply below_alloc | apply pw_below_drewN | apply below_drew1) | exact HB.out)) (Nat.le_refl _) | exact HTABS.out.below (Below.drew (Below.refl _ _)) (Nat.le_refl _)); rintro e w19 ⟨rfl, hb⟩; have n0_ := Aside0.mk (below_step (by repeat (first | (with_reducible first | exact HB.out | apply below_alloc | apply pw_below_drewN | apply below_drew1) | exact HB.out)) hb); clear HB; have HB := n0_; clear n0_; (try clear hb); (try clear hb2); (try clear hk); (try clear hi); have p11 : 0 ≤ ((ji8) : Int) := of_decide_eq_true (by first | (with_reducible assumption) | assumption); have q11 : (ji8) < (3 : Int) := of_decide_eq_true (by first | (with_reducible assumption) | assumption); have hx11 := bt_at (⟨#[40, 91, 123]⟩ : ByteArray) (ji8); replace p11 := eq_true p11; replace q11 := eq_true q11; have p12 : 0 ≤ ((ji8) : Int) := of_decide_eq_true (by first | (with_reducible assumption) | assumption); have q12 : (ji8) < (3 : Int) := of_decide_eq_true (by first | (with_reducible assumption) | assumption); have hx12 := bt_at (⟨#[41, 93, 125]⟩ : ByteArray) (ji8); replace p12 := eq_true p12; replace q12 := eq_true q12) | (go_at_call 8; (with_reducible refine (object_Find.calls k a0 a1 false (wrap32 (bt (⟨#[40, 91, 123]⟩ : ByteArray) (ji8))) t212 t213 true _ A13.out ?sideT).mono ?_); (case sideT => first | exact HTABS.out | exact HTABS.out.below (by repeat (first | (with_reducible first | exact HB.out | apply below_alloc | apply pw_below_drewN | apply below_drew1) | exact HB.out)) (Nat.le_refl _) | exact HTABS.out.below (Below.drew (Below.refl _ _)) (Nat.le_refl _)); rintro e w20 ⟨rfl, hb⟩; have n0_ := Aside0.mk (below_step (by repeat (first | (with_reducible first | exact HB.out | apply below_alloc | apply pw_below_drewN | apply below_drew1) | exact HB.out)) hb); clear HB; have HB := n0_; clear n0_; (try clear hb); (try clear hb2); (try clear hk); (try clear hi)) | (go_at_call 8; (with_reducible refine (object_Find.calls k a0 a1 true (wrap32 (bt (⟨#[41, 93, 125]⟩ : ByteArray) (ji8))) t215 t216 true _ A14.out ?sideT).mono ?_); (case sideT => first | exact HTABS.out | exact HTABS.out.below (by repeat (first | (with_reducible first | exact HB.out | apply below_alloc | apply pw_below_drewN | apply below_drew1) | exact HB.out)) (Nat.le_refl _) | exact HTABS.out.below (Below.drew (Below.refl _ _)) (Nat.le_refl _)); rintro e w21 ⟨rfl, hb⟩; have n0_ := Aside0.mk (below_step (by repeat (first | (with_reducible first | exact HB.out | apply below_alloc | apply pw_below_drewN | apply below_drew1) | exact HB.out)) hb); clear HB; have HB := n0_; clear n0_; (try clear hb); (try clear hb2); (try clear hk); (try clear hi)) | (go_at_call 10; (with_reducible refine (bureauref02_Align.calls k a0 a1 t218 _ A17.out ?sideT).mono ?_); (case sideT => first | exact HTABS.out | exact HTABS.out.below (by repeat (first | (with_reducible first | exact HB.out | apply below_alloc | apply pw_below_drewN | apply below_drew1) | exact HB.out)) (Nat.le_refl _) | exact HTABS.out.below (Below.drew (Below.refl _ _)) (Nat.le_refl _)); rintro e w22 ⟨rfl, hb⟩; have n0_ := Aside0.mk (below_step (by repeat (first | (with_reducible first | exact HB.out | apply below_alloc | apply pw_below_drewN | apply below_drew1) | exact HB.out)) hb); clear HB; have HB := n0_; clear n0_; (try clear hb); (try clear hb2); (try clear hk); (try clear hi))); go_upto_region 14 with (first | (go_at_call 7; (with_reducible refine (bureaulaw13_alive.calls k  true _ A4.out ?sideT).mono ?_); (case sideT => first | exact HTABS.out | exact HTABS.out.below (by repeat (first | (with_reducible first | exact HB.out | apply below_alloc | apply pw_below_drewN | apply below_drew1) | exact HB.out)) (Nat.le_refl _) | exact HTABS.out.below (Below.drew (Below.refl _ _)) (Nat.le_refl _)); rintro e w19 ⟨rfl, hb⟩; have n0_ := Aside0.mk (below_step (by repeat (first | (with_reducible first | exact HB.out | apply below_alloc | apply pw_below_drewN | apply below_drew1) | exact HB.out)) hb); clear HB; have HB := n0_; clear n0_; (try clear hb); (try clear hb2); (try clear hk); (try clear hi); have p11 : 0 ≤ ((ji8) : Int) := of_decide_eq_true (by first | (with_reducible assumption) | assumption); have q11 : (ji8) < (3 : Int) := of_decide_eq_true (by first | (with_reducible assumption) | assumption); have hx11 := bt_at (⟨#[40, 91, 123]⟩ : ByteArray) (ji8); replace p11 := eq_true p11; replace q11 := eq_true q11; have p12 : 0 ≤ ((ji8) : Int) := of_decide_eq_true (by first | (with_reducible assumption) | assumption); have q12 : (ji8) < (3 : Int) := of_decide_eq_true (by first | (with_reducible assumption) | assumption); have hx12 := bt_at (⟨#[41, 93, 125]⟩ : ByteArray) (ji8); replace p12 := eq_true p12; replace q12 := eq_true q12) | (go_at_call 8; (with_reducible refine (object_Find.calls k a0 a1 false (wrap32 (bt (⟨#[40, 91, 123]⟩ : ByteArray) (ji8))) t212 t213 true _ A13.out ?sideT).mono ?_); (case sideT => first | exact HTABS.out | exact HTABS.out.below (by repeat (first | (with_reducible first | exact HB.out | apply below_alloc | apply pw_below_drewN | apply below_drew1) | exact HB.out)) (Nat.le_refl _) | exact HTABS.out.below (Below.drew (Below.refl _ _)) (Nat.le_refl _)); rintro e w20 ⟨rfl, hb⟩; have n0_ := Aside0.mk (below_step (by repeat (first | (with_reducible first | exact HB.out | apply below_alloc | apply pw_below_drewN | apply below_drew1) | exact HB.out)) hb); clear HB; have HB := n0_; clear n0_; (try clear hb); (try clear hb2); (try clear hk); (try clear hi)) | (go_at_call 8; (with_reducible refine (object_Find.calls k a0 a1 true (wrap32 (bt (⟨#[41, 93, 125]⟩ : ByteArray) (ji8))) t215 t216 true _ A14.out ?sideT).mono ?_); (case sideT => first | exact HTABS.out | exact HTABS.out.below (by repeat (first | (with_reducible first | exact HB.out | apply below_alloc | apply pw_below_drewN | apply below_drew1) | exact HB.out)) (Nat.le_refl _) | exact HTABS.out.below (Below.drew (Below.refl _ _)) (Nat.le_refl _)); rintro e w21 ⟨rfl, hb⟩; have n0_ := Aside0.mk (below_step (by repeat (first | (with_reducible first | exact HB.out | apply below_alloc | apply pw_below_drewN | apply below_drew1) | exact HB.out)) hb); clear HB; have HB := n0_; clear n0_; (try clear hb); (try clear hb2); (try clear hk); (try clear hi)) | (go_at_call 10; (with_reducible refine (bureauref02_Align.calls k a0 a1 t218 _ A17.out ?sideT).mono ?_); (case sideT => first | exact HTABS.out | exact HTABS.out.below (by repeat (first | (with_reducible first | exact HB.out | apply below_alloc | apply pw_below_drewN | apply below_drew1) | exact HB.out)) (Nat.le_refl _) | exact HTABS.out.below (Below.drew (Below.refl _ _)) (Nat.le_refl _)); rintro e w22 ⟨rfl, hb⟩; have n0_ := Aside0.mk (below_step (by repeat (first | (with_reducible first | exact HB.out | apply below_alloc | apply pw_below_drewN | apply below_drew1) | exact HB.out)) hb); clear HB; have HB := n0_; clear n0_; (try clear hb); (try clear hb2); (try clear hk); (try clear hi))))
              (try simp only [Act.put, List.setIfInBounds_toArray, List.set_cons_zero, List.set_cons_succ])
              go_cut [105] (fun v105 wc => ∃ (kq : Nat) (x105_17 : Bool), v105 = .bool x105_17 ∧ Aside0 (bureaulaw13_ObjectBrackets.j0 kq a0 (bt (⟨#[40, 91, 123]⟩ : ByteArray) (ji8)) (bt (⟨#[41, 93, 125]⟩ : ByteArray) (ji8)) t212 t213 x105_17 = some r) ∧ Aside0 (kq ≤ k) ∧ Aside0 (Below w.heap.size w wc))
              case first =>
                have H := HC18.out
                clear HC18
                by_cases c23 : t212 < 1
                · rw [if_pos c23] at H
                  have c23b0 : decide (t212 < 1) = true := decide_eq_true c23
                  clear c23
                  (first | rw [c23b0] | (simp only [i64_w, i32_w]; rw [c23b0]) | skip)
                  have H' := Aside0.mk H
                  clear H
                  go_wp2
                  repeat (go_quiet (fail); try go_wp2)
                  go_meet
                  case rel => exact ⟨_, (true), (by first | rfl | (simp; done) | (simp [*]; done)), H', ⟨by first | omega | exact Nat.le_refl _⟩, ⟨by repeat (first | (with_reducible first | exact HB.out | apply below_alloc | apply pw_below_drewN | apply below_drew1) | exact HB.out)⟩⟩
                · rw [if_neg c23] at H
                  have c23b0 : decide (t212 < 1) = false := decide_eq_false c23
                  clear c23
                  (first | rw [c23b0] | (simp only [i64_w, i32_w]; rw [c23b0]) | skip)
                  by_cases c24 : t212 > t213
                  · rw [if_pos c24] at H
                    have c24b0 : decide (t213 < t212) = true := decide_eq_true c24
                    clear c24
                    have H' := Aside0.mk H
                    clear H
                    go_wp2
                    repeat (go_quiet (fail); try go_wp2)
                    go_meet
                    case rel => exact ⟨_, (true), (by first | rfl | (simp; done) | (simp [*]; done)), H', ⟨by first | omega | exact Nat.le_refl _⟩, ⟨by repeat (first | (with_reducible first | exact HB.out | apply below_alloc | apply pw_below_drewN | apply below_drew1) | exact HB.out)⟩⟩
                  · rw [if_neg c24] at H
                    have c24b0 : decide (t213 < t212) = false := decide_eq_false c24
                    clear c24
                    by_cases c25 : t213 ≥ (a0.size : Int)
                    · rw [if_pos c25] at H
                      have c25b0 : decide ((a0.size : Int) ≤ t213) = true := decide_eq_true c25
                      clear c25
                      have H' := Aside0.mk H
                      clear H
                      go_wp2
                      repeat (go_quiet (fail); try go_wp2)
                      go_meet
                      case rel => exact ⟨_, (true), (by first | rfl | (simp; done) | (simp [*]; done)), H', ⟨by first | omega | exact Nat.le_refl _⟩, ⟨by repeat (first | (with_reducible first | exact HB.out | apply below_alloc | apply pw_below_drewN | apply below_drew1) | exact HB.out)⟩⟩
                    · rw [if_neg c25] at H
                      have c25b0 : decide ((a0.size : Int) ≤ t213) = false := decide_eq_false c25
                      clear c25
                      by_cases c26 : t215 = (wrap64 (t212 - 1))
                      · rw [if_pos c26] at H
                        have c26b0 : (t215 == (wrap64 (t212 - 1))) = true := beq_iff_eq.mpr c26
                        have c26b1 : (t215 != (wrap64 (t212 - 1))) = false := bne_eq_false_iff_eq.mpr c26
                        clear c26
                        by_cases c27 : t216 = (wrap64 (t213 + 1))
                        · rw [if_pos c27] at H
                          have c27b0 : (t216 == (wrap64 (t213 + 1))) = true := beq_iff_eq.mpr c27
                          have c27b1 : (t216 != (wrap64 (t213 + 1))) = false := bne_eq_false_iff_eq.mpr c27
                          clear c27
                          by_cases c28 : 0 ≤ t215
                          · rw [if_pos c28] at H
                            have c28b0 : decide (0 ≤ t215) = true := decide_eq_true c28
                            clear c28
                            by_cases c29 : t215 < (a0.size : Int)
                            · rw [if_pos c29] at H
                              have c29b0 : decide (t215 < (a0.size : Int)) = true := decide_eq_true c29
                              clear c29
                              by_cases c31 : (bt a0 t215) = (bt (⟨#[40, 91, 123]⟩ : ByteArray) (ji8))
                              · rw [if_pos c31] at H
                                have c31b0 : ((bt a0 t215) == (bt (⟨#[40, 91, 123]⟩ : ByteArray) (ji8))) = true := beq_iff_eq.mpr c31
                                have c31b1 : ((bt a0 t215) != (bt (⟨#[40, 91, 123]⟩ : ByteArray) (ji8))) = false := bne_eq_false_iff_eq.mpr c31
                                clear c31
                                by_cases c32 : 0 ≤ t213
                                · rw [if_pos c32] at H
                                  have c32b0 : decide (0 ≤ t213) = true := decide_eq_true c32
                                  clear c32
                                  by_cases c33 : t213 < (a0.size : Int)
                                  · rw [if_pos c33] at H
                                    have c33b0 : decide (t213 < (a0.size : Int)) = true := decide_eq_true c33
                                    clear c33
                                    by_cases c35 : (bt a0 t213) = (bt (⟨#[41, 93, 125]⟩ : ByteArray) (ji8))
                                    · rw [if_pos c35] at H
                                      have c35b0 : ((bt a0 t213) == (bt (⟨#[41, 93, 125]⟩ : ByteArray) (ji8))) = true := beq_iff_eq.mpr c35
                                      have c35b1 : ((bt a0 t213) != (bt (⟨#[41, 93, 125]⟩ : ByteArray) (ji8))) = false := bne_eq_false_iff_eq.mpr c35
                                      clear c35
                                      by_cases c36 : t218 < t215
                                      · rw [if_pos c36] at H
                                        have c36b0 : decide (t218 < t215) = true := decide_eq_true c36
                                        clear c36
                                        have H' := Aside0.mk H
                                        clear H
                                        have p30 : 0 ≤ (t215 : Int) := of_decide_eq_true (by first | (with_reducible assumption) | assumption)
                                        have q30 : t215 < (a0.size : Int) := of_decide_eq_true (by first | (with_reducible assumption) | assumption)
                                        have hx30 := bt_at a0 t215
                                        replace p30 := eq_true p30
                                        replace q30 := eq_true q30
                                        have p34 : 0 ≤ (t213 : Int) := of_decide_eq_true (by first | (with_reducible assumption) | assumption)
                                        have q34 : t213 < (a0.size : Int) := of_decide_eq_true (by first | (with_reducible assumption) | assumption)
                                        have hx34 := bt_at a0 t213
                                        replace p34 := eq_true p34
                                        replace q34 := eq_true q34
                                        go_wp2
                                        repeat (go_quiet (fail); try go_wp2)
                                        go_meet
                                        case rel => exact ⟨_, (true), (by first | rfl | (simp; done) | (simp [*]; done)), H', ⟨by first | omega | exact Nat.le_refl _⟩, ⟨by repeat (first | (with_reducible first | exact HB.out | apply below_alloc | apply pw_below_drewN | apply below_drew1) | exact HB.out)⟩⟩
                                      · rw [if_neg c36] at H
                                        have c36b0 : decide (t218 < t215) = false := decide_eq_false c36
                                        clear c36
                                        have H' := Aside0.mk H
                                        clear H
                                        have p30 : 0 ≤ (t215 : Int) := of_decide_eq_true (by first | (with_reducible assumption) | assumption)
                                        have q30 : t215 < (a0.size : Int) := of_decide_eq_true (by first | (with_reducible assumption) | assumption)
                                        have hx30 := bt_at a0 t215
                                        replace p30 := eq_true p30
                                        replace q30 := eq_true q30
                                        have p34 : 0 ≤ (t213 : Int) := of_decide_eq_true (by first | (with_reducible assumption) | assumption)
                                        have q34 : t213 < (a0.size : Int) := of_decide_eq_true (by first | (with_reducible assumption) | assumption)
                                        have hx34 := bt_at a0 t213
                                        replace p34 := eq_true p34
                                        replace q34 := eq_true q34
                                        go_wp2
                                        repeat (go_quiet (fail); try go_wp2)
                                        go_meet
                                        case rel => exact ⟨_, (decide (t218 > t213)), (by first | rfl | (simp; done) | (simp [*]; done)), H', ⟨by first | omega | exact Nat.le_refl _⟩, ⟨by repeat (first | (with_reducible first | exact HB.out | apply below_alloc | apply pw_below_drewN | apply below_drew1) | exact HB.out)⟩⟩
                                    · rw [if_neg c35] at H
                                      have c35b0 : ((bt a0 t213) == (bt (⟨#[41, 93, 125]⟩ : ByteArray) (ji8))) = false := beq_eq_false_iff_ne.mpr c35
                                      have c35b1 : ((bt a0 t213) != (bt (⟨#[41, 93, 125]⟩ : ByteArray) (ji8))) = true := bne_iff_ne.mpr c35
                                      have H' := Aside0.mk H
                                      clear H
                                      have p30 : 0 ≤ (t215 : Int) := of_decide_eq_true (by first | (with_reducible assumption) | assumption)
                                      have q30 : t215 < (a0.size : Int) := of_decide_eq_true (by first | (with_reducible assumption) | assumption)
                                      have hx30 := bt_at a0 t215
                                      replace p30 := eq_true p30
                                      replace q30 := eq_true q30
                                      have p34 : 0 ≤ (t213 : Int) := of_decide_eq_true (by first | (with_reducible assumption) | assumption)
                                      have q34 : t213 < (a0.size : Int) := of_decide_eq_true (by first | (with_reducible assumption) | assumption)
                                      have hx34 := bt_at a0 t213
                                      replace p34 := eq_true p34
                                      replace q34 := eq_true q34
                                      go_wp2
                                      repeat (go_quiet (fail); try go_wp2)
                                      go_meet
                                      case rel => exact ⟨_, (true), (by first | rfl | (simp; done) | (simp [*]; done)), H', ⟨by first | omega | exact Nat.le_refl _⟩, ⟨by repeat (first | (with_reducible first | exact HB.out | apply below_alloc | apply pw_below_drewN | apply below_drew1) | exact HB.out)⟩⟩
                                  · rw [if_neg c33] at H
                                    exact absurd H (by simp)
                                · rw [if_neg c32] at H
                                  exact absurd H (by simp)
                              · rw [if_neg c31] at H
                                have c31b0 : ((bt a0 t215) == (bt (⟨#[40, 91, 123]⟩ : ByteArray) (ji8))) = false := beq_eq_false_iff_ne.mpr c31
                                have c31b1 : ((bt a0 t215) != (bt (⟨#[40, 91, 123]⟩ : ByteArray) (ji8))) = true := bne_iff_ne.mpr c31
                                have H' := Aside0.mk H
                                clear H
                                have p30 : 0 ≤ (t215 : Int) := of_decide_eq_true (by first | (with_reducible assumption) | assumption)
                                have q30 : t215 < (a0.size : Int) := of_decide_eq_true (by first | (with_reducible assumption) | assumption)
                                have hx30 := bt_at a0 t215
                                replace p30 := eq_true p30
                                replace q30 := eq_true q30
                                go_wp2
                                repeat (go_quiet (fail); try go_wp2)
                                go_meet
                                case rel => exact ⟨_, (true), (by first | rfl | (simp; done) | (simp [*]; done)), H', ⟨by first | omega | exact Nat.le_refl _⟩, ⟨by repeat (first | (with_reducible first | exact HB.out | apply below_alloc | apply pw_below_drewN | apply below_drew1) | exact HB.out)⟩⟩
                            · rw [if_neg c29] at H
                              exact absurd H (by simp)
                          · rw [if_neg c28] at H
                            exact absurd H (by simp)
                        · rw [if_neg c27] at H
                          have c27b0 : (t216 == (wrap64 (t213 + 1))) = false := beq_eq_false_iff_ne.mpr c27
                          have c27b1 : (t216 != (wrap64 (t213 + 1))) = true := bne_iff_ne.mpr c27
                          have H' := Aside0.mk H
                          clear H
                          go_wp2
                          repeat (go_quiet (fail); try go_wp2)
                          go_meet
                          case rel => exact ⟨_, (true), (by first | rfl | (simp; done) | (simp [*]; done)), H', ⟨by first | omega | exact Nat.le_refl _⟩, ⟨by repeat (first | (with_reducible first | exact HB.out | apply below_alloc | apply pw_below_drewN | apply below_drew1) | exact HB.out)⟩⟩
                      · rw [if_neg c26] at H
                        have c26b0 : (t215 == (wrap64 (t212 - 1))) = false := beq_eq_false_iff_ne.mpr c26
                        have c26b1 : (t215 != (wrap64 (t212 - 1))) = true := bne_iff_ne.mpr c26
                        have H' := Aside0.mk H
                        clear H
                        go_wp2
                        repeat (go_quiet (fail); try go_wp2)
                        go_meet
                        case rel => exact ⟨_, (true), (by first | rfl | (simp; done) | (simp [*]; done)), H', ⟨by first | omega | exact Nat.le_refl _⟩, ⟨by repeat (first | (with_reducible first | exact HB.out | apply below_alloc | apply pw_below_drewN | apply below_drew1) | exact HB.out)⟩⟩
              case rest =>
                clear HC18
                try clear c1
                try clear p1
                try clear q1
                try clear hx1
                try clear c2
                try clear p2
                try clear c3
                try clear p3
                try clear q3
                try clear hx3
                try clear c5
                try clear c6
                try clear c6b0
                try clear c6b1
                try clear p6
                try clear c9
                try clear c9b0
                try clear c10
                try clear c10b0
                try clear p11
                try clear q11
                try clear hx11
                try clear p12
                try clear q12
                try clear hx12
                try clear c15
                try clear c16
                try clear c23
                try clear c23b0
                try clear c24
                try clear c24b0
                try clear c25
                try clear c25b0
                try clear c26
                try clear c26b0
                try clear c26b1
                try clear c27
                try clear c27b0
                try clear c27b1
                try clear c28
                try clear c28b0
                try clear c29
                try clear c29b0
                try clear p30
                try clear q30
                try clear hx30
                try clear c31
                try clear c31b0
                try clear c31b1
                try clear c32
                try clear c32b0
                try clear p32
                try clear c33
                try clear c33b0
                try clear p34
                try clear q34
                try clear hx34
                try clear c35
                try clear c35b0
                try clear c35b1
                try clear c36
                try clear c36b0
                try clear p11
                try clear p12
                try clear p30
                try clear p34
                try clear q11
                try clear q12
                try clear q30
                try clear q34
                obtain ⟨kq, x105_17, rfl, HA, HJ17, HB⟩ := hcut
                cases kq with
                | zero => exact absurd HA.out (by simp [bureaulaw13_ObjectBrackets.j0])
                | succ kj17 =>
                  have H := HA.out
                  clear HA
                  simp only [bureaulaw13_ObjectBrackets.j0] at H
                  by_cases c37 : x105_17 = true
                  · subst c37
                    have H1 : (some false) = some r := by rw [if_pos rfl] at H; exact H
                    clear H
                    have H := H1
                    clear H1
                    obtain rfl := Option.some.inj H
                    go_wp2
                    repeat (go_quiet (fail); try go_wp2)
                    go_ret
                    exact ⟨by first | rfl | (simp [errW_none, errW_some] <;> rfl) | (simp only [← hji8]; first | rfl | (simp [errW_none, errW_some] <;> rfl)) | (simp [*, errW_none, errW_some] <;> rfl), by repeat (first | (with_reducible first | exact HB.out | apply below_alloc | apply pw_below_drewN | apply below_drew1) | exact HB.out)⟩
                  · replace c37 := Bool.eq_false_iff.mpr c37
                    subst c37
                    have H1 : (bureaulaw13_ObjectBrackets.l0 kj17 a0 (bt (⟨#[40, 91, 123]⟩ : ByteArray) (ji8)) (bt (⟨#[41, 93, 125]⟩ : ByteArray) (ji8)) t213 0 t212) = some r := by rw [if_neg (show ¬ (false = true) by decide)] at H; exact H
                    clear H
                    have H := H1
                    clear H1
                    have H' := Aside0.mk H
                    clear H
                    go_wp2
                    repeat (go_quiet (fail); try go_wp2)
                    go_loopg [17, 18] kj17 (fun kq v17 v18 w' => ∃ (x17_2 : Int) (x18_2 : Int), v17 = .int .i64 x17_2 ∧ v18 = .int .i64 x18_2 ∧ Aside0 (bureaulaw13_ObjectBrackets.l0 kq a0 (bt (⟨#[40, 91, 123]⟩ : ByteArray) (ji8)) (bt (⟨#[41, 93, 125]⟩ : ByteArray) (ji8)) t213 x17_2 x18_2 = some r) ∧ Aside0 (kq ≤ kj17) ∧ Aside0 (Below w.heap.size w w'))
                    case atStart => exact ⟨(0), (t212), (by first | rfl | (simp; done) | (simp [*]; done)), (by first | rfl | (simp; done) | (simp [*]; done)), H', ⟨Nat.le_refl _⟩, ⟨by repeat (first | (with_reducible first | exact HB.out | apply below_alloc | apply pw_below_drewN | apply below_drew1) | exact HB.out)⟩⟩
                    case round =>
                      clear H'
                      try clear c1
                      try clear p1
                      try clear q1
                      try clear hx1
                      try clear c2
                      try clear p2
                      try clear c3
                      try clear p3
                      try clear q3
                      try clear hx3
                      try clear c5
                      try clear c6
                      try clear c6b0
                      try clear c6b1
                      try clear p6
                      try clear c9
                      try clear c9b0
                      try clear c10
                      try clear c10b0
                      try clear p11
                      try clear q11
                      try clear hx11
                      try clear p12
                      try clear q12
                      try clear hx12
                      try clear c15
                      try clear c16
                      try clear c23
                      try clear c23b0
                      try clear c24
                      try clear c24b0
                      try clear c25
                      try clear c25b0
                      try clear c26
                      try clear c26b0
                      try clear c26b1
                      try clear c27
                      try clear c27b0
                      try clear c27b1
                      try clear c28
                      try clear c28b0
                      try clear c29
                      try clear c29b0
                      try clear p30
                      try clear q30
                      try clear hx30
                      try clear c31
                      try clear c31b0
                      try clear c31b1
                      try clear c32
                      try clear c32b0
                      try clear p32
                      try clear c33
                      try clear c33b0
                      try clear p34
                      try clear q34
                      try clear hx34
                      try clear c35
                      try clear c35b0
                      try clear c35b1
                      try clear c36
                      try clear c36b0
                      try clear c37
                      try clear p1
                      try clear p11
                      try clear p12
                      try clear p2
                      try clear p3
                      try clear p30
                      try clear p32
                      try clear p34
                      try clear p6
                      try clear q1
                      try clear q11
                      try clear q12
                      try clear q3
                      try clear q30
                      try clear q34
                      obtain ⟨x17_2, x18_2, rfl, rfl, HA, HK2, HB⟩ := hrel
                      cases gk with
                      | zero => exact absurd HA.out (by simp [bureaulaw13_ObjectBrackets.l0])
                      | succ k2 =>
                        have H := HA.out
                        clear HA
                        simp only [bureaulaw13_ObjectBrackets.l0] at H
                        by_cases c38 : x18_2 < t213
                        · rw [if_pos c38] at H
                          have c38b0 : decide (x18_2 < t213) = true := decide_eq_true c38
                          clear c38
                          by_cases c39 : 0 ≤ x18_2
                          · rw [if_pos c39] at H
                            have c39b0 : decide (0 ≤ x18_2) = true := decide_eq_true c39
                            clear c39
                            by_cases c40 : x18_2 < (a0.size : Int)
                            · rw [if_pos c40] at H
                              have c40b0 : decide (x18_2 < (a0.size : Int)) = true := decide_eq_true c40
                              clear c40
                              have HC42 := Aside0.mk H
                              clear H
                              have p41 : 0 ≤ (x18_2 : Int) := of_decide_eq_true (by first | (with_reducible assumption) | assumption)
                              have q41 : x18_2 < (a0.size : Int) := of_decide_eq_true (by first | (with_reducible assumption) | assumption)
                              have hx41 := bt_at a0 x18_2
                              replace p41 := eq_true p41
                              replace q41 := eq_true q41
                              go_upto_if 116 with (fail)
                              repeat (go_quiet (fail); go_upto_if 116 with (fail))
                              go_cut [17] (fun v17 wc => ∃ (kq : Nat) (x17_41 : Int), v17 = .int .i64 x17_41 ∧ Aside0 (bureaulaw13_ObjectBrackets.j2 kq a0 (bt (⟨#[40, 91, 123]⟩ : ByteArray) (ji8)) (bt (⟨#[41, 93, 125]⟩ : ByteArray) (ji8)) t213 x17_41 x18_2 = some r) ∧ Aside0 (kq ≤ k2) ∧ Aside0 (Below w.heap.size w wc))
                              case first =>
                                have H := HC42.out
                                clear HC42
                                by_cases c43 : (bt a0 x18_2) = (bt (⟨#[40, 91, 123]⟩ : ByteArray) (ji8))
                                · rw [if_pos c43] at H
                                  have c43b0 : ((bt a0 x18_2) == (bt (⟨#[40, 91, 123]⟩ : ByteArray) (ji8))) = true := beq_iff_eq.mpr c43
                                  have c43b1 : ((bt a0 x18_2) != (bt (⟨#[40, 91, 123]⟩ : ByteArray) (ji8))) = false := bne_eq_false_iff_eq.mpr c43
                                  clear c43
                                  (first | rw [c43b0] | (simp only [i64_w, i32_w]; rw [c43b0]) | skip)
                                  have H' := Aside0.mk H
                                  clear H
                                  go_wp2
                                  repeat (go_quiet (fail); try go_wp2)
                                  go_meet
                                  case rel => exact ⟨_, (wrap64 (x17_2 + 1)), (by first | rfl | (simp; done) | (simp [*]; done)), H', ⟨by have := HJ17.out; have := HK2.out; first | omega | exact Nat.le_refl _⟩, ⟨by repeat (first | (with_reducible first | exact HB.out | apply below_alloc | apply pw_below_drewN | apply below_drew1) | exact HB.out)⟩⟩
                                · rw [if_neg c43] at H
                                  have c43b0 : ((bt a0 x18_2) == (bt (⟨#[40, 91, 123]⟩ : ByteArray) (ji8))) = false := beq_eq_false_iff_ne.mpr c43
                                  have c43b1 : ((bt a0 x18_2) != (bt (⟨#[40, 91, 123]⟩ : ByteArray) (ji8))) = true := bne_iff_ne.mpr c43
                                  (first | rw [c43b0] | (simp only [i64_w, i32_w]; rw [c43b0]) | skip)
                                  have H' := Aside0.mk H
                                  clear H
                                  go_wp2
                                  repeat (go_quiet (fail); try go_wp2)
                                  go_meet
                                  case rel => exact ⟨_, (x17_2), (by first | rfl | (simp; done) | (simp [*]; done)), H', ⟨by have := HJ17.out; have := HK2.out; first | omega | exact Nat.le_refl _⟩, ⟨by repeat (first | (with_reducible first | exact HB.out | apply below_alloc | apply pw_below_drewN | apply below_drew1) | exact HB.out)⟩⟩
                              case rest =>
                                clear HC42
                                try clear c1
                                try clear p1
                                try clear q1
                                try clear hx1
                                try clear c2
                                try clear p2
                                try clear c3
                                try clear p3
                                try clear q3
                                try clear hx3
                                try clear c4
                                try clear p4
                                try clear q4
                                try clear hx4
                                try clear c5
                                try clear c6
                                try clear c6b0
                                try clear c6b1
                                try clear p6
                                try clear c9
                                try clear c9b0
                                try clear c10
                                try clear c10b0
                                try clear p11
                                try clear q11
                                try clear hx11
                                try clear p12
                                try clear q12
                                try clear hx12
                                try clear c15
                                try clear c16
                                try clear c23
                                try clear c23b0
                                try clear c24
                                try clear c24b0
                                try clear c25
                                try clear c25b0
                                try clear c26
                                try clear c26b0
                                try clear c26b1
                                try clear c27
                                try clear c27b0
                                try clear c27b1
                                try clear c28
                                try clear c28b0
                                try clear c29
                                try clear c29b0
                                try clear p30
                                try clear q30
                                try clear hx30
                                try clear c31
                                try clear c31b0
                                try clear c31b1
                                try clear c32
                                try clear c32b0
                                try clear p32
                                try clear c33
                                try clear c33b0
                                try clear p34
                                try clear q34
                                try clear hx34
                                try clear c35
                                try clear c35b0
                                try clear c35b1
                                try clear c36
                                try clear c36b0
                                try clear c37
                                try clear c38
                                try clear c38b0
                                try clear c39
                                try clear c39b0
                                try clear c40
                                try clear c40b0
                                try clear p41
                                try clear q41
                                try clear hx41
                                try clear c43
                                try clear c43b0
                                try clear c43b1
                                try clear p1
                                try clear p11
                                try clear p12
                                try clear p2
                                try clear p3
                                try clear p30
                                try clear p32
                                try clear p34
                                try clear p41
                                try clear p6
                                try clear q1
                                try clear q11
                                try clear q12
                                try clear q3
                                try clear q30
                                try clear q34
                                try clear q41
                                obtain ⟨kq, x17_41, rfl, HA, HJ41, HB⟩ := hcut
                                cases kq with
                                | zero => exact absurd HA.out (by simp [bureaulaw13_ObjectBrackets.j2])
                                | succ kj41 =>
                                  have H := HA.out
                                  clear HA
                                  simp only [bureaulaw13_ObjectBrackets.j2] at H
                                  by_cases c44 : 0 ≤ x18_2
                                  · rw [if_pos c44] at H
                                    have c44b0 : decide (0 ≤ x18_2) = true := decide_eq_true c44
                                    clear c44
                                    by_cases c45 : x18_2 < (a0.size : Int)
                                    · rw [if_pos c45] at H
                                      have c45b0 : decide (x18_2 < (a0.size : Int)) = true := decide_eq_true c45
                                      clear c45
                                      by_cases c47 : (bt a0 x18_2) = (bt (⟨#[41, 93, 125]⟩ : ByteArray) (ji8))
                                      · rw [if_pos c47] at H
                                        have c47b0 : ((bt a0 x18_2) == (bt (⟨#[41, 93, 125]⟩ : ByteArray) (ji8))) = true := beq_iff_eq.mpr c47
                                        have c47b1 : ((bt a0 x18_2) != (bt (⟨#[41, 93, 125]⟩ : ByteArray) (ji8))) = false := bne_eq_false_iff_eq.mpr c47
                                        clear c47
                                        by_cases c48 : (wrap64 (x17_41 - 1)) < 0
                                        · rw [if_pos c48] at H
                                          have c48b0 : decide ((wrap64 (x17_41 - 1)) < 0) = true := decide_eq_true c48
                                          clear c48
                                          obtain rfl := Option.some.inj H
                                          have p46 : 0 ≤ (x18_2 : Int) := of_decide_eq_true (by first | (with_reducible assumption) | assumption)
                                          have q46 : x18_2 < (a0.size : Int) := of_decide_eq_true (by first | (with_reducible assumption) | assumption)
                                          have hx46 := bt_at a0 x18_2
                                          replace p46 := eq_true p46
                                          replace q46 := eq_true q46
                                          go_wp2
                                          repeat (go_quiet (fail); try go_wp2)
                                          go_ret
                                          exact ⟨by first | rfl | (simp [errW_none, errW_some] <;> rfl) | (simp only [← hji8]; first | rfl | (simp [errW_none, errW_some] <;> rfl)) | (simp [*, errW_none, errW_some] <;> rfl), by repeat (first | (with_reducible first | exact HB.out | apply below_alloc | apply pw_below_drewN | apply below_drew1) | exact HB.out)⟩
                                        · rw [if_neg c48] at H
                                          have c48b0 : decide ((wrap64 (x17_41 - 1)) < 0) = false := decide_eq_false c48
                                          clear c48
                                          have H' := Aside0.mk H
                                          clear H
                                          have p46 : 0 ≤ (x18_2 : Int) := of_decide_eq_true (by first | (with_reducible assumption) | assumption)
                                          have q46 : x18_2 < (a0.size : Int) := of_decide_eq_true (by first | (with_reducible assumption) | assumption)
                                          have hx46 := bt_at a0 x18_2
                                          replace p46 := eq_true p46
                                          replace q46 := eq_true q46
                                          go_wp2
                                          repeat (go_quiet (fail); try go_wp2)
                                          go_roundg kj41
                                          case measure => have := HJ17.out; have := HK2.out; have := HJ41.out; omega
                                          case rel => exact ⟨(wrap64 (x17_41 - 1)), (wrap64 (x18_2 + 1)), (by first | rfl | (simp; done) | (simp [*]; done)), (by first | rfl | (simp; done) | (simp [*]; done)), H', ⟨by have := HJ17.out; have := HK2.out; have := HJ41.out; omega⟩, ⟨by repeat (first | (with_reducible first | exact HB.out | apply below_alloc | apply pw_below_drewN | apply below_drew1) | exact HB.out)⟩⟩
                                      · rw [if_neg c47] at H
                                        have c47b0 : ((bt a0 x18_2) == (bt (⟨#[41, 93, 125]⟩ : ByteArray) (ji8))) = false := beq_eq_false_iff_ne.mpr c47
                                        have c47b1 : ((bt a0 x18_2) != (bt (⟨#[41, 93, 125]⟩ : ByteArray) (ji8))) = true := bne_iff_ne.mpr c47
                                        by_cases c49 : x17_41 < 0
                                        · rw [if_pos c49] at H
                                          have c49b0 : decide (x17_41 < 0) = true := decide_eq_true c49
                                          clear c49
                                          obtain rfl := Option.some.inj H
                                          have p46 : 0 ≤ (x18_2 : Int) := of_decide_eq_true (by first | (with_reducible assumption) | assumption)
                                          have q46 : x18_2 < (a0.size : Int) := of_decide_eq_true (by first | (with_reducible assumption) | assumption)
                                          have hx46 := bt_at a0 x18_2
                                          replace p46 := eq_true p46
                                          replace q46 := eq_true q46
                                          go_wp2
                                          repeat (go_quiet (fail); try go_wp2)
                                          go_ret
                                          exact ⟨by first | rfl | (simp [errW_none, errW_some] <;> rfl) | (simp only [← hji8]; first | rfl | (simp [errW_none, errW_some] <;> rfl)) | (simp [*, errW_none, errW_some] <;> rfl), by repeat (first | (with_reducible first | exact HB.out | apply below_alloc | apply pw_below_drewN | apply below_drew1) | exact HB.out)⟩
                                        · rw [if_neg c49] at H
                                          have c49b0 : decide (x17_41 < 0) = false := decide_eq_false c49
                                          clear c49
                                          have H' := Aside0.mk H
                                          clear H
                                          have p46 : 0 ≤ (x18_2 : Int) := of_decide_eq_true (by first | (with_reducible assumption) | assumption)
                                          have q46 : x18_2 < (a0.size : Int) := of_decide_eq_true (by first | (with_reducible assumption) | assumption)
                                          have hx46 := bt_at a0 x18_2
                                          replace p46 := eq_true p46
                                          replace q46 := eq_true q46
                                          go_wp2
                                          repeat (go_quiet (fail); try go_wp2)
                                          go_roundg kj41
                                          case measure => have := HJ17.out; have := HK2.out; have := HJ41.out; omega
                                          case rel => exact ⟨(x17_41), (wrap64 (x18_2 + 1)), (by first | rfl | (simp; done) | (simp [*]; done)), (by first | rfl | (simp; done) | (simp [*]; done)), H', ⟨by have := HJ17.out; have := HK2.out; have := HJ41.out; omega⟩, ⟨by repeat (first | (with_reducible first | exact HB.out | apply below_alloc | apply pw_below_drewN | apply below_drew1) | exact HB.out)⟩⟩
                                    · rw [if_neg c45] at H
                                      exact absurd H (by simp)
                                  · rw [if_neg c44] at H
                                    exact absurd H (by simp)
                            · rw [if_neg c40] at H
                              exact absurd H (by simp)
                          · rw [if_neg c39] at H
                            exact absurd H (by simp)
                        · rw [if_neg c38] at H
                          have c38b0 : decide (x18_2 < t213) = false := decide_eq_false c38
                          clear c38
                          obtain rfl := Option.some.inj H
                          go_wp2
                          repeat (go_quiet (fail); try go_wp2)
                          go_ret
                          exact ⟨by first | rfl | (simp [errW_none, errW_some] <;> rfl) | (simp only [← hji8]; first | rfl | (simp [errW_none, errW_some] <;> rfl)) | (simp [*, errW_none, errW_some] <;> rfl), by repeat (first | (with_reducible first | exact HB.out | apply below_alloc | apply pw_below_drewN | apply below_drew1) | exact HB.out)⟩
            · replace c16 := Bool.eq_false_iff.mpr c16
              subst c16
              have H1 : (some false) = some r := by rw [if_neg (show ¬ (false = true) by decide)] at H; exact H
              clear H
              have H := H1
              clear H1
              obtain rfl := Option.some.inj H
              go_enter Tryd.func5, Tryd.ntmps5
              go_wp2_with (first | (go_at_call 7; (with_reducible refine (bureaulaw13_alive.calls k  true _ A4.out ?sideT).mono ?_); (case sideT => first | exact HTABS.out | exact HTABS.out.below (by repeat (first | (with_reducible first | exact HB.out | apply below_alloc | apply pw_below_drewN | apply below_drew1) | exact HB.out)) (Nat.le_refl _) | exact HTABS.out.below (Below.drew (Below.refl _ _)) (Nat.le_refl _)); rintro e w50 ⟨rfl, hb⟩; have n0_ := Aside0.mk (below_step (by repeat (first | (with_reducible first | exact HB.out | apply below_alloc | apply pw_below_drewN | apply below_drew1) | exact HB.out)) hb); clear HB; have HB := n0_; clear n0_; (try clear hb); (try clear hb2); (try clear hk); (try clear hi); have p11 : 0 ≤ ((ji8) : Int) := of_decide_eq_true (by first | (with_reducible assumption) | assumption); have q11 : (ji8) < (3 : Int) := of_decide_eq_true (by first | (with_reducible assumption) | assumption); have hx11 := bt_at (⟨#[40, 91, 123]⟩ : ByteArray) (ji8); replace p11 := eq_true p11; replace q11 := eq_true q11; have p12 : 0 ≤ ((ji8) : Int) := of_decide_eq_true (by first | (with_reducible assumption) | assumption); have q12 : (ji8) < (3 : Int) := of_decide_eq_true (by first | (with_reducible assumption) | assumption); have hx12 := bt_at (⟨#[41, 93, 125]⟩ : ByteArray) (ji8); replace p12 := eq_true p12; replace q12 := eq_true q12) | (go_at_call 8; (with_reducible refine (object_Find.calls k a0 a1 false (wrap32 (bt (⟨#[40, 91, 123]⟩ : ByteArray) (ji8))) t212 t213 true _ A13.out ?sideT).mono ?_); (case sideT => first | exact HTABS.out | exact HTABS.out.below (by repeat (first | (with_reducible first | exact HB.out | apply below_alloc | apply pw_below_drewN | apply below_drew1) | exact HB.out)) (Nat.le_refl _) | exact HTABS.out.below (Below.drew (Below.refl _ _)) (Nat.le_refl _)); rintro e w51 ⟨rfl, hb⟩; have n0_ := Aside0.mk (below_step (by repeat (first | (with_reducible first | exact HB.out | apply below_alloc | apply pw_below_drewN | apply below_drew1) | exact HB.out)) hb); clear HB; have HB := n0_; clear n0_; (try clear hb); (try clear hb2); (try clear hk); (try clear hi)) | (go_at_call 8; (with_reducible refine (object_Find.calls k a0 a1 true (wrap32 (bt (⟨#[41, 93, 125]⟩ : ByteArray) (ji8))) t215 t216 false _ A14.out ?sideT).mono ?_); (case sideT => first | exact HTABS.out | exact HTABS.out.below (by repeat (first | (with_reducible first | exact HB.out | apply below_alloc | apply pw_below_drewN | apply below_drew1) | exact HB.out)) (Nat.le_refl _) | exact HTABS.out.below (Below.drew (Below.refl _ _)) (Nat.le_refl _)); rintro e w52 ⟨rfl, hb⟩; have n0_ := Aside0.mk (below_step (by repeat (first | (with_reducible first | exact HB.out | apply below_alloc | apply pw_below_drewN | apply below_drew1) | exact HB.out)) hb); clear HB; have HB := n0_; clear n0_; (try clear hb); (try clear hb2); (try clear hk); (try clear hi)))
              repeat (go_quiet (first | (go_at_call 7; (with_reducible refine (bureaulaw13_alive.calls k  true _ A4.out ?sideT).mono ?_); (case sideT => first | exact HTABS.out | exact HTABS.out.below (by repeat (first | (with_reducible first | exact HB.out | apply below_alloc | apply pw_below_drewN | apply below_drew1) | exact HB.out)) (Nat.le_refl _) | exact HTABS.out.below (Below.drew (Below.refl _ _)) (Nat.le_refl _)); rintro e w50 ⟨rfl, hb⟩; have n0_ := Aside0.mk (below_step (by repeat (first | (with_reducible first | exact HB.out | apply below_alloc | apply pw_below_drewN | apply below_drew1) | exact HB.out)) hb); clear HB; have HB := n0_; clear n0_; (try clear hb); (try clear hb2); (try clear hk); (try clear hi); have p11 : 0 ≤ ((ji8) : Int) := of_decide_eq_true (by first | (with_reducible assumption) | assumption); have q11 : (ji8) < (3 : Int) := of_decide_eq_true (by first | (with_reducible assumption) | assumption); have hx11 := bt_at (⟨#[40, 91, 123]⟩ : ByteArray) (ji8); replace p11 := eq_true p11; replace q11 := eq_true q11; have p12 : 0 ≤ ((ji8) : Int) := of_decide_eq_true (by first | (with_reducible assumption) | assumption); have q12 : (ji8) < (3 : Int) := of_decide_eq_true (by first | (with_reducible assumption) | assumption); have hx12 := bt_at (⟨#[41, 93, 125]⟩ : ByteArray) (ji8); replace p12 := eq_true p12; replace q12 := eq_true q12) | (go_at_call 8; (with_reducible refine (object_Find.calls k a0 a1 false (wrap32 (bt (⟨#[40, 91, 123]⟩ : ByteArray) (ji8))) t212 t213 true _ A13.out ?sideT).mono ?_); (case sideT => first | exact HTABS.out | exact HTABS.out.below (by repeat (first | (with_reducible first | exact HB.out | apply below_alloc | apply pw_below_drewN | apply below_drew1) | exact HB.out)) (Nat.le_refl _) | exact HTABS.out.below (Below.drew (Below.refl _ _)) (Nat.le_refl _)); rintro e w51 ⟨rfl, hb⟩; have n0_ := Aside0.mk (below_step (by repeat (first | (with_reducible first | exact HB.out | apply below_alloc | apply pw_below_drewN | apply below_drew1) | exact HB.out)) hb); clear HB; have HB := n0_; clear n0_; (try clear hb); (try clear hb2); (try clear hk); (try clear hi)) | (go_at_call 8; (with_reducible refine (object_Find.calls k a0 a1 true (wrap32 (bt (⟨#[41, 93, 125]⟩ : ByteArray) (ji8))) t215 t216 false _ A14.out ?sideT).mono ?_); (case sideT => first | exact HTABS.out | exact HTABS.out.below (by repeat (first | (with_reducible first | exact HB.out | apply below_alloc | apply pw_below_drewN | apply below_drew1) | exact HB.out)) (Nat.le_refl _) | exact HTABS.out.below (Below.drew (Below.refl _ _)) (Nat.le_refl _)); rintro e w52 ⟨rfl, hb⟩; have n0_ := Aside0.mk (below_step (by repeat (first | (with_reducible first | exact HB.out | apply below_alloc | apply pw_below_drewN | apply below_drew1) | exact HB.out)) hb); clear HB; have HB := n0_; clear n0_; (try clear hb); (try clear hb2); (try clear hk); (try clear hi))); try go_wp2_with (first | (go_at_call 7; (with_reducible refine (bureaulaw13_alive.calls k  true _ A4.out ?sideT).mono ?_); (case sideT => first | exact HTABS.out | exact HTABS.out.below (by repeat (first | (with_reducible first | exact HB.out | apply below_alloc | apply pw_below_drewN | apply below_drew1) | exact HB.out)) (Nat.le_refl _) | exact HTABS.out.below (Below.drew (Below.refl _ _)) (Nat.le_refl _)); rintro e w50 ⟨rfl, hb⟩; have n0_ := Aside0.mk (below_step (by repeat (first | (with_reducible first | exact HB.out | apply below_alloc | apply pw_below_drewN | apply below_drew1) | exact HB.out)) hb); clear HB; have HB := n0_; clear n0_; (try clear hb); (try clear hb2); (try clear hk); (try clear hi); have p11 : 0 ≤ ((ji8) : Int) := of_decide_eq_true (by first | (with_reducible assumption) | assumption); have q11 : (ji8) < (3 : Int) := of_decide_eq_true (by first | (with_reducible assumption) | assumption); have hx11 := bt_at (⟨#[40, 91, 123]⟩ : ByteArray) (ji8); replace p11 := eq_true p11; replace q11 := eq_true q11; have p12 : 0 ≤ ((ji8) : Int) := of_decide_eq_true (by first | (with_reducible assumption) | assumption); have q12 : (ji8) < (3 : Int) := of_decide_eq_true (by first | (with_reducible assumption) | assumption); have hx12 := bt_at (⟨#[41, 93, 125]⟩ : ByteArray) (ji8); replace p12 := eq_true p12; replace q12 := eq_true q12) | (go_at_call 8; (with_reducible refine (object_Find.calls k a0 a1 false (wrap32 (bt (⟨#[40, 91, 123]⟩ : ByteArray) (ji8))) t212 t213 true _ A13.out ?sideT).mono ?_); (case sideT => first | exact HTABS.out | exact HTABS.out.below (by repeat (first | (with_reducible first | exact HB.out | apply below_alloc | apply pw_below_drewN | apply below_drew1) | exact HB.out)) (Nat.le_refl _) | exact HTABS.out.below (Below.drew (Below.refl _ _)) (Nat.le_refl _)); rintro e w51 ⟨rfl, hb⟩; have n0_ := Aside0.mk (below_step (by repeat (first | (with_reducible first | exact HB.out | apply below_alloc | apply pw_below_drewN | apply below_drew1) | exact HB.out)) hb); clear HB; have HB := n0_; clear n0_; (try clear hb); (try clear hb2); (try clear hk); (try clear hi)) | (go_at_call 8; (with_reducible refine (object_Find.calls k a0 a1 true (wrap32 (bt (⟨#[41, 93, 125]⟩ : ByteArray) (ji8))) t215 t216 false _ A14.out ?sideT).mono ?_); (case sideT => first | exact HTABS.out | exact HTABS.out.below (by repeat (first | (with_reducible first | exact HB.out | apply below_alloc | apply pw_below_drewN | apply below_drew1) | exact HB.out)) (Nat.le_refl _) | exact HTABS.out.below (Below.drew (Below.refl _ _)) (Nat.le_refl _)); rintro e w52 ⟨rfl, hb⟩; have n0_ := Aside0.mk (below_step (by repeat (first | (with_reducible first | exact HB.out | apply below_alloc | apply pw_below_drewN | apply below_drew1) | exact HB.out)) hb); clear HB; have HB := n0_; clear n0_; (try clear hb); (try clear hb2); (try clear hk); (try clear hi))))
              go_ret
              exact ⟨by first | rfl | (simp [errW_none, errW_some] <;> rfl) | (simp only [← hji8]; first | rfl | (simp [errW_none, errW_some] <;> rfl)) | (simp [*, errW_none, errW_some] <;> rfl), by repeat (first | (with_reducible first | exact HB.out | apply below_alloc | apply pw_below_drewN | apply below_drew1) | exact HB.out)⟩
          · replace c15 := Bool.eq_false_iff.mpr c15
            subst c15
            have H1 : (if t217 = true then (some false) else (some true)) = some r := by rw [if_neg (show ¬ (false = true) by decide)] at H; exact H
            clear H
            have H := H1
            clear H1
            by_cases c53 : t217 = true
            · subst c53
              have H1 : (some false) = some r := by rw [if_pos rfl] at H; exact H
              clear H
              have H := H1
              clear H1
              obtain rfl := Option.some.inj H
              go_enter Tryd.func5, Tryd.ntmps5
              go_wp2_with (first | (go_at_call 7; (with_reducible refine (bureaulaw13_alive.calls k  true _ A4.out ?sideT).mono ?_); (case sideT => first | exact HTABS.out | exact HTABS.out.below (by repeat (first | (with_reducible first | exact HB.out | apply below_alloc | apply pw_below_drewN | apply below_drew1) | exact HB.out)) (Nat.le_refl _) | exact HTABS.out.below (Below.drew (Below.refl _ _)) (Nat.le_refl _)); rintro e w54 ⟨rfl, hb⟩; have n0_ := Aside0.mk (below_step (by repeat (first | (with_reducible first | exact HB.out | apply below_alloc | apply pw_below_drewN | apply below_drew1) | exact HB.out)) hb); clear HB; have HB := n0_; clear n0_; (try clear hb); (try clear hb2); (try clear hk); (try clear hi); have p11 : 0 ≤ ((ji8) : Int) := of_decide_eq_true (by first | (with_reducible assumption) | assumption); have q11 : (ji8) < (3 : Int) := of_decide_eq_true (by first | (with_reducible assumption) | assumption); have hx11 := bt_at (⟨#[40, 91, 123]⟩ : ByteArray) (ji8); replace p11 := eq_true p11; replace q11 := eq_true q11; have p12 : 0 ≤ ((ji8) : Int) := of_decide_eq_true (by first | (with_reducible assumption) | assumption); have q12 : (ji8) < (3 : Int) := of_decide_eq_true (by first | (with_reducible assumption) | assumption); have hx12 := bt_at (⟨#[41, 93, 125]⟩ : ByteArray) (ji8); replace p12 := eq_true p12; replace q12 := eq_true q12) | (go_at_call 8; (with_reducible refine (object_Find.calls k a0 a1 false (wrap32 (bt (⟨#[40, 91, 123]⟩ : ByteArray) (ji8))) t212 t213 false _ A13.out ?sideT).mono ?_); (case sideT => first | exact HTABS.out | exact HTABS.out.below (by repeat (first | (with_reducible first | exact HB.out | apply below_alloc | apply pw_below_drewN | apply below_drew1) | exact HB.out)) (Nat.le_refl _) | exact HTABS.out.below (Below.drew (Below.refl _ _)) (Nat.le_refl _)); rintro e w55 ⟨rfl, hb⟩; have n0_ := Aside0.mk (below_step (by repeat (first | (with_reducible first | exact HB.out | apply below_alloc | apply pw_below_drewN | apply below_drew1) | exact HB.out)) hb); clear HB; have HB := n0_; clear n0_; (try clear hb); (try clear hb2); (try clear hk); (try clear hi)) | (go_at_call 8; (with_reducible refine (object_Find.calls k a0 a1 true (wrap32 (bt (⟨#[41, 93, 125]⟩ : ByteArray) (ji8))) t215 t216 true _ A14.out ?sideT).mono ?_); (case sideT => first | exact HTABS.out | exact HTABS.out.below (by repeat (first | (with_reducible first | exact HB.out | apply below_alloc | apply pw_below_drewN | apply below_drew1) | exact HB.out)) (Nat.le_refl _) | exact HTABS.out.below (Below.drew (Below.refl _ _)) (Nat.le_refl _)); rintro e w56 ⟨rfl, hb⟩; have n0_ := Aside0.mk (below_step (by repeat (first | (with_reducible first | exact HB.out | apply below_alloc | apply pw_below_drewN | apply below_drew1) | exact HB.out)) hb); clear HB; have HB := n0_; clear n0_; (try clear hb); (try clear hb2); (try clear hk); (try clear hi)))
              repeat (go_quiet (first | (go_at_call 7; (with_reducible refine (bureaulaw13_alive.calls k  true _ A4.out ?sideT).mono ?_); (case sideT => first | exact HTABS.out | exact HTABS.out.below (by repeat (first | (with_reducible first | exact HB.out | apply below_alloc | apply pw_below_drewN | apply below_drew1) | exact HB.out)) (Nat.le_refl _) | exact HTABS.out.below (Below.drew (Below.refl _ _)) (Nat.le_refl _)); rintro e w54 ⟨rfl, hb⟩; have n0_ := Aside0.mk (below_step (by repeat (first | (with_reducible first | exact HB.out | apply below_alloc | apply pw_below_drewN | apply below_drew1) | exact HB.out)) hb); clear HB; have HB := n0_; clear n0_; (try clear hb); (try clear hb2); (try clear hk); (try clear hi); have p11 : 0 ≤ ((ji8) : Int) := of_decide_eq_true (by first | (with_reducible assumption) | assumption); have q11 : (ji8) < (3 : Int) := of_decide_eq_true (by first | (with_reducible assumption) | assumption); have hx11 := bt_at (⟨#[40, 91, 123]⟩ : ByteArray) (ji8); replace p11 := eq_true p11; replace q11 := eq_true q11; have p12 : 0 ≤ ((ji8) : Int) := of_decide_eq_true (by first | (with_reducible assumption) | assumption); have q12 : (ji8) < (3 : Int) := of_decide_eq_true (by first | (with_reducible assumption) | assumption); have hx12 := bt_at (⟨#[41, 93, 125]⟩ : ByteArray) (ji8); replace p12 := eq_true p12; replace q12 := eq_true q12) | (go_at_call 8; (with_reducible refine (object_Find.calls k a0 a1 false (wrap32 (bt (⟨#[40, 91, 123]⟩ : ByteArray) (ji8))) t212 t213 false _ A13.out ?sideT).mono ?_); (case sideT => first | exact HTABS.out | exact HTABS.out.below (by repeat (first | (with_reducible first | exact HB.out | apply below_alloc | apply pw_below_drewN | apply below_drew1) | exact HB.out)) (Nat.le_refl _) | exact HTABS.out.below (Below.drew (Below.refl _ _)) (Nat.le_refl _)); rintro e w55 ⟨rfl, hb⟩; have n0_ := Aside0.mk (below_step (by repeat (first | (with_reducible first | exact HB.out | apply below_alloc | apply pw_below_drewN | apply below_drew1) | exact HB.out)) hb); clear HB; have HB := n0_; clear n0_; (try clear hb); (try clear hb2); (try clear hk); (try clear hi)) | (go_at_call 8; (with_reducible refine (object_Find.calls k a0 a1 true (wrap32 (bt (⟨#[41, 93, 125]⟩ : ByteArray) (ji8))) t215 t216 true _ A14.out ?sideT).mono ?_); (case sideT => first | exact HTABS.out | exact HTABS.out.below (by repeat (first | (with_reducible first | exact HB.out | apply below_alloc | apply pw_below_drewN | apply below_drew1) | exact HB.out)) (Nat.le_refl _) | exact HTABS.out.below (Below.drew (Below.refl _ _)) (Nat.le_refl _)); rintro e w56 ⟨rfl, hb⟩; have n0_ := Aside0.mk (below_step (by repeat (first | (with_reducible first | exact HB.out | apply below_alloc | apply pw_below_drewN | apply below_drew1) | exact HB.out)) hb); clear HB; have HB := n0_; clear n0_; (try clear hb); (try clear hb2); (try clear hk); (try clear hi))); try go_wp2_with (first | (go_at_call 7; (with_reducible refine (bureaulaw13_alive.calls k  true _ A4.out ?sideT).mono ?_); (case sideT => first | exact HTABS.out | exact HTABS.out.below (by repeat (first | (with_reducible first | exact HB.out | apply below_alloc | apply pw_below_drewN | apply below_drew1) | exact HB.out)) (Nat.le_refl _) | exact HTABS.out.below (Below.drew (Below.refl _ _)) (Nat.le_refl _)); rintro e w54 ⟨rfl, hb⟩; have n0_ := Aside0.mk (below_step (by repeat (first | (with_reducible first | exact HB.out | apply below_alloc | apply pw_below_drewN | apply below_drew1) | exact HB.out)) hb); clear HB; have HB := n0_; clear n0_; (try clear hb); (try clear hb2); (try clear hk); (try clear hi); have p11 : 0 ≤ ((ji8) : Int) := of_decide_eq_true (by first | (with_reducible assumption) | assumption); have q11 : (ji8) < (3 : Int) := of_decide_eq_true (by first | (with_reducible assumption) | assumption); have hx11 := bt_at (⟨#[40, 91, 123]⟩ : ByteArray) (ji8); replace p11 := eq_true p11; replace q11 := eq_true q11; have p12 : 0 ≤ ((ji8) : Int) := of_decide_eq_true (by first | (with_reducible assumption) | assumption); have q12 : (ji8) < (3 : Int) := of_decide_eq_true (by first | (with_reducible assumption) | assumption); have hx12 := bt_at (⟨#[41, 93, 125]⟩ : ByteArray) (ji8); replace p12 := eq_true p12; replace q12 := eq_true q12) | (go_at_call 8; (with_reducible refine (object_Find.calls k a0 a1 false (wrap32 (bt (⟨#[40, 91, 123]⟩ : ByteArray) (ji8))) t212 t213 false _ A13.out ?sideT).mono ?_); (case sideT => first | exact HTABS.out | exact HTABS.out.below (by repeat (first | (with_reducible first | exact HB.out | apply below_alloc | apply pw_below_drewN | apply below_drew1) | exact HB.out)) (Nat.le_refl _) | exact HTABS.out.below (Below.drew (Below.refl _ _)) (Nat.le_refl _)); rintro e w55 ⟨rfl, hb⟩; have n0_ := Aside0.mk (below_step (by repeat (first | (with_reducible first | exact HB.out | apply below_alloc | apply pw_below_drewN | apply below_drew1) | exact HB.out)) hb); clear HB; have HB := n0_; clear n0_; (try clear hb); (try clear hb2); (try clear hk); (try clear hi)) | (go_at_call 8; (with_reducible refine (object_Find.calls k a0 a1 true (wrap32 (bt (⟨#[41, 93, 125]⟩ : ByteArray) (ji8))) t215 t216 true _ A14.out ?sideT).mono ?_); (case sideT => first | exact HTABS.out | exact HTABS.out.below (by repeat (first | (with_reducible first | exact HB.out | apply below_alloc | apply pw_below_drewN | apply below_drew1) | exact HB.out)) (Nat.le_refl _) | exact HTABS.out.below (Below.drew (Below.refl _ _)) (Nat.le_refl _)); rintro e w56 ⟨rfl, hb⟩; have n0_ := Aside0.mk (below_step (by repeat (first | (with_reducible first | exact HB.out | apply below_alloc | apply pw_below_drewN | apply below_drew1) | exact HB.out)) hb); clear HB; have HB := n0_; clear n0_; (try clear hb); (try clear hb2); (try clear hk); (try clear hi))))
              go_ret
              exact ⟨by first | rfl | (simp [errW_none, errW_some] <;> rfl) | (simp only [← hji8]; first | rfl | (simp [errW_none, errW_some] <;> rfl)) | (simp [*, errW_none, errW_some] <;> rfl), by repeat (first | (with_reducible first | exact HB.out | apply below_alloc | apply pw_below_drewN | apply below_drew1) | exact HB.out)⟩
            · replace c53 := Bool.eq_false_iff.mpr c53
              subst c53
              have H1 : (some true) = some r := by rw [if_neg (show ¬ (false = true) by decide)] at H; exact H
              clear H
              have H := H1
              clear H1
              obtain rfl := Option.some.inj H
              go_enter Tryd.func5, Tryd.ntmps5
              go_wp2_with (first | (go_at_call 7; (with_reducible refine (bureaulaw13_alive.calls k  true _ A4.out ?sideT).mono ?_); (case sideT => first | exact HTABS.out | exact HTABS.out.below (by repeat (first | (with_reducible first | exact HB.out | apply below_alloc | apply pw_below_drewN | apply below_drew1) | exact HB.out)) (Nat.le_refl _) | exact HTABS.out.below (Below.drew (Below.refl _ _)) (Nat.le_refl _)); rintro e w57 ⟨rfl, hb⟩; have n0_ := Aside0.mk (below_step (by repeat (first | (with_reducible first | exact HB.out | apply below_alloc | apply pw_below_drewN | apply below_drew1) | exact HB.out)) hb); clear HB; have HB := n0_; clear n0_; (try clear hb); (try clear hb2); (try clear hk); (try clear hi); have p11 : 0 ≤ ((ji8) : Int) := of_decide_eq_true (by first | (with_reducible assumption) | assumption); have q11 : (ji8) < (3 : Int) := of_decide_eq_true (by first | (with_reducible assumption) | assumption); have hx11 := bt_at (⟨#[40, 91, 123]⟩ : ByteArray) (ji8); replace p11 := eq_true p11; replace q11 := eq_true q11; have p12 : 0 ≤ ((ji8) : Int) := of_decide_eq_true (by first | (with_reducible assumption) | assumption); have q12 : (ji8) < (3 : Int) := of_decide_eq_true (by first | (with_reducible assumption) | assumption); have hx12 := bt_at (⟨#[41, 93, 125]⟩ : ByteArray) (ji8); replace p12 := eq_true p12; replace q12 := eq_true q12) | (go_at_call 8; (with_reducible refine (object_Find.calls k a0 a1 false (wrap32 (bt (⟨#[40, 91, 123]⟩ : ByteArray) (ji8))) t212 t213 false _ A13.out ?sideT).mono ?_); (case sideT => first | exact HTABS.out | exact HTABS.out.below (by repeat (first | (with_reducible first | exact HB.out | apply below_alloc | apply pw_below_drewN | apply below_drew1) | exact HB.out)) (Nat.le_refl _) | exact HTABS.out.below (Below.drew (Below.refl _ _)) (Nat.le_refl _)); rintro e w58 ⟨rfl, hb⟩; have n0_ := Aside0.mk (below_step (by repeat (first | (with_reducible first | exact HB.out | apply below_alloc | apply pw_below_drewN | apply below_drew1) | exact HB.out)) hb); clear HB; have HB := n0_; clear n0_; (try clear hb); (try clear hb2); (try clear hk); (try clear hi)) | (go_at_call 8; (with_reducible refine (object_Find.calls k a0 a1 true (wrap32 (bt (⟨#[41, 93, 125]⟩ : ByteArray) (ji8))) t215 t216 false _ A14.out ?sideT).mono ?_); (case sideT => first | exact HTABS.out | exact HTABS.out.below (by repeat (first | (with_reducible first | exact HB.out | apply below_alloc | apply pw_below_drewN | apply below_drew1) | exact HB.out)) (Nat.le_refl _) | exact HTABS.out.below (Below.drew (Below.refl _ _)) (Nat.le_refl _)); rintro e w59 ⟨rfl, hb⟩; have n0_ := Aside0.mk (below_step (by repeat (first | (with_reducible first | exact HB.out | apply below_alloc | apply pw_below_drewN | apply below_drew1) | exact HB.out)) hb); clear HB; have HB := n0_; clear n0_; (try clear hb); (try clear hb2); (try clear hk); (try clear hi)))
              repeat (go_quiet (first | (go_at_call 7; (with_reducible refine (bureaulaw13_alive.calls k  true _ A4.out ?sideT).mono ?_); (case sideT => first | exact HTABS.out | exact HTABS.out.below (by repeat (first | (with_reducible first | exact HB.out | apply below_alloc | apply pw_below_drewN | apply below_drew1) | exact HB.out)) (Nat.le_refl _) | exact HTABS.out.below (Below.drew (Below.refl _ _)) (Nat.le_refl _)); rintro e w57 ⟨rfl, hb⟩; have n0_ := Aside0.mk (below_step (by repeat (first | (with_reducible first | exact HB.out | apply below_alloc | apply pw_below_drewN | apply below_drew1) | exact HB.out)) hb); clear HB; have HB := n0_; clear n0_; (try clear hb); (try clear hb2); (try clear hk); (try clear hi); have p11 : 0 ≤ ((ji8) : Int) := of_decide_eq_true (by first | (with_reducible assumption) | assumption); have q11 : (ji8) < (3 : Int) := of_decide_eq_true (by first | (with_reducible assumption) | assumption); have hx11 := bt_at (⟨#[40, 91, 123]⟩ : ByteArray) (ji8); replace p11 := eq_true p11; replace q11 := eq_true q11; have p12 : 0 ≤ ((ji8) : Int) := of_decide_eq_true (by first | (with_reducible assumption) | assumption); have q12 : (ji8) < (3 : Int) := of_decide_eq_true (by first | (with_reducible assumption) | assumption); have hx12 := bt_at (⟨#[41, 93, 125]⟩ : ByteArray) (ji8); replace p12 := eq_true p12; replace q12 := eq_true q12) | (go_at_call 8; (with_reducible refine (object_Find.calls k a0 a1 false (wrap32 (bt (⟨#[40, 91, 123]⟩ : ByteArray) (ji8))) t212 t213 false _ A13.out ?sideT).mono ?_); (case sideT => first | exact HTABS.out | exact HTABS.out.below (by repeat (first | (with_reducible first | exact HB.out | apply below_alloc | apply pw_below_drewN | apply below_drew1) | exact HB.out)) (Nat.le_refl _) | exact HTABS.out.below (Below.drew (Below.refl _ _)) (Nat.le_refl _)); rintro e w58 ⟨rfl, hb⟩; have n0_ := Aside0.mk (below_step (by repeat (first | (with_reducible first | exact HB.out | apply below_alloc | apply pw_below_drewN | apply below_drew1) | exact HB.out)) hb); clear HB; have HB := n0_; clear n0_; (try clear hb); (try clear hb2); (try clear hk); (try clear hi)) | (go_at_call 8; (with_reducible refine (object_Find.calls k a0 a1 true (wrap32 (bt (⟨#[41, 93, 125]⟩ : ByteArray) (ji8))) t215 t216 false _ A14.out ?sideT).mono ?_); (case sideT => first | exact HTABS.out | exact HTABS.out.below (by repeat (first | (with_reducible first | exact HB.out | apply below_alloc | apply pw_below_drewN | apply below_drew1) | exact HB.out)) (Nat.le_refl _) | exact HTABS.out.below (Below.drew (Below.refl _ _)) (Nat.le_refl _)); rintro e w59 ⟨rfl, hb⟩; have n0_ := Aside0.mk (below_step (by repeat (first | (with_reducible first | exact HB.out | apply below_alloc | apply pw_below_drewN | apply below_drew1) | exact HB.out)) hb); clear HB; have HB := n0_; clear n0_; (try clear hb); (try clear hb2); (try clear hk); (try clear hi))); try go_wp2_with (first | (go_at_call 7; (with_reducible refine (bureaulaw13_alive.calls k  true _ A4.out ?sideT).mono ?_); (case sideT => first | exact HTABS.out | exact HTABS.out.below (by repeat (first | (with_reducible first | exact HB.out | apply below_alloc | apply pw_below_drewN | apply below_drew1) | exact HB.out)) (Nat.le_refl _) | exact HTABS.out.below (Below.drew (Below.refl _ _)) (Nat.le_refl _)); rintro e w57 ⟨rfl, hb⟩; have n0_ := Aside0.mk (below_step (by repeat (first | (with_reducible first | exact HB.out | apply below_alloc | apply pw_below_drewN | apply below_drew1) | exact HB.out)) hb); clear HB; have HB := n0_; clear n0_; (try clear hb); (try clear hb2); (try clear hk); (try clear hi); have p11 : 0 ≤ ((ji8) : Int) := of_decide_eq_true (by first | (with_reducible assumption) | assumption); have q11 : (ji8) < (3 : Int) := of_decide_eq_true (by first | (with_reducible assumption) | assumption); have hx11 := bt_at (⟨#[40, 91, 123]⟩ : ByteArray) (ji8); replace p11 := eq_true p11; replace q11 := eq_true q11; have p12 : 0 ≤ ((ji8) : Int) := of_decide_eq_true (by first | (with_reducible assumption) | assumption); have q12 : (ji8) < (3 : Int) := of_decide_eq_true (by first | (with_reducible assumption) | assumption); have hx12 := bt_at (⟨#[41, 93, 125]⟩ : ByteArray) (ji8); replace p12 := eq_true p12; replace q12 := eq_true q12) | (go_at_call 8; (with_reducible refine (object_Find.calls k a0 a1 false (wrap32 (bt (⟨#[40, 91, 123]⟩ : ByteArray) (ji8))) t212 t213 false _ A13.out ?sideT).mono ?_); (case sideT => first | exact HTABS.out | exact HTABS.out.below (by repeat (first | (with_reducible first | exact HB.out | apply below_alloc | apply pw_below_drewN | apply below_drew1) | exact HB.out)) (Nat.le_refl _) | exact HTABS.out.below (Below.drew (Below.refl _ _)) (Nat.le_refl _)); rintro e w58 ⟨rfl, hb⟩; have n0_ := Aside0.mk (below_step (by repeat (first | (with_reducible first | exact HB.out | apply below_alloc | apply pw_below_drewN | apply below_drew1) | exact HB.out)) hb); clear HB; have HB := n0_; clear n0_; (try clear hb); (try clear hb2); (try clear hk); (try clear hi)) | (go_at_call 8; (with_reducible refine (object_Find.calls k a0 a1 true (wrap32 (bt (⟨#[41, 93, 125]⟩ : ByteArray) (ji8))) t215 t216 false _ A14.out ?sideT).mono ?_); (case sideT => first | exact HTABS.out | exact HTABS.out.below (by repeat (first | (with_reducible first | exact HB.out | apply below_alloc | apply pw_below_drewN | apply below_drew1) | exact HB.out)) (Nat.le_refl _) | exact HTABS.out.below (Below.drew (Below.refl _ _)) (Nat.le_refl _)); rintro e w59 ⟨rfl, hb⟩; have n0_ := Aside0.mk (below_step (by repeat (first | (with_reducible first | exact HB.out | apply below_alloc | apply pw_below_drewN | apply below_drew1) | exact HB.out)) hb); clear HB; have HB := n0_; clear n0_; (try clear hb); (try clear hb2); (try clear hk); (try clear hi))))
              go_ret
              exact ⟨by first | rfl | (simp [errW_none, errW_some] <;> rfl) | (simp only [← hji8]; first | rfl | (simp [errW_none, errW_some] <;> rfl)) | (simp [*, errW_none, errW_some] <;> rfl), by repeat (first | (with_reducible first | exact HB.out | apply below_alloc | apply pw_below_drewN | apply below_drew1) | exact HB.out)⟩
        · rw [if_neg c10] at H
          exact absurd H (by simp)
      · rw [if_neg c9] at H
        exact absurd H (by simp)
  · replace c5 := Bool.eq_false_iff.mpr c5
    subst c5
    have H1 : (some false) = some r := by rw [if_neg (show ¬ (false = true) by decide)] at H; exact H
    clear H
    have H := H1
    clear H1
    obtain rfl := Option.some.inj H
    go_enter Tryd.func5, Tryd.ntmps5
    go_wp2_with (first | (go_at_call 7; (with_reducible refine (bureaulaw13_alive.calls k  false _ A4.out ?sideT).mono ?_); (case sideT => first | exact HTABS.out | exact HTABS.out.below (by repeat (first | (with_reducible first | exact HB.out | apply below_alloc | apply pw_below_drewN | apply below_drew1) | exact HB.out)) (Nat.le_refl _) | exact HTABS.out.below (Below.drew (Below.refl _ _)) (Nat.le_refl _)); rintro e w60 ⟨rfl, hb⟩; have n0_ := Aside0.mk (below_step (by repeat (first | (with_reducible first | exact HB.out | apply below_alloc | apply pw_below_drewN | apply below_drew1) | exact HB.out)) hb); clear HB; have HB := n0_; clear n0_; (try clear hb); (try clear hb2); (try clear hk); (try clear hi)))
    repeat (go_quiet (first | (go_at_call 7; (with_reducible refine (bureaulaw13_alive.calls k  false _ A4.out ?sideT).mono ?_); (case sideT => first | exact HTABS.out | exact HTABS.out.below (by repeat (first | (with_reducible first | exact HB.out | apply below_alloc | apply pw_below_drewN | apply below_drew1) | exact HB.out)) (Nat.le_refl _) | exact HTABS.out.below (Below.drew (Below.refl _ _)) (Nat.le_refl _)); rintro e w60 ⟨rfl, hb⟩; have n0_ := Aside0.mk (below_step (by repeat (first | (with_reducible first | exact HB.out | apply below_alloc | apply pw_below_drewN | apply below_drew1) | exact HB.out)) hb); clear HB; have HB := n0_; clear n0_; (try clear hb); (try clear hb2); (try clear hk); (try clear hi))); try go_wp2_with (first | (go_at_call 7; (with_reducible refine (bureaulaw13_alive.calls k  false _ A4.out ?sideT).mono ?_); (case sideT => first | exact HTABS.out | exact HTABS.out.below (by repeat (first | (with_reducible first | exact HB.out | apply below_alloc | apply pw_below_drewN | apply below_drew1) | exact HB.out)) (Nat.le_refl _) | exact HTABS.out.below (Below.drew (Below.refl _ _)) (Nat.le_refl _)); rintro e w60 ⟨rfl, hb⟩; have n0_ := Aside0.mk (below_step (by repeat (first | (with_reducible first | exact HB.out | apply below_alloc | apply pw_below_drewN | apply below_drew1) | exact HB.out)) hb); clear HB; have HB := n0_; clear n0_; (try clear hb); (try clear hb2); (try clear hk); (try clear hi))))
    go_ret
    exact ⟨by first | rfl | (simp [errW_none, errW_some] <;> rfl) | (simp [*, errW_none, errW_some] <;> rfl), by repeat (first | (with_reducible first | exact HB.out | apply below_alloc | apply pw_below_drewN | apply below_drew1) | exact HB.out)⟩

/-- What is to be proved of bureaulaw13_ObjectBrackets: no program in it. -/
def bureaulaw13_ObjectBrackets.Pure : Prop := ∀ (a0 : ByteArray) (a1 : Int) (a2 : Int), a0.size ≤ maxLen → (Lit.int .i64 a1).wf = true → (Lit.int .u8 a2).wf = true → ∃ k, bureaulaw13_ObjectBrackets.f k a0 a1 a2 = some true

end Go.Proofs.YtcinobfflfkmjaaDoor.XObjectBrackets
