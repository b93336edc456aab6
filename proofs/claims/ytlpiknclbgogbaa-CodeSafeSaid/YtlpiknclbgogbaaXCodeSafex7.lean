-- Written by this session's program (wip/xprint.py) with the kit's print, for this claim.
import Derived.Test.YtlpiknclbgogbaaXCodeSafex0
import Derived.Test.YtlpiknclbgogbaaXCodeSafex2
import Derived.Test.YtlpiknclbgogbaaXCodeSafex3
import Derived.Test.YtlpiknclbgogbaaXCodeSafex4
import Derived.Test.YtlpiknclbgogbaaXCodeSafex5
import Derived.Test.YtlpiknclbgogbaaXCodeSafex6
namespace Go.Proofs.Ytlpiknclbgogbaa.XCodeSafe
open Go.RowKit Go.Proofs.YtlpiknclbgogbaaW.PrintWords Go.Proofs.YtlpiknclbgogbaaW.PrintLast Go.Proofs.YtlpiknclbgogbaaW.PrintMore Go.Proofs.Ytlpiknclbgogbaa.Ext
attribute [local go_sem] max2_int min2_int max_two min_two max_three min_three max_four min_four   -- for this text's walks alone
set_option linter.unusedVariables false
set_option linter.unusedSimpArgs false

/-! ### bureaulaw21_CodeSafe: function 4 -/
mutual
def bureaulaw21_CodeSafe.j0 : Nat → List (S36) → List Bool → List Int → Bool → Option (Bool)
  | 0, _, _, _, _ => none
  | k + 1, x0, x1, x5, x38 => if x38 = true then (some false) else (bureaulaw21_CodeSafe.l0 k x0 x1 x5 0 0 0 0)
def bureaulaw21_CodeSafe.l0 : Nat → List (S36) → List Bool → List Int → Int → Int → Int → Int → Option (Bool)
  | 0, _, _, _, _, _, _, _ => none
  | k + 1, x0, x1, x5, x7, x8, x9, x39 => if x39 < 3000 then (if x7 < 0 then (bureaulaw21_CodeSafe.j2 k x0 x1 x5 x7 x8 x9 x39 true) else (if x7 ≥ (x0.length : Int) then (bureaulaw21_CodeSafe.j2 k x0 x1 x5 x7 x8 x9 x39 true) else (if 0 ≤ x7 then (if x7 < (x5.length : Int) then (bureaulaw21_CodeSafe.j2 k x0 x1 x5 x7 x8 x9 x39 ((rd x5 x7) != x8)) else (none)) else (none)))) else (some true)
def bureaulaw21_CodeSafe.j2 : Nat → List (S36) → List Bool → List Int → Int → Int → Int → Int → Bool → Option (Bool)
  | 0, _, _, _, _, _, _, _, _ => none
  | k + 1, x0, x1, x5, x7, x8, x9, x39, x56 => if x56 = true then (some false) else (if 0 ≤ x7 then (if x7 < (x0.length : Int) then ((bureauref21_May.f k ((rd_T36 x0 x7).f0) ((rd_T36 x0 x7).f1)).bind fun t245 => (if t245 = true then ((bureauref21_Takes.f k ((rd_T36 x0 x7).f0) ((rd_T36 x0 x7).f1)).bind fun t246 => (bureaulaw21_CodeSafe.j3 k x0 x1 x5 x7 x8 x9 x39 (decide (x8 < t246)) ((rd_T36 x0 x7).f0) ((rd_T36 x0 x7).f1))) else (bureaulaw21_CodeSafe.j3 k x0 x1 x5 x7 x8 x9 x39 true ((rd_T36 x0 x7).f0) ((rd_T36 x0 x7).f1)))) else (none)) else (none))
def bureaulaw21_CodeSafe.j3 : Nat → List (S36) → List Bool → List Int → Int → Int → Int → Int → Bool → Int → Int → Option (Bool)
  | 0, _, _, _, _, _, _, _, _, _, _ => none
  | k + 1, x0, x1, x5, x7, x8, x9, x39, x69, x245000, x245001 => if x69 = true then (some false) else ((bureauref21_Gives.f k x245000 x245001).bind fun t247 => ((bureauref21_Takes.f k x245000 x245001).bind fun t248 => (if (wrap64 (x8 + (wrap64 (t247 - t248)))) < 0 then (bureaulaw21_CodeSafe.j4 k x0 x1 x5 x7 (wrap64 (x8 + (wrap64 (t247 - t248)))) x9 x39 true x245000 x245001) else (bureaulaw21_CodeSafe.j4 k x0 x1 x5 x7 (wrap64 (x8 + (wrap64 (t247 - t248)))) x9 x39 (decide ((wrap64 (x8 + (wrap64 (t247 - t248)))) > 16)) x245000 x245001))))
def bureaulaw21_CodeSafe.j4 : Nat → List (S36) → List Bool → List Int → Int → Int → Int → Int → Bool → Int → Int → Option (Bool)
  | 0, _, _, _, _, _, _, _, _, _, _ => none
  | k + 1, x0, x1, x5, x7, x8, x9, x39, x82, x245000, x245001 => if x82 = true then (some false) else (if x245000 = 0 then (some true) else ((bureauref21_Behind.f x0 x7).bind fun t249 => (if (t249.length : Int) > 1 then (bureaulaw21_CodeSafe.j5 k x0 x1 x5 x8 x9 t249 0 x39 (decide (x9 < (x1.length : Int)))) else (bureaulaw21_CodeSafe.j5 k x0 x1 x5 x8 x9 t249 0 x39 false))))
def bureaulaw21_CodeSafe.j5 : Nat → List (S36) → List Bool → List Int → Int → Int → List Int → Int → Int → Bool → Option (Bool)
  | 0, _, _, _, _, _, _, _, _, _ => none
  | k + 1, x0, x1, x5, x8, x9, x11, x12, x39, x97 => if x97 = true then (if 0 ≤ x9 then (if x9 < (x1.length : Int) then (if rdOf false x1 x9 = true then (if 1 < (x11.length : Int) then (bureaulaw21_CodeSafe.l0 k x0 x1 x5 (rd x11 1) x8 (wrap64 (x9 + 1)) (wrap64 (x39 + 1))) else (none)) else (if 0 ≤ x12 then (if x12 < (x11.length : Int) then (bureaulaw21_CodeSafe.l0 k x0 x1 x5 (rd x11 x12) x8 (wrap64 (x9 + 1)) (wrap64 (x39 + 1))) else (none)) else (none))) else (none)) else (none)) else (if 0 ≤ x12 then (if x12 < (x11.length : Int) then (bureaulaw21_CodeSafe.l0 k x0 x1 x5 (rd x11 x12) x8 x9 (wrap64 (x39 + 1))) else (none)) else (none))
end
def bureaulaw21_CodeSafe.f (k : Nat) (l0 : List (S36)) (l1 : List Bool) : Option (Bool) := (bureaulaw21_alive.f k).bind fun t234 => (if t234 = true then (if (l0.length : Int) > 2048 then (some true) else ((bureaulaw21_Theirs.f k l0).bind fun t235 => ((code_Depths.f k t235).bind fun bt238 => (if bt238.2 = 0 then (if (bt238.1.length : Int) = (l0.length : Int) then (bureaulaw21_CodeSafe.j0 k l0 l1 bt238.1 ((l0.length : Int) == 0)) else (bureaulaw21_CodeSafe.j0 k l0 l1 bt238.1 true)) else (some ((bt238.1.length : Int) == 0)))))) else (some false))
theorem bureaulaw21_CodeSafe.mono_l : ∀ k, (∀ y0 y1 y2 y3, LeO (bureaulaw21_CodeSafe.j0 k y0 y1 y2 y3) (bureaulaw21_CodeSafe.j0 (k + 1) y0 y1 y2 y3)) ∧ (∀ y0 y1 y2 y3 y4 y5 y6, LeO (bureaulaw21_CodeSafe.l0 k y0 y1 y2 y3 y4 y5 y6) (bureaulaw21_CodeSafe.l0 (k + 1) y0 y1 y2 y3 y4 y5 y6)) ∧ (∀ y0 y1 y2 y3 y4 y5 y6 y7, LeO (bureaulaw21_CodeSafe.j2 k y0 y1 y2 y3 y4 y5 y6 y7) (bureaulaw21_CodeSafe.j2 (k + 1) y0 y1 y2 y3 y4 y5 y6 y7)) ∧ (∀ y0 y1 y2 y3 y4 y5 y6 y7 y8 y9, LeO (bureaulaw21_CodeSafe.j3 k y0 y1 y2 y3 y4 y5 y6 y7 y8 y9) (bureaulaw21_CodeSafe.j3 (k + 1) y0 y1 y2 y3 y4 y5 y6 y7 y8 y9)) ∧ (∀ y0 y1 y2 y3 y4 y5 y6 y7 y8 y9, LeO (bureaulaw21_CodeSafe.j4 k y0 y1 y2 y3 y4 y5 y6 y7 y8 y9) (bureaulaw21_CodeSafe.j4 (k + 1) y0 y1 y2 y3 y4 y5 y6 y7 y8 y9)) ∧ (∀ y0 y1 y2 y3 y4 y5 y6 y7 y8, LeO (bureaulaw21_CodeSafe.j5 k y0 y1 y2 y3 y4 y5 y6 y7 y8) (bureaulaw21_CodeSafe.j5 (k + 1) y0 y1 y2 y3 y4 y5 y6 y7 y8))
  | 0 => ⟨fun _ _ _ _ r h => by simp [bureaulaw21_CodeSafe.j0] at h, fun _ _ _ _ _ _ _ r h => by simp [bureaulaw21_CodeSafe.l0] at h, fun _ _ _ _ _ _ _ _ r h => by simp [bureaulaw21_CodeSafe.j2] at h, fun _ _ _ _ _ _ _ _ _ _ r h => by simp [bureaulaw21_CodeSafe.j3] at h, fun _ _ _ _ _ _ _ _ _ _ r h => by simp [bureaulaw21_CodeSafe.j4] at h, fun _ _ _ _ _ _ _ _ _ r h => by simp [bureaulaw21_CodeSafe.j5] at h⟩
  | k + 1 => by
    obtain ⟨ih0, ih1, ih2, ih3, ih4, ih5⟩ := bureaulaw21_CodeSafe.mono_l k
    refine ⟨?_, ?_, ?_, ?_, ?_, ?_⟩
    · intro y0 y1 y2 y3
      unfold bureaulaw21_CodeSafe.j0
      repeat' first
      | (with_reducible exact ih0 _ _ _ _)
      | (with_reducible exact ih1 _ _ _ _ _ _ _)
      | (with_reducible exact ih2 _ _ _ _ _ _ _ _)
      | (with_reducible exact ih3 _ _ _ _ _ _ _ _ _ _)
      | (with_reducible exact ih4 _ _ _ _ _ _ _ _ _ _)
      | (with_reducible exact ih5 _ _ _ _ _ _ _ _ _)
      | (with_reducible exact bureaulaw21_Theirs.mono _ _)
      | (with_reducible exact bureaulaw21_alive.mono _)
      | (with_reducible exact bureauref21_Gives.mono _ _ _)
      | (with_reducible exact bureauref21_May.mono _ _ _)
      | (with_reducible exact bureauref21_Takes.mono _ _ _)
      | (with_reducible exact code_Depths.mono _ _)
      | (with_reducible exact LeO.refl _)
      | (with_reducible exact LeO.none _)
      | (with_reducible refine LeO.ite ?_ ?_)
      | (with_reducible refine LeO.bind ?_ (fun _ => ?_))
      | exact ih0 _ _ _ _
      | exact ih1 _ _ _ _ _ _ _
      | exact ih2 _ _ _ _ _ _ _ _
      | exact ih3 _ _ _ _ _ _ _ _ _ _
      | exact ih4 _ _ _ _ _ _ _ _ _ _
      | exact ih5 _ _ _ _ _ _ _ _ _
      | exact bureaulaw21_Theirs.mono _ _
      | exact bureaulaw21_alive.mono _
      | exact bureauref21_Gives.mono _ _ _
      | exact bureauref21_May.mono _ _ _
      | exact bureauref21_Takes.mono _ _ _
      | exact code_Depths.mono _ _
      | exact LeO.none _
      | refine LeO.ite ?_ ?_
      | refine LeO.bind ?_ (fun _ => ?_)
    · intro y0 y1 y2 y3 y4 y5 y6
      unfold bureaulaw21_CodeSafe.l0
      repeat' first
      | (with_reducible exact ih0 _ _ _ _)
      | (with_reducible exact ih1 _ _ _ _ _ _ _)
      | (with_reducible exact ih2 _ _ _ _ _ _ _ _)
      | (with_reducible exact ih3 _ _ _ _ _ _ _ _ _ _)
      | (with_reducible exact ih4 _ _ _ _ _ _ _ _ _ _)
      | (with_reducible exact ih5 _ _ _ _ _ _ _ _ _)
      | (with_reducible exact bureaulaw21_Theirs.mono _ _)
      | (with_reducible exact bureaulaw21_alive.mono _)
      | (with_reducible exact bureauref21_Gives.mono _ _ _)
      | (with_reducible exact bureauref21_May.mono _ _ _)
      | (with_reducible exact bureauref21_Takes.mono _ _ _)
      | (with_reducible exact code_Depths.mono _ _)
      | (with_reducible exact LeO.refl _)
      | (with_reducible exact LeO.none _)
      | (with_reducible refine LeO.ite ?_ ?_)
      | (with_reducible refine LeO.bind ?_ (fun _ => ?_))
      | exact ih0 _ _ _ _
      | exact ih1 _ _ _ _ _ _ _
      | exact ih2 _ _ _ _ _ _ _ _
      | exact ih3 _ _ _ _ _ _ _ _ _ _
      | exact ih4 _ _ _ _ _ _ _ _ _ _
      | exact ih5 _ _ _ _ _ _ _ _ _
      | exact bureaulaw21_Theirs.mono _ _
      | exact bureaulaw21_alive.mono _
      | exact bureauref21_Gives.mono _ _ _
      | exact bureauref21_May.mono _ _ _
      | exact bureauref21_Takes.mono _ _ _
      | exact code_Depths.mono _ _
      | exact LeO.none _
      | refine LeO.ite ?_ ?_
      | refine LeO.bind ?_ (fun _ => ?_)
    · intro y0 y1 y2 y3 y4 y5 y6 y7
      unfold bureaulaw21_CodeSafe.j2
      repeat' first
      | (with_reducible exact ih0 _ _ _ _)
      | (with_reducible exact ih1 _ _ _ _ _ _ _)
      | (with_reducible exact ih2 _ _ _ _ _ _ _ _)
      | (with_reducible exact ih3 _ _ _ _ _ _ _ _ _ _)
      | (with_reducible exact ih4 _ _ _ _ _ _ _ _ _ _)
      | (with_reducible exact ih5 _ _ _ _ _ _ _ _ _)
      | (with_reducible exact bureaulaw21_Theirs.mono _ _)
      | (with_reducible exact bureaulaw21_alive.mono _)
      | (with_reducible exact bureauref21_Gives.mono _ _ _)
      | (with_reducible exact bureauref21_May.mono _ _ _)
      | (with_reducible exact bureauref21_Takes.mono _ _ _)
      | (with_reducible exact code_Depths.mono _ _)
      | (with_reducible exact LeO.refl _)
      | (with_reducible exact LeO.none _)
      | (with_reducible refine LeO.ite ?_ ?_)
      | (with_reducible refine LeO.bind ?_ (fun _ => ?_))
      | exact ih0 _ _ _ _
      | exact ih1 _ _ _ _ _ _ _
      | exact ih2 _ _ _ _ _ _ _ _
      | exact ih3 _ _ _ _ _ _ _ _ _ _
      | exact ih4 _ _ _ _ _ _ _ _ _ _
      | exact ih5 _ _ _ _ _ _ _ _ _
      | exact bureaulaw21_Theirs.mono _ _
      | exact bureaulaw21_alive.mono _
      | exact bureauref21_Gives.mono _ _ _
      | exact bureauref21_May.mono _ _ _
      | exact bureauref21_Takes.mono _ _ _
      | exact code_Depths.mono _ _
      | exact LeO.none _
      | refine LeO.ite ?_ ?_
      | refine LeO.bind ?_ (fun _ => ?_)
    · intro y0 y1 y2 y3 y4 y5 y6 y7 y8 y9
      unfold bureaulaw21_CodeSafe.j3
      repeat' first
      | (with_reducible exact ih0 _ _ _ _)
      | (with_reducible exact ih1 _ _ _ _ _ _ _)
      | (with_reducible exact ih2 _ _ _ _ _ _ _ _)
      | (with_reducible exact ih3 _ _ _ _ _ _ _ _ _ _)
      | (with_reducible exact ih4 _ _ _ _ _ _ _ _ _ _)
      | (with_reducible exact ih5 _ _ _ _ _ _ _ _ _)
      | (with_reducible exact bureaulaw21_Theirs.mono _ _)
      | (with_reducible exact bureaulaw21_alive.mono _)
      | (with_reducible exact bureauref21_Gives.mono _ _ _)
      | (with_reducible exact bureauref21_May.mono _ _ _)
      | (with_reducible exact bureauref21_Takes.mono _ _ _)
      | (with_reducible exact code_Depths.mono _ _)
      | (with_reducible exact LeO.refl _)
      | (with_reducible exact LeO.none _)
      | (with_reducible refine LeO.ite ?_ ?_)
      | (with_reducible refine LeO.bind ?_ (fun _ => ?_))
      | exact ih0 _ _ _ _
      | exact ih1 _ _ _ _ _ _ _
      | exact ih2 _ _ _ _ _ _ _ _
      | exact ih3 _ _ _ _ _ _ _ _ _ _
      | exact ih4 _ _ _ _ _ _ _ _ _ _
      | exact ih5 _ _ _ _ _ _ _ _ _
      | exact bureaulaw21_Theirs.mono _ _
      | exact bureaulaw21_alive.mono _
      | exact bureauref21_Gives.mono _ _ _
      | exact bureauref21_May.mono _ _ _
      | exact bureauref21_Takes.mono _ _ _
      | exact code_Depths.mono _ _
      | exact LeO.none _
      | refine LeO.ite ?_ ?_
      | refine LeO.bind ?_ (fun _ => ?_)
    · intro y0 y1 y2 y3 y4 y5 y6 y7 y8 y9
      unfold bureaulaw21_CodeSafe.j4
      repeat' first
      | (with_reducible exact ih0 _ _ _ _)
      | (with_reducible exact ih1 _ _ _ _ _ _ _)
      | (with_reducible exact ih2 _ _ _ _ _ _ _ _)
      | (with_reducible exact ih3 _ _ _ _ _ _ _ _ _ _)
      | (with_reducible exact ih4 _ _ _ _ _ _ _ _ _ _)
      | (with_reducible exact ih5 _ _ _ _ _ _ _ _ _)
      | (with_reducible exact bureaulaw21_Theirs.mono _ _)
      | (with_reducible exact bureaulaw21_alive.mono _)
      | (with_reducible exact bureauref21_Gives.mono _ _ _)
      | (with_reducible exact bureauref21_May.mono _ _ _)
      | (with_reducible exact bureauref21_Takes.mono _ _ _)
      | (with_reducible exact code_Depths.mono _ _)
      | (with_reducible exact LeO.refl _)
      | (with_reducible exact LeO.none _)
      | (with_reducible refine LeO.ite ?_ ?_)
      | (with_reducible refine LeO.bind ?_ (fun _ => ?_))
      | exact ih0 _ _ _ _
      | exact ih1 _ _ _ _ _ _ _
      | exact ih2 _ _ _ _ _ _ _ _
      | exact ih3 _ _ _ _ _ _ _ _ _ _
      | exact ih4 _ _ _ _ _ _ _ _ _ _
      | exact ih5 _ _ _ _ _ _ _ _ _
      | exact bureaulaw21_Theirs.mono _ _
      | exact bureaulaw21_alive.mono _
      | exact bureauref21_Gives.mono _ _ _
      | exact bureauref21_May.mono _ _ _
      | exact bureauref21_Takes.mono _ _ _
      | exact code_Depths.mono _ _
      | exact LeO.none _
      | refine LeO.ite ?_ ?_
      | refine LeO.bind ?_ (fun _ => ?_)
    · intro y0 y1 y2 y3 y4 y5 y6 y7 y8
      unfold bureaulaw21_CodeSafe.j5
      repeat' first
      | (with_reducible exact ih0 _ _ _ _)
      | (with_reducible exact ih1 _ _ _ _ _ _ _)
      | (with_reducible exact ih2 _ _ _ _ _ _ _ _)
      | (with_reducible exact ih3 _ _ _ _ _ _ _ _ _ _)
      | (with_reducible exact ih4 _ _ _ _ _ _ _ _ _ _)
      | (with_reducible exact ih5 _ _ _ _ _ _ _ _ _)
      | (with_reducible exact bureaulaw21_Theirs.mono _ _)
      | (with_reducible exact bureaulaw21_alive.mono _)
      | (with_reducible exact bureauref21_Gives.mono _ _ _)
      | (with_reducible exact bureauref21_May.mono _ _ _)
      | (with_reducible exact bureauref21_Takes.mono _ _ _)
      | (with_reducible exact code_Depths.mono _ _)
      | (with_reducible exact LeO.refl _)
      | (with_reducible exact LeO.none _)
      | (with_reducible refine LeO.ite ?_ ?_)
      | (with_reducible refine LeO.bind ?_ (fun _ => ?_))
      | exact ih0 _ _ _ _
      | exact ih1 _ _ _ _ _ _ _
      | exact ih2 _ _ _ _ _ _ _ _
      | exact ih3 _ _ _ _ _ _ _ _ _ _
      | exact ih4 _ _ _ _ _ _ _ _ _ _
      | exact ih5 _ _ _ _ _ _ _ _ _
      | exact bureaulaw21_Theirs.mono _ _
      | exact bureaulaw21_alive.mono _
      | exact bureauref21_Gives.mono _ _ _
      | exact bureauref21_May.mono _ _ _
      | exact bureauref21_Takes.mono _ _ _
      | exact code_Depths.mono _ _
      | exact LeO.none _
      | refine LeO.ite ?_ ?_
      | refine LeO.bind ?_ (fun _ => ?_)
theorem bureaulaw21_CodeSafe.mono : ∀ a0 a1 k, LeO (bureaulaw21_CodeSafe.f k a0 a1) (bureaulaw21_CodeSafe.f (k + 1) a0 a1) := by
  intro a0 a1 k
  obtain ⟨ih0, ih1, ih2, ih3, ih4, ih5⟩ := bureaulaw21_CodeSafe.mono_l k
  unfold bureaulaw21_CodeSafe.f
  repeat' first
      | (with_reducible exact ih0 _ _ _ _)
      | (with_reducible exact ih1 _ _ _ _ _ _ _)
      | (with_reducible exact ih2 _ _ _ _ _ _ _ _)
      | (with_reducible exact ih3 _ _ _ _ _ _ _ _ _ _)
      | (with_reducible exact ih4 _ _ _ _ _ _ _ _ _ _)
      | (with_reducible exact ih5 _ _ _ _ _ _ _ _ _)
      | (with_reducible exact bureaulaw21_Theirs.mono _ _)
      | (with_reducible exact bureaulaw21_alive.mono _)
      | (with_reducible exact bureauref21_Gives.mono _ _ _)
      | (with_reducible exact bureauref21_May.mono _ _ _)
      | (with_reducible exact bureauref21_Takes.mono _ _ _)
      | (with_reducible exact code_Depths.mono _ _)
      | (with_reducible exact LeO.refl _)
      | (with_reducible exact LeO.none _)
      | (with_reducible refine LeO.ite ?_ ?_)
      | (with_reducible refine LeO.bind ?_ (fun _ => ?_))
      | exact ih0 _ _ _ _
      | exact ih1 _ _ _ _ _ _ _
      | exact ih2 _ _ _ _ _ _ _ _
      | exact ih3 _ _ _ _ _ _ _ _ _ _
      | exact ih4 _ _ _ _ _ _ _ _ _ _
      | exact ih5 _ _ _ _ _ _ _ _ _
      | exact bureaulaw21_Theirs.mono _ _
      | exact bureaulaw21_alive.mono _
      | exact bureauref21_Gives.mono _ _ _
      | exact bureauref21_May.mono _ _ _
      | exact bureauref21_Takes.mono _ _ _
      | exact code_Depths.mono _ _
      | exact LeO.none _
      | refine LeO.ite ?_ ?_
      | refine LeO.bind ?_ (fun _ => ?_)
def bureaulaw21_CodeSafe.T18 : Bool × List (List Nat × List Nat) := (true, [([], []), ([], []), ([1], [1]), ([], []), ([3, 2], [3]), ([2, 4], [2, 4]), ([0, 5], [0, 5]), ([6, 4, 0, 1, 2, 3, 4, 5, 6], [0, 6])])
def bureaulaw21_CodeSafe.B18 : List Nat := [0, 0, 2, 0, 14, 30, 63, 127]
theorem bureaulaw21_CodeSafe.tab18 : rtab .any (opsOf Try.f4 18) = bureaulaw21_CodeSafe.T18 := by kernel_rfl
theorem bureaulaw21_CodeSafe.bits18 : waitsOk bureaulaw21_CodeSafe.T18.2 bureaulaw21_CodeSafe.B18 = true := by kernel_rfl
set_option maxHeartbeats 8000000 in
set_option maxRecDepth 100000 in
theorem bureaulaw21_CodeSafe.calls (k : Nat) (A0 : Option Addr) (c0 : Nat) (l0 : List (S36)) (A1 : Option Addr) (c1 : Nat) (l1 : List Bool) (r : Bool) (w : World) (hr0 : Kd.C k36 w A0 l0.length l0) (hc0 : l0.length ≤ c0) (hr1 : Kd.C Kd.bool w A1 l1.length l1) (hc1 : l1.length ≤ c1) (h : bureaulaw21_CodeSafe.f k l0 l1 = some r) :
    Calls Try.prog 4 #[.slice A0 l0.length c0, .slice A1 l1.length c1] w fun e w' => e = .returned (.bool r) ∧ Below w.heap.size w w' := by
  have hu36 := Try.underlying36
  have HR0 := Aside0.mk hr0
  have HC0 := Aside0.mk hc0
  clear hr0 hc0
  have HR1 := Aside0.mk hr1
  have HC1 := Aside0.mk hc1
  clear hr1 hc1
  have HB := Aside0.mk (Below.refl w.heap.size w)
  have H : ((bureaulaw21_alive.f k).bind fun t234 => (if t234 = true then (if (l0.length : Int) > 2048 then (some true) else ((bureaulaw21_Theirs.f k l0).bind fun t235 => ((code_Depths.f k t235).bind fun bt238 => (if bt238.2 = 0 then (if (bt238.1.length : Int) = (l0.length : Int) then (bureaulaw21_CodeSafe.j0 k l0 l1 bt238.1 ((l0.length : Int) == 0)) else (bureaulaw21_CodeSafe.j0 k l0 l1 bt238.1 true)) else (some ((bt238.1.length : Int) == 0)))))) else (some false))) = some r := h
  clear h
  replace H := Option.bind_eq_some_iff.mp H
  obtain ⟨t234, A30, H⟩ := H
  replace H : (if t234 = true then (if (l0.length : Int) > 2048 then (some true) else ((bureaulaw21_Theirs.f k l0).bind fun t235 => ((code_Depths.f k t235).bind fun bt238 => (if bt238.2 = 0 then (if (bt238.1.length : Int) = (l0.length : Int) then (bureaulaw21_CodeSafe.j0 k l0 l1 bt238.1 ((l0.length : Int) == 0)) else (bureaulaw21_CodeSafe.j0 k l0 l1 bt238.1 true)) else (some ((bt238.1.length : Int) == 0)))))) else (some false)) = some r := H
  have A3 := Aside0.mk A30
  clear A30
  by_cases c4 : t234 = true
  · subst c4
    have H1 : (if (l0.length : Int) > 2048 then (some true) else ((bureaulaw21_Theirs.f k l0).bind fun t235 => ((code_Depths.f k t235).bind fun bt238 => (if bt238.2 = 0 then (if (bt238.1.length : Int) = (l0.length : Int) then (bureaulaw21_CodeSafe.j0 k l0 l1 bt238.1 ((l0.length : Int) == 0)) else (bureaulaw21_CodeSafe.j0 k l0 l1 bt238.1 true)) else (some ((bt238.1.length : Int) == 0)))))) = some r := by rw [if_pos rfl] at H; exact H
    clear H
    have H := H1
    clear H1
    by_cases c5 : (l0.length : Int) > 2048
    · rw [if_pos c5] at H
      have c5b0 : decide (2048 < (l0.length : Int)) = true := decide_eq_true c5
      have c5b1 : decide (2048 < l0.length) = true := decide_eq_true (by omega)
      clear c5
      obtain rfl := Option.some.inj H
      go_enter Try.func4, Try.ntmps4
      go_wp2_with (first | ((with_reducible refine gate_callee (f := 8) rfl ?_); refine goesL_ (some 13) rfl rfl Try.func8 (by kernel_rfl) rfl #[] rfl (by (try simp only [List.map_toArray, List.map_cons, List.map_nil]); first | done | rfl | (simp only [List.length_drop, List.length_take]; rfl)) ?_; (with_reducible refine (bureaulaw21_alive.calls k  true _ A3.out).mono ?_); rintro e w6 ⟨rfl, hb⟩; refine ⟨_, rfl, ?_⟩; have n0_ := Aside0.mk (below_step (by repeat (first | (with_reducible first | exact HB.out | apply below_alloc | apply pw_below_drewN | apply below_drew1) | exact HB.out)) hb); clear HB; have HB := n0_; clear n0_; (try clear hb); (try clear hb2); (try clear hk); (try clear hi)))
      go_ret
      exact ⟨by first | rfl | (simp [errW_none, errW_some] <;> rfl) | (simp [*, errW_none, errW_some] <;> rfl), by repeat (first | (with_reducible first | exact HB.out | apply below_alloc | apply pw_below_drewN | apply below_drew1) | exact HB.out)⟩
    · rw [if_neg c5] at H
      have c5b0 : decide (2048 < (l0.length : Int)) = false := decide_eq_false c5
      have c5b1 : decide (2048 < l0.length) = false := decide_eq_false (by omega)
      clear c5
      replace H := Option.bind_eq_some_iff.mp H
      obtain ⟨t235, A70, H⟩ := H
      replace H : ((code_Depths.f k t235).bind fun bt238 => (if bt238.2 = 0 then (if (bt238.1.length : Int) = (l0.length : Int) then (bureaulaw21_CodeSafe.j0 k l0 l1 bt238.1 ((l0.length : Int) == 0)) else (bureaulaw21_CodeSafe.j0 k l0 l1 bt238.1 true)) else (some ((bt238.1.length : Int) == 0)))) = some r := H
      have A7 := Aside0.mk A70
      clear A70
      replace H := Option.bind_eq_some_iff.mp H
      obtain ⟨⟨t238, t239⟩, A80, H⟩ := H
      replace H : (if t239 = 0 then (if (t238.length : Int) = (l0.length : Int) then (bureaulaw21_CodeSafe.j0 k l0 l1 t238 ((l0.length : Int) == 0)) else (bureaulaw21_CodeSafe.j0 k l0 l1 t238 true)) else (some ((t238.length : Int) == 0))) = some r := H
      have A8 := Aside0.mk A80
      clear A80
      by_cases c9 : t239 = 0
      · rw [if_pos c9] at H
        have c9b0 : (t239 == 0) = true := beq_iff_eq.mpr c9
        have c9b1 : (t239 != 0) = false := bne_eq_false_iff_eq.mpr c9
        clear c9
        have HC10 := Aside0.mk H
        clear H
        go_enter Try.func4, Try.ntmps4
        go_upto_region 8 with (first | ((with_reducible refine gate_callee (f := 8) rfl ?_); refine goesL_ (some 13) rfl rfl Try.func8 (by kernel_rfl) rfl #[] rfl (by (try simp only [List.map_toArray, List.map_cons, List.map_nil]); first | done | rfl | (simp only [List.length_drop, List.length_take]; rfl)) ?_; (with_reducible refine (bureaulaw21_alive.calls k  true _ A3.out).mono ?_); rintro e w11 ⟨rfl, hb⟩; refine ⟨_, rfl, ?_⟩; have n0_ := Aside0.mk (below_step (by repeat (first | (with_reducible first | exact HB.out | apply below_alloc | apply pw_below_drewN | apply below_drew1) | exact HB.out)) hb); clear HB; have HB := n0_; clear n0_; (try clear hb); (try clear hb2); (try clear hk); (try clear hi)) | ((with_reducible refine gate_callee (f := 10) rfl ?_); refine goesL_ (some 20) rfl rfl Try.func10 (by kernel_rfl) rfl #[.slice A0 l0.length c0] rfl (by (try simp only [List.map_toArray, List.map_cons, List.map_nil]); first | done | rfl | (simp only [List.length_drop, List.length_take]; rfl)) ?_; (with_reducible refine (bureaulaw21_Theirs.calls k _ _ l0 t235 _ ?side1 ?side2 A7.out).mono ?_); (case side1 => repeat (first | exact (Kd.C_below HR0.out HB.out) | (with_reducible refine Kd.C_alloc ?_ _) | (with_reducible refine Kd.C_drewN ?_ _) | (with_reducible refine Kd.C_drew ?_))); (case side2 => exact HC0.out); rintro e w12 ⟨v236, rfl, ho0, hb⟩; refine ⟨_, rfl, ?_⟩; have n0_ := Aside0.mk (Kd.R_lower ho0 (below_size (by repeat (first | (with_reducible first | exact HB.out | apply below_alloc | apply pw_below_drewN | apply below_drew1) | exact HB.out)))); have n1_ := Aside0.mk (below_step (by repeat (first | (with_reducible first | exact HB.out | apply below_alloc | apply pw_below_drewN | apply below_drew1) | exact HB.out)) hb); clear HB; have HO237 := n0_; have HB := n1_; clear n0_ n1_; (try clear hb); (try clear hb2); (try clear hk); (try clear hi); (try clear ho0); obtain ⟨Ao13, co13, eo13⟩ := Kd.R_slice HO237.out; subst eo13) | ((with_reducible refine gate_callee (f := 9) rfl ?_); refine goesL_ (some 21) rfl rfl Try.func9 (by kernel_rfl) rfl #[.slice Ao13 t235.length co13] rfl (by (try simp only [List.map_toArray, List.map_cons, List.map_nil]); first | done | rfl | (simp only [List.length_drop, List.length_take]; rfl)) ?_; (with_reducible refine (code_Depths.calls k _ _ t235 t238 t239 _ ?side1 ?side2 A8.out).mono ?_); (case side1 => repeat (first | exact (Kd.R_reads' HO237.out).2.2 | (with_reducible refine Kd.C_alloc ?_ _) | (with_reducible refine Kd.C_drewN ?_ _) | (with_reducible refine Kd.C_drew ?_))); (case side2 => exact (Kd.R_reads' HO237.out).2.1); rintro e w14 ⟨v240, rfl, ho0, hb⟩; refine ⟨_, rfl, ?_⟩; have n0_ := Aside0.mk (Kd.R_below (by (with_reducible repeat (first | apply Kd.R_alloc | apply Kd.R_drewN | apply Kd.R_drew)); exact HO237.out) hb); have n1_ := Aside0.mk (Kd.R_lower ho0 (below_size (by repeat (first | (with_reducible first | exact HB.out | apply below_alloc | apply pw_below_drewN | apply below_drew1) | exact HB.out)))); have n2_ := Aside0.mk (below_step (by repeat (first | (with_reducible first | exact HB.out | apply below_alloc | apply pw_below_drewN | apply below_drew1) | exact HB.out)) hb); clear HO237; clear HB; have HO237 := n0_; have HO241 := n1_; have HB := n2_; clear n0_ n1_ n2_; (try clear hb); (try clear hb2); (try clear hk); (try clear hi); (try clear ho0)))
        (try simp only [Act.put, List.setIfInBounds_toArray, List.set_cons_zero, List.set_cons_succ])
        go_cut [38] (fun v38 wc => ∃ (kq : Nat) (x38_9 : Bool), v38 = .bool x38_9 ∧ Aside0 (bureaulaw21_CodeSafe.j0 kq l0 l1 t238 x38_9 = some r) ∧ Aside0 (kq ≤ k) ∧ Aside0 (Kd.R (Kd.int .i64) 3 wc w.heap.size (fun _ => True) v240 t238) ∧ Aside0 (Below w.heap.size w wc))
        case first =>
          have H := HC10.out
          clear HC10
          by_cases c15 : (t238.length : Int) = (l0.length : Int)
          · rw [if_pos c15] at H
            have c15b0 : ((t238.length : Int) == (l0.length : Int)) = true := beq_iff_eq.mpr c15
            have c15b1 : ((t238.length : Int) != (l0.length : Int)) = false := bne_eq_false_iff_eq.mpr c15
            have c15b2 : (t238.length == l0.length) = true := by first | simpa using c15 | (simp at c15 ⊢; omega)
            clear c15
            (first | rw [c15b0] | (simp only [i64_w, i32_w]; rw [c15b0]) | skip)
            have H' := Aside0.mk H
            clear H
            obtain ⟨Ao16, co16, eo16⟩ := Kd.R_slice HO241.out
            subst eo16
            go_wp2
            go_meet
            case rel => exact ⟨_, (((l0.length : Int) == 0)), (by first | rfl | (simp; done) | (simp [*]; done)), H', ⟨by first | omega | exact Nat.le_refl _⟩, ⟨by (with_reducible repeat (first | apply Kd.R_alloc | apply Kd.R_drewN | apply Kd.R_drew)); exact HO241.out⟩, ⟨by repeat (first | (with_reducible first | exact HB.out | apply below_alloc | apply pw_below_drewN | apply below_drew1) | exact HB.out)⟩⟩
          · rw [if_neg c15] at H
            have c15b0 : ((t238.length : Int) == (l0.length : Int)) = false := beq_eq_false_iff_ne.mpr c15
            have c15b1 : ((t238.length : Int) != (l0.length : Int)) = true := bne_iff_ne.mpr c15
            have c15b2 : (t238.length == l0.length) = false := by first | simpa using c15 | (simp at c15 ⊢; omega)
            (first | rw [c15b0] | (simp only [i64_w, i32_w]; rw [c15b0]) | skip)
            have H' := Aside0.mk H
            clear H
            obtain ⟨Ao17, co17, eo17⟩ := Kd.R_slice HO241.out
            subst eo17
            go_wp2
            go_meet
            case rel => exact ⟨_, (true), (by first | rfl | (simp; done) | (simp [*]; done)), H', ⟨by first | omega | exact Nat.le_refl _⟩, ⟨by (with_reducible repeat (first | apply Kd.R_alloc | apply Kd.R_drewN | apply Kd.R_drew)); exact HO241.out⟩, ⟨by repeat (first | (with_reducible first | exact HB.out | apply below_alloc | apply pw_below_drewN | apply below_drew1) | exact HB.out)⟩⟩
        case rest =>
          clear HC10
          try clear c1
          try clear p2
          try clear c4
          try clear c5
          try clear c5b0
          try clear c5b1
          try clear c8
          try clear c9
          try clear c9b0
          try clear c9b1
          try clear c10
          try clear c15
          try clear c15b0
          try clear c15b1
          try clear c15b2
          obtain ⟨kq, x38_9, rfl, HA, HJ9, HO_5, HB⟩ := hcut
          cases kq with
          | zero => exact absurd HA.out (by simp [bureaulaw21_CodeSafe.j0])
          | succ kj9 =>
            have H := HA.out
            clear HA
            simp only [bureaulaw21_CodeSafe.j0] at H
            by_cases c18 : x38_9 = true
            · subst c18
              have H1 : (some false) = some r := by rw [if_pos rfl] at H; exact H
              clear H
              have H := H1
              clear H1
              obtain rfl := Option.some.inj H
              go_wp2
              go_ret
              exact ⟨by first | rfl | (simp [errW_none, errW_some] <;> rfl) | (simp [*, errW_none, errW_some] <;> rfl), by repeat (first | (with_reducible first | exact HB.out | apply below_alloc | apply pw_below_drewN | apply below_drew1) | exact HB.out)⟩
            · replace c18 := Bool.eq_false_iff.mpr c18
              subst c18
              have H1 : (bureaulaw21_CodeSafe.l0 kj9 l0 l1 t238 0 0 0 0) = some r := by rw [if_neg (show ¬ (false = true) by decide)] at H; exact H
              clear H
              have H := H1
              clear H1
              have H' := Aside0.mk H
              clear H
              go_wp2
              go_loopg [7, 8, 9, 39] kj9 (fun kq v7 v8 v9 v39 w' => ∃ (x7_2 : Int) (x8_2 : Int) (x9_2 : Int) (x39_2 : Int), v7 = .int .i64 x7_2 ∧ v8 = .int .i64 x8_2 ∧ v9 = .int .i64 x9_2 ∧ v39 = .int .i64 x39_2 ∧ Aside0 (bureaulaw21_CodeSafe.l0 kq l0 l1 t238 x7_2 x8_2 x9_2 x39_2 = some r) ∧ Aside0 (kq ≤ kj9) ∧ Aside0 (Kd.R (Kd.int .i64) 3 w' w.heap.size (fun _ => True) v240 t238) ∧ Aside0 (Below w.heap.size w w'))
              case atStart => exact ⟨(0), (0), (0), (0), (by first | rfl | (simp; done) | (simp [*]; done)), (by first | rfl | (simp; done) | (simp [*]; done)), (by first | rfl | (simp; done) | (simp [*]; done)), (by first | rfl | (simp; done) | (simp [*]; done)), H', ⟨Nat.le_refl _⟩, ⟨by (with_reducible repeat (first | apply Kd.R_alloc | apply Kd.R_drewN | apply Kd.R_drew)); exact HO_5.out⟩, ⟨by repeat (first | (with_reducible first | exact HB.out | apply below_alloc | apply pw_below_drewN | apply below_drew1) | exact HB.out)⟩⟩
              case round =>
                clear H'
                try clear c1
                try clear p2
                try clear c4
                try clear c5
                try clear c5b0
                try clear c5b1
                try clear c8
                try clear c9
                try clear c9b0
                try clear c9b1
                try clear c10
                try clear c15
                try clear c15b0
                try clear c15b1
                try clear c15b2
                try clear c18
                try clear p2
                obtain ⟨x7_2, x8_2, x9_2, x39_2, rfl, rfl, rfl, rfl, HA, HK2, HO_5, HB⟩ := hrel
                cases gk with
                | zero => exact absurd HA.out (by simp [bureaulaw21_CodeSafe.l0])
                | succ k2 =>
                  have H := HA.out
                  clear HA
                  simp only [bureaulaw21_CodeSafe.l0] at H
                  by_cases c19 : x39_2 < 3000
                  · rw [if_pos c19] at H
                    have c19b0 : decide (x39_2 < 3000) = true := decide_eq_true c19
                    clear c19
                    have HC20 := Aside0.mk H
                    clear H
                    go_upto_region 13 with (fail)
                    go_cut [56] (fun v56 wc => ∃ (kq : Nat) (x56_19 : Bool), v56 = .bool x56_19 ∧ Aside0 (bureaulaw21_CodeSafe.j2 kq l0 l1 t238 x7_2 x8_2 x9_2 x39_2 x56_19 = some r) ∧ Aside0 (kq ≤ k2) ∧ Aside0 (Kd.R (Kd.int .i64) 3 wc w.heap.size (fun _ => True) v240 t238) ∧ Aside0 (Below w.heap.size w wc))
                    case first =>
                      have H := HC20.out
                      clear HC20
                      by_cases c21 : x7_2 < 0
                      · rw [if_pos c21] at H
                        have c21b0 : decide (x7_2 < 0) = true := decide_eq_true c21
                        clear c21
                        (first | rw [c21b0] | (simp only [i64_w, i32_w]; rw [c21b0]) | skip)
                        have H' := Aside0.mk H
                        clear H
                        go_wp2
                        go_meet
                        case rel => exact ⟨_, (true), (by first | rfl | (simp; done) | (simp [*]; done)), H', ⟨by have := HJ9.out; have := HK2.out; first | omega | exact Nat.le_refl _⟩, ⟨by (with_reducible repeat (first | apply Kd.R_alloc | apply Kd.R_drewN | apply Kd.R_drew)); exact HO_5.out⟩, ⟨by repeat (first | (with_reducible first | exact HB.out | apply below_alloc | apply pw_below_drewN | apply below_drew1) | exact HB.out)⟩⟩
                      · rw [if_neg c21] at H
                        have c21b0 : decide (x7_2 < 0) = false := decide_eq_false c21
                        clear c21
                        (first | rw [c21b0] | (simp only [i64_w, i32_w]; rw [c21b0]) | skip)
                        by_cases c22 : x7_2 ≥ (l0.length : Int)
                        · rw [if_pos c22] at H
                          have c22b0 : decide ((l0.length : Int) ≤ x7_2) = true := decide_eq_true c22
                          clear c22
                          have H' := Aside0.mk H
                          clear H
                          go_wp2
                          go_meet
                          case rel => exact ⟨_, (true), (by first | rfl | (simp; done) | (simp [*]; done)), H', ⟨by have := HJ9.out; have := HK2.out; first | omega | exact Nat.le_refl _⟩, ⟨by (with_reducible repeat (first | apply Kd.R_alloc | apply Kd.R_drewN | apply Kd.R_drew)); exact HO_5.out⟩, ⟨by repeat (first | (with_reducible first | exact HB.out | apply below_alloc | apply pw_below_drewN | apply below_drew1) | exact HB.out)⟩⟩
                        · rw [if_neg c22] at H
                          have c22b0 : decide ((l0.length : Int) ≤ x7_2) = false := decide_eq_false c22
                          clear c22
                          by_cases c23 : 0 ≤ x7_2
                          · rw [if_pos c23] at H
                            have c23b0 : decide (0 ≤ x7_2) = true := decide_eq_true c23
                            clear c23
                            by_cases c24 : x7_2 < (t238.length : Int)
                            · rw [if_pos c24] at H
                              have c24b0 : decide (x7_2 < (t238.length : Int)) = true := decide_eq_true c24
                              clear c24
                              have H' := Aside0.mk H
                              clear H
                              obtain ⟨Ao25, co25, eo25⟩ := Kd.R_slice HO_5.out
                              subst eo25
                              have p242 : 0 ≤ (x7_2 : Int) := of_decide_eq_true (by first | (with_reducible assumption) | assumption)
                              have q242 : x7_2 < (t238.length : Int) := of_decide_eq_true (by first | (with_reducible assumption) | assumption)
                              obtain ⟨ad242, e242, hx242_0⟩ := Kd.at_int (Kd.R_reads' HO_5.out).2.2 x7_2 p242 q242
                              cases e242
                              replace p242 := eq_true p242
                              replace q242 := eq_true q242
                              go_wp2
                              go_meet
                              case rel => exact ⟨_, (((rd t238 x7_2) != x8_2)), (by first | rfl | (simp; done) | (simp [*]; done)), H', ⟨by have := HJ9.out; have := HK2.out; first | omega | exact Nat.le_refl _⟩, ⟨by (with_reducible repeat (first | apply Kd.R_alloc | apply Kd.R_drewN | apply Kd.R_drew)); exact HO_5.out⟩, ⟨by repeat (first | (with_reducible first | exact HB.out | apply below_alloc | apply pw_below_drewN | apply below_drew1) | exact HB.out)⟩⟩
                            · rw [if_neg c24] at H
                              exact absurd H (by simp)
                          · rw [if_neg c23] at H
                            exact absurd H (by simp)
                    case rest =>
                      clear HC20
                      try clear c1
                      try clear c2
                      try clear p2
                      try clear q2
                      try clear hx2
                      try clear c4
                      try clear c5
                      try clear c5b0
                      try clear c5b1
                      try clear c8
                      try clear c9
                      try clear c9b0
                      try clear c9b1
                      try clear c10
                      try clear c15
                      try clear c15b0
                      try clear c15b1
                      try clear c15b2
                      try clear c18
                      try clear c19
                      try clear c19b0
                      try clear c21
                      try clear c21b0
                      try clear c22
                      try clear c22b0
                      try clear c23
                      try clear c23b0
                      try clear c24
                      try clear c24b0
                      try clear p24
                      try clear q24
                      try clear hx24
                      try clear hx242_0
                      try clear p2
                      try clear p242
                      try clear q242
                      obtain ⟨kq, x56_19, rfl, HA, HJ19, HO_5, HB⟩ := hcut
                      cases kq with
                      | zero => exact absurd HA.out (by simp [bureaulaw21_CodeSafe.j2])
                      | succ kj19 =>
                        have H := HA.out
                        clear HA
                        simp only [bureaulaw21_CodeSafe.j2] at H
                        by_cases c26 : x56_19 = true
                        · subst c26
                          have H1 : (some false) = some r := by rw [if_pos rfl] at H; exact H
                          clear H
                          have H := H1
                          clear H1
                          obtain rfl := Option.some.inj H
                          go_wp2
                          go_ret
                          exact ⟨by first | rfl | (simp [errW_none, errW_some] <;> rfl) | (simp [*, errW_none, errW_some] <;> rfl), by repeat (first | (with_reducible first | exact HB.out | apply below_alloc | apply pw_below_drewN | apply below_drew1) | exact HB.out)⟩
                        · replace c26 := Bool.eq_false_iff.mpr c26
                          subst c26
                          have H1 : (if 0 ≤ x7_2 then (if x7_2 < (l0.length : Int) then ((bureauref21_May.f kj19 ((rd_T36 l0 x7_2).f0) ((rd_T36 l0 x7_2).f1)).bind fun t245 => (if t245 = true then ((bureauref21_Takes.f kj19 ((rd_T36 l0 x7_2).f0) ((rd_T36 l0 x7_2).f1)).bind fun t246 => (bureaulaw21_CodeSafe.j3 kj19 l0 l1 t238 x7_2 x8_2 x9_2 x39_2 (decide (x8_2 < t246)) ((rd_T36 l0 x7_2).f0) ((rd_T36 l0 x7_2).f1))) else (bureaulaw21_CodeSafe.j3 kj19 l0 l1 t238 x7_2 x8_2 x9_2 x39_2 true ((rd_T36 l0 x7_2).f0) ((rd_T36 l0 x7_2).f1)))) else (none)) else (none)) = some r := by rw [if_neg (show ¬ (false = true) by decide)] at H; exact H
                          clear H
                          have H := H1
                          clear H1
                          by_cases c27 : 0 ≤ x7_2
                          · rw [if_pos c27] at H
                            have c27b0 : decide (0 ≤ x7_2) = true := decide_eq_true c27
                            clear c27
                            by_cases c28 : x7_2 < (l0.length : Int)
                            · rw [if_pos c28] at H
                              have c28b0 : decide (x7_2 < (l0.length : Int)) = true := decide_eq_true c28
                              clear c28
                              have HC29 := Aside0.mk H
                              clear H
                              have p243 : 0 ≤ (x7_2 : Int) := of_decide_eq_true (by first | (with_reducible assumption) | assumption)
                              have q243 : x7_2 < (l0.length : Int) := of_decide_eq_true (by first | (with_reducible assumption) | assumption)
                              obtain ⟨ad243, e243, hx243_0, hx243_1⟩ := at_T36 HR0.out x7_2 p243 q243
                              cases e243
                              replace hx243_0 := (HB.out.cell (World.block_lt_of_cell? w _ hx243_0)).trans hx243_0
                              replace hx243_1 := (HB.out.cell (World.block_lt_of_cell? w _ hx243_1)).trans hx243_1
                              replace p243 := eq_true p243
                              replace q243 := eq_true q243
                              go_upto_region 16 with (first | ((with_reducible refine gate_dst (N := 10) rfl ?_); (try (refine gate_guard (by rfl) ?_; dsimp only)); refine box_event ?hg (N := 10) ?hd (cs := #[.int .i64 0, .int .i64 0]) (t := 36) ?hr ?_; (case hd => rfl); (case hg => rfl); (case hr => first | (go_simp; done) | (go_simp; rfl)); intro gb244 hg w30 hbox hb; have n0_ := Aside0.mk (Kd.R_below (by (with_reducible repeat (first | apply Kd.R_alloc | apply Kd.R_drewN | apply Kd.R_drew)); exact HO_5.out) hb); have n1_ := Aside0.mk (below_step (by repeat (first | (with_reducible first | exact HB.out | apply below_alloc | apply pw_below_drewN | apply below_drew1) | exact HB.out)) hb); have n2_ := Aside0.mk (hbox); have n3_ := Aside0.mk ((by rw [hg]; exact (below_size (by repeat (first | (with_reducible first | exact HB.out | apply below_alloc | apply pw_below_drewN | apply below_drew1) | exact HB.out))) : w.heap.size ≤ gb244)); have n4_ := Aside0.mk ((by rw [hg]; exact (below_size (by repeat (first | (with_reducible first | exact HB.out | apply below_alloc | apply pw_below_drewN | apply below_drew1) | exact HB.out))) : w.heap.size ≤ gb244)); clear HO_5; clear HB; have HO_5 := n0_; have HB := n1_; have BK244 := n2_; have GW244 := n3_; have GE244 := n4_; clear n0_ n1_ n2_ n3_ n4_; clear hb hbox hg; have hcz31_0 : w30.cell? ⟨gb244, 0, none⟩ = some (.int .i64 0) := (blk_cell BK244.out 0).trans rfl; have hcz31_1 : w30.cell? ⟨gb244, 1, none⟩ = some (.int .i64 0) := (blk_cell BK244.out 1).trans rfl; have hfz31_0 := blk_frozen BK244.out 0; have hfz31_1 := blk_frozen BK244.out 1))
                              (try simp only [Act.put, List.setIfInBounds_toArray, List.set_cons_zero, List.set_cons_succ])
                              go_cut [69] (fun v69 wc => ∃ (kq : Nat) (x69_28 : Bool), v69 = .bool x69_28 ∧ Aside0 (bureaulaw21_CodeSafe.j3 kq l0 l1 t238 x7_2 x8_2 x9_2 x39_2 x69_28 ((rd_T36 l0 x7_2).f0) ((rd_T36 l0 x7_2).f1) = some r) ∧ Aside0 (kq ≤ kj19) ∧ Aside0 (Kd.R (Kd.int .i64) 3 wc w.heap.size (fun _ => True) v240 t238) ∧ Aside0 (wc.heap[gb244]? = some (.cells #[.int .i64 ((rd_T36 l0 x7_2).f0), .int .i64 ((rd_T36 l0 x7_2).f1)] 36 (0, 0))) ∧ Aside0 (Below w.heap.size w wc))
                              case first =>
                                have H := HC29.out
                                clear HC29
                                replace H := Option.bind_eq_some_iff.mp H
                                obtain ⟨t245, A320, H⟩ := H
                                replace H : (if t245 = true then ((bureauref21_Takes.f kj19 ((rd_T36 l0 x7_2).f0) ((rd_T36 l0 x7_2).f1)).bind fun t246 => (bureaulaw21_CodeSafe.j3 kj19 l0 l1 t238 x7_2 x8_2 x9_2 x39_2 (decide (x8_2 < t246)) ((rd_T36 l0 x7_2).f0) ((rd_T36 l0 x7_2).f1))) else (bureaulaw21_CodeSafe.j3 kj19 l0 l1 t238 x7_2 x8_2 x9_2 x39_2 true ((rd_T36 l0 x7_2).f0) ((rd_T36 l0 x7_2).f1))) = some r := H
                                have A32 := Aside0.mk A320
                                clear A320
                                by_cases c33 : t245 = true
                                · subst c33
                                  have H1 : ((bureauref21_Takes.f kj19 ((rd_T36 l0 x7_2).f0) ((rd_T36 l0 x7_2).f1)).bind fun t246 => (bureaulaw21_CodeSafe.j3 kj19 l0 l1 t238 x7_2 x8_2 x9_2 x39_2 (decide (x8_2 < t246)) ((rd_T36 l0 x7_2).f0) ((rd_T36 l0 x7_2).f1))) = some r := by rw [if_pos rfl] at H; exact H
                                  clear H
                                  have H := H1
                                  clear H1
                                  replace H := Option.bind_eq_some_iff.mp H
                                  obtain ⟨t246, A340, H⟩ := H
                                  replace H : (bureaulaw21_CodeSafe.j3 kj19 l0 l1 t238 x7_2 x8_2 x9_2 x39_2 (decide (x8_2 < t246)) ((rd_T36 l0 x7_2).f0) ((rd_T36 l0 x7_2).f1)) = some r := H
                                  have A34 := Aside0.mk A340
                                  clear A340
                                  have H' := Aside0.mk H
                                  clear H
                                  have hcz35_0 : w30.cell? ⟨gb244, 0, none⟩ = some (.int .i64 0) := (blk_cell BK244.out 0).trans rfl
                                  have hcz35_1 : w30.cell? ⟨gb244, 1, none⟩ = some (.int .i64 0) := (blk_cell BK244.out 1).trans rfl
                                  have hfz35_0 := blk_frozen BK244.out 0
                                  have hfz35_1 := blk_frozen BK244.out 1
                                  go_wp2_with (first | ((with_reducible refine gate_callee (f := 13) rfl ?_); refine goesL_ (some 62) rfl rfl Try.func13 (by kernel_rfl) rfl #[.agg #[.int .i64 ((rd_T36 l0 x7_2).f0), .int .i64 ((rd_T36 l0 x7_2).f1)]] rfl (by (try simp only [List.map_toArray, List.map_cons, List.map_nil]); first | done | rfl | (simp only [List.length_drop, List.length_take]; rfl)) ?_; (with_reducible refine (bureauref21_May.calls kj19 ((rd_T36 l0 x7_2).f0) ((rd_T36 l0 x7_2).f1) true _ A32.out).mono ?_); rintro e w36 ⟨rfl, hb⟩; refine ⟨_, rfl, ?_⟩; have n0_ := Aside0.mk (Kd.R_below (by (with_reducible repeat (first | apply Kd.R_alloc | apply Kd.R_drewN | apply Kd.R_drew)); exact (Kd.R_mono (Kd.R_far (p := ⟨gb244, 1, none⟩) (Kd.R_far (p := ⟨gb244, 0, none⟩) (Kd.R_types HO_5.out BK244.out (by decide)) (fun _ hk => hk.2) (.int .i64 ((rd_T36 l0 x7_2).f0))) (fun _ hk => hk.2) (.int .i64 ((rd_T36 l0 x7_2).f1))) (fun _ h_ => h_.1))) hb); have n1_ := Aside0.mk (blk_below (g := gb244) (o := .cells #[.int .i64 ((rd_T36 l0 x7_2).f0), .int .i64 ((rd_T36 l0 x7_2).f1)] 36 (0, 0)) (by (with_reducible repeat (first | refine blk_drewN ?_ _ | refine blk_drew ?_ | refine blk_alloc ?_ _)); refine blk_put (cs := #[.int .i64 ((rd_T36 l0 x7_2).f0), .int .i64 0]) ?_ 1 _ rfl; (with_reducible repeat (first | refine blk_drewN ?_ _ | refine blk_drew ?_ | refine blk_alloc ?_ _)); refine blk_put (cs := #[.int .i64 0, .int .i64 0]) ?_ 0 _ rfl; (with_reducible repeat (first | refine blk_drewN ?_ _ | refine blk_drew ?_ | refine blk_alloc ?_ _)); exact BK244.out) hb); have n2_ := Aside0.mk (below_step (by repeat (first | (with_reducible first | exact HB.out | apply below_alloc | apply pw_below_drewN | apply below_drew1 | refine below_set ?_ GE244.out) | exact HB.out)) hb); clear HO_5; clear BK244; clear HB; have HO_5 := n0_; have BK244 := n1_; have HB := n2_; clear n0_ n1_ n2_; (try clear hb); (try clear hb2); (try clear hk); (try clear hi); have hcz37_0 : w36.cell? ⟨gb244, 0, none⟩ = some (.int .i64 ((rd_T36 l0 x7_2).f0)) := (blk_cell BK244.out 0).trans rfl; have hcz37_1 : w36.cell? ⟨gb244, 1, none⟩ = some (.int .i64 ((rd_T36 l0 x7_2).f1)) := (blk_cell BK244.out 1).trans rfl; have hfz37_0 := blk_frozen BK244.out 0; have hfz37_1 := blk_frozen BK244.out 1) | (go_at_call 14; (with_reducible refine (bureauref21_Takes.calls kj19 ((rd_T36 l0 x7_2).f0) ((rd_T36 l0 x7_2).f1) t246 _ A34.out).mono ?_); rintro e w38 ⟨rfl, hb⟩; have n0_ := Aside0.mk (Kd.R_below (by (with_reducible repeat (first | apply Kd.R_alloc | apply Kd.R_drewN | apply Kd.R_drew)); exact HO_5.out) hb); have n1_ := Aside0.mk (blk_below (g := gb244) (o := .cells #[.int .i64 ((rd_T36 l0 x7_2).f0), .int .i64 ((rd_T36 l0 x7_2).f1)] 36 (0, 0)) (by (with_reducible repeat (first | refine blk_drewN ?_ _ | refine blk_drew ?_ | refine blk_alloc ?_ _)); exact BK244.out) hb); have n2_ := Aside0.mk (below_step (by repeat (first | (with_reducible first | exact HB.out | apply below_alloc | apply pw_below_drewN | apply below_drew1 | refine below_set ?_ GE244.out) | exact HB.out)) hb); clear HO_5; clear BK244; clear HB; have HO_5 := n0_; have BK244 := n1_; have HB := n2_; clear n0_ n1_ n2_; (try clear hb); (try clear hb2); (try clear hk); (try clear hi)))
                                  go_meet
                                  case rel => exact ⟨_, (decide (x8_2 < t246)), (by first | rfl | (simp; done) | (simp [*]; done)), H', ⟨by have := HJ9.out; have := HK2.out; have := HJ19.out; first | omega | exact Nat.le_refl _⟩, ⟨by (with_reducible repeat (first | apply Kd.R_alloc | apply Kd.R_drewN | apply Kd.R_drew)); exact HO_5.out⟩, ⟨by (with_reducible repeat (first | refine blk_drewN ?_ _ | refine blk_drew ?_ | refine blk_alloc ?_ _)); exact BK244.out⟩, ⟨by repeat (first | (with_reducible first | exact HB.out | apply below_alloc | apply pw_below_drewN | apply below_drew1 | refine below_set ?_ GE244.out) | exact HB.out)⟩⟩
                                · replace c33 := Bool.eq_false_iff.mpr c33
                                  subst c33
                                  have H1 : (bureaulaw21_CodeSafe.j3 kj19 l0 l1 t238 x7_2 x8_2 x9_2 x39_2 true ((rd_T36 l0 x7_2).f0) ((rd_T36 l0 x7_2).f1)) = some r := by rw [if_neg (show ¬ (false = true) by decide)] at H; exact H
                                  clear H
                                  have H := H1
                                  clear H1
                                  have H' := Aside0.mk H
                                  clear H
                                  have hcz39_0 : w30.cell? ⟨gb244, 0, none⟩ = some (.int .i64 0) := (blk_cell BK244.out 0).trans rfl
                                  have hcz39_1 : w30.cell? ⟨gb244, 1, none⟩ = some (.int .i64 0) := (blk_cell BK244.out 1).trans rfl
                                  have hfz39_0 := blk_frozen BK244.out 0
                                  have hfz39_1 := blk_frozen BK244.out 1
                                  go_wp2_with (first | ((with_reducible refine gate_callee (f := 13) rfl ?_); refine goesL_ (some 62) rfl rfl Try.func13 (by kernel_rfl) rfl #[.agg #[.int .i64 ((rd_T36 l0 x7_2).f0), .int .i64 ((rd_T36 l0 x7_2).f1)]] rfl (by (try simp only [List.map_toArray, List.map_cons, List.map_nil]); first | done | rfl | (simp only [List.length_drop, List.length_take]; rfl)) ?_; (with_reducible refine (bureauref21_May.calls kj19 ((rd_T36 l0 x7_2).f0) ((rd_T36 l0 x7_2).f1) false _ A32.out).mono ?_); rintro e w40 ⟨rfl, hb⟩; refine ⟨_, rfl, ?_⟩; have n0_ := Aside0.mk (Kd.R_below (by (with_reducible repeat (first | apply Kd.R_alloc | apply Kd.R_drewN | apply Kd.R_drew)); exact (Kd.R_mono (Kd.R_far (p := ⟨gb244, 1, none⟩) (Kd.R_far (p := ⟨gb244, 0, none⟩) (Kd.R_types HO_5.out BK244.out (by decide)) (fun _ hk => hk.2) (.int .i64 ((rd_T36 l0 x7_2).f0))) (fun _ hk => hk.2) (.int .i64 ((rd_T36 l0 x7_2).f1))) (fun _ h_ => h_.1))) hb); have n1_ := Aside0.mk (blk_below (g := gb244) (o := .cells #[.int .i64 ((rd_T36 l0 x7_2).f0), .int .i64 ((rd_T36 l0 x7_2).f1)] 36 (0, 0)) (by (with_reducible repeat (first | refine blk_drewN ?_ _ | refine blk_drew ?_ | refine blk_alloc ?_ _)); refine blk_put (cs := #[.int .i64 ((rd_T36 l0 x7_2).f0), .int .i64 0]) ?_ 1 _ rfl; (with_reducible repeat (first | refine blk_drewN ?_ _ | refine blk_drew ?_ | refine blk_alloc ?_ _)); refine blk_put (cs := #[.int .i64 0, .int .i64 0]) ?_ 0 _ rfl; (with_reducible repeat (first | refine blk_drewN ?_ _ | refine blk_drew ?_ | refine blk_alloc ?_ _)); exact BK244.out) hb); have n2_ := Aside0.mk (below_step (by repeat (first | (with_reducible first | exact HB.out | apply below_alloc | apply pw_below_drewN | apply below_drew1 | refine below_set ?_ GE244.out) | exact HB.out)) hb); clear HO_5; clear BK244; clear HB; have HO_5 := n0_; have BK244 := n1_; have HB := n2_; clear n0_ n1_ n2_; (try clear hb); (try clear hb2); (try clear hk); (try clear hi)))
                                  go_meet
                                  case rel => exact ⟨_, (true), (by first | rfl | (simp; done) | (simp [*]; done)), H', ⟨by have := HJ9.out; have := HK2.out; have := HJ19.out; first | omega | exact Nat.le_refl _⟩, ⟨by (with_reducible repeat (first | apply Kd.R_alloc | apply Kd.R_drewN | apply Kd.R_drew)); exact HO_5.out⟩, ⟨by (with_reducible repeat (first | refine blk_drewN ?_ _ | refine blk_drew ?_ | refine blk_alloc ?_ _)); exact BK244.out⟩, ⟨by repeat (first | (with_reducible first | exact HB.out | apply below_alloc | apply pw_below_drewN | apply below_drew1 | refine below_set ?_ GE244.out) | exact HB.out)⟩⟩
                              case rest =>
                                clear HC29
                                try clear c1
                                try clear c2
                                try clear p2
                                try clear q2
                                try clear hx2
                                try clear c3
                                try clear c4
                                try clear c5
                                try clear c5b0
                                try clear c5b1
                                try clear c8
                                try clear c9
                                try clear c9b0
                                try clear c9b1
                                try clear c10
                                try clear c13
                                try clear c15
                                try clear c15b0
                                try clear c15b1
                                try clear c15b2
                                try clear c18
                                try clear c19
                                try clear c19b0
                                try clear c21
                                try clear c21b0
                                try clear c22
                                try clear c22b0
                                try clear c23
                                try clear c23b0
                                try clear c24
                                try clear c24b0
                                try clear p24
                                try clear q24
                                try clear hx24
                                try clear c26
                                try clear c27
                                try clear c27b0
                                try clear c28
                                try clear c28b0
                                try clear c33
                                try clear hcz31_0
                                try clear hcz31_1
                                try clear hcz35_0
                                try clear hcz35_1
                                try clear hcz37_0
                                try clear hcz37_1
                                try clear hcz39_0
                                try clear hcz39_1
                                try clear hfz31_0
                                try clear hfz31_1
                                try clear hfz35_0
                                try clear hfz35_1
                                try clear hfz37_0
                                try clear hfz37_1
                                try clear hfz39_0
                                try clear hfz39_1
                                try clear hx242_0
                                try clear hx243_0
                                try clear hx243_1
                                try clear p2
                                try clear p24
                                try clear p242
                                try clear p243
                                try clear q2
                                try clear q24
                                try clear q242
                                try clear q243
                                obtain ⟨kq, x69_28, rfl, HA, HJ28, HO_5, BK244, HB⟩ := hcut
                                cases kq with
                                | zero => exact absurd HA.out (by simp [bureaulaw21_CodeSafe.j3])
                                | succ kj28 =>
                                  have H := HA.out
                                  clear HA
                                  simp only [bureaulaw21_CodeSafe.j3] at H
                                  by_cases c41 : x69_28 = true
                                  · subst c41
                                    have H1 : (some false) = some r := by rw [if_pos rfl] at H; exact H
                                    clear H
                                    have H := H1
                                    clear H1
                                    obtain rfl := Option.some.inj H
                                    go_wp2
                                    go_ret
                                    exact ⟨by first | rfl | (simp [errW_none, errW_some] <;> rfl) | (simp [*, errW_none, errW_some] <;> rfl), by repeat (first | (with_reducible first | exact HB.out | apply below_alloc | apply pw_below_drewN | apply below_drew1 | refine below_set ?_ GE244.out) | exact HB.out)⟩
                                  · replace c41 := Bool.eq_false_iff.mpr c41
                                    subst c41
                                    have H1 : ((bureauref21_Gives.f kj28 ((rd_T36 l0 x7_2).f0) ((rd_T36 l0 x7_2).f1)).bind fun t247 => ((bureauref21_Takes.f kj28 ((rd_T36 l0 x7_2).f0) ((rd_T36 l0 x7_2).f1)).bind fun t248 => (if (wrap64 (x8_2 + (wrap64 (t247 - t248)))) < 0 then (bureaulaw21_CodeSafe.j4 kj28 l0 l1 t238 x7_2 (wrap64 (x8_2 + (wrap64 (t247 - t248)))) x9_2 x39_2 true ((rd_T36 l0 x7_2).f0) ((rd_T36 l0 x7_2).f1)) else (bureaulaw21_CodeSafe.j4 kj28 l0 l1 t238 x7_2 (wrap64 (x8_2 + (wrap64 (t247 - t248)))) x9_2 x39_2 (decide ((wrap64 (x8_2 + (wrap64 (t247 - t248)))) > 16)) ((rd_T36 l0 x7_2).f0) ((rd_T36 l0 x7_2).f1))))) = some r := by rw [if_neg (show ¬ (false = true) by decide)] at H; exact H
                                    clear H
                                    have H := H1
                                    clear H1
                                    replace H := Option.bind_eq_some_iff.mp H
                                    obtain ⟨t247, A420, H⟩ := H
                                    replace H : ((bureauref21_Takes.f kj28 ((rd_T36 l0 x7_2).f0) ((rd_T36 l0 x7_2).f1)).bind fun t248 => (if (wrap64 (x8_2 + (wrap64 (t247 - t248)))) < 0 then (bureaulaw21_CodeSafe.j4 kj28 l0 l1 t238 x7_2 (wrap64 (x8_2 + (wrap64 (t247 - t248)))) x9_2 x39_2 true ((rd_T36 l0 x7_2).f0) ((rd_T36 l0 x7_2).f1)) else (bureaulaw21_CodeSafe.j4 kj28 l0 l1 t238 x7_2 (wrap64 (x8_2 + (wrap64 (t247 - t248)))) x9_2 x39_2 (decide ((wrap64 (x8_2 + (wrap64 (t247 - t248)))) > 16)) ((rd_T36 l0 x7_2).f0) ((rd_T36 l0 x7_2).f1)))) = some r := H
                                    have A42 := Aside0.mk A420
                                    clear A420
                                    replace H := Option.bind_eq_some_iff.mp H
                                    obtain ⟨t248, A430, H⟩ := H
                                    replace H : (if (wrap64 (x8_2 + (wrap64 (t247 - t248)))) < 0 then (bureaulaw21_CodeSafe.j4 kj28 l0 l1 t238 x7_2 (wrap64 (x8_2 + (wrap64 (t247 - t248)))) x9_2 x39_2 true ((rd_T36 l0 x7_2).f0) ((rd_T36 l0 x7_2).f1)) else (bureaulaw21_CodeSafe.j4 kj28 l0 l1 t238 x7_2 (wrap64 (x8_2 + (wrap64 (t247 - t248)))) x9_2 x39_2 (decide ((wrap64 (x8_2 + (wrap64 (t247 - t248)))) > 16)) ((rd_T36 l0 x7_2).f0) ((rd_T36 l0 x7_2).f1))) = some r := H
                                    have A43 := Aside0.mk A430
                                    clear A430
                                    have HC44 := Aside0.mk H
                                    clear H
                                    try go_wp2
                                    have n0_ := Aside0.mk (Kd.R_drew HO_5.out)
                                    have n1_ := Aside0.mk (blk_drew BK244.out)
                                    have n2_ := Aside0.mk (below_drew1 HB.out)
                                    clear HO_5
                                    clear BK244
                                    clear HB
                                    have HO_5 := n0_
                                    have BK244 := n1_
                                    have HB := n2_
                                    clear n0_ n1_ n2_
                                    refine start_ (n := 8) (S := fun w' => w'.cell? ⟨gb244, 0, none⟩ = some (.int .i64 ((rd_T36 l0 x7_2).f0)) ∧ w'.cell? ⟨gb244, 1, none⟩ = some (.int .i64 ((rd_T36 l0 x7_2).f1))) (ds := []) #[false, false, false, false, false, false, false, false] (by kernel_rfl) rfl rfl ⟨(blk_cell BK244.out 0).trans rfl, (blk_cell BK244.out 1).trans rfl⟩ (fun hHeld => ?_); refine with_tabW bureaulaw21_CodeSafe.tab18 bureaulaw21_CodeSafe.bits18 (fun HT_ HW_ => ?_)
                                    generalize wc.drew = w45 at HO_5 BK244 HB hHeld ⊢
                                    refine pure_ (i := 0) (N := some 70) (v := ?_) (a' := ?_) #[true, false, false, false, false, false, false, false] rfl rfl (any_of HT_.out (by kernel_rfl)) (fun _ _ _ h => h) (Or.inl ⟨by rfl, ?_⟩) ?_ ?_
                                    rotate_left
                                    · intro w'
                                      go_simp
                                      with_reducible rfl
                                    rotate_left
                                    · simp only [Act.put, List.setIfInBounds_toArray, List.set_cons_zero, List.set_cons_succ, i64_w, i32_w]
                                      rfl
                                    refine take_ (i := 1) (N := some 71) (v := ?_) (a' := ?_) #[true, true, false, false, false, false, false, false] rfl rfl (take_ofW HT_.out HW_.out (by kernel_rfl)) (fun _ _ _ h => h) (Or.inl ⟨by rfl, ?_⟩) hHeld ?_ ?_
                                    rotate_left
                                    · rintro w' ⟨s0, s1⟩
                                      go_simp
                                      with_reducible rfl
                                    rotate_left
                                    · simp only [Act.put, List.setIfInBounds_toArray, List.set_cons_zero, List.set_cons_succ, i64_w, i32_w]
                                      rfl
                                    refine take_ (i := 3) (N := some 73) (v := ?_) (a' := ?_) #[true, true, false, true, false, false, false, false] rfl rfl (take_ofW HT_.out HW_.out (by kernel_rfl)) (fun _ _ _ h => h) (Or.inl ⟨by rfl, ?_⟩) hHeld ?_ ?_
                                    rotate_left
                                    · rintro w' ⟨s0, s1⟩
                                      go_simp
                                      with_reducible rfl
                                    rotate_left
                                    · simp only [Act.put, List.setIfInBounds_toArray, List.set_cons_zero, List.set_cons_succ, i64_w, i32_w]
                                      rfl
                                    refine one_ (i := 2) (N := some 72) #[true, true, true, true, false, false, false, false] rfl rfl (one_of HT_.out (by kernel_rfl)) (by decide) (fun K hK => ?_)
                                    refine goes_ Try.func15 (by kernel_rfl) rfl #[.agg #[.int .i64 ((rd_T36 l0 x7_2).f0), .int .i64 ((rd_T36 l0 x7_2).f1)]] (by rfl) rfl rfl (by (try simp only [List.map_toArray, List.map_cons, List.map_nil]); first | done | rfl | (simp only [List.length_drop, List.length_take]; rfl)) ?_
                                    with_reducible refine (bureauref21_Gives.calls kj28 ((rd_T36 l0 x7_2).f0) ((rd_T36 l0 x7_2).f1) t247 _ A42.out).mono ?_
                                    rintro e w46 ⟨rfl, hb⟩
                                    refine ⟨_, rfl, ?_⟩
                                    have n0_ := Aside0.mk (Kd.R_below (by (with_reducible repeat (first | apply Kd.R_alloc | apply Kd.R_drewN | apply Kd.R_drew)); exact HO_5.out) hb)
                                    have n1_ := Aside0.mk (blk_below (g := gb244) (o := .cells #[.int .i64 ((rd_T36 l0 x7_2).f0), .int .i64 ((rd_T36 l0 x7_2).f1)] 36 (0, 0)) (by (with_reducible repeat (first | refine blk_drewN ?_ _ | refine blk_drew ?_ | refine blk_alloc ?_ _)); exact BK244.out) hb)
                                    have n2_ := Aside0.mk (below_step (by repeat (first | (with_reducible first | exact HB.out | apply below_alloc | apply pw_below_drewN | apply below_drew1 | refine below_set ?_ GE244.out) | exact HB.out)) hb)
                                    clear HO_5
                                    clear BK244
                                    clear HB
                                    have HO_5 := n0_
                                    have BK244 := n1_
                                    have HB := n2_
                                    clear n0_ n1_ n2_
                                    (try clear hb)
                                    (try clear hb2)
                                    (try clear hk)
                                    (try clear hi)
                                    refine hK.out _ _ ⟨(blk_cell BK244.out 0).trans rfl, (blk_cell BK244.out 1).trans rfl⟩ (fun hHeld => ?_)
                                    clear hK K
                                    refine norm_ (a' := ?_) ?_ ?_
                                    rotate_left
                                    · show Act.put _ (some 72) _ = _
                                      simp only [Act.put, List.setIfInBounds_toArray, List.set_cons_zero, List.set_cons_succ, i64_w, i32_w]
                                      rfl
                                    refine one_ (i := 4) (N := some 74) #[true, true, true, true, true, false, false, false] rfl rfl (one_of HT_.out (by kernel_rfl)) (by decide) (fun K hK => ?_)
                                    refine goes_ Try.func14 (by kernel_rfl) rfl #[.agg #[.int .i64 ((rd_T36 l0 x7_2).f0), .int .i64 ((rd_T36 l0 x7_2).f1)]] (by rfl) rfl rfl (by (try simp only [List.map_toArray, List.map_cons, List.map_nil]); first | done | rfl | (simp only [List.length_drop, List.length_take]; rfl)) ?_
                                    with_reducible refine (bureauref21_Takes.calls kj28 ((rd_T36 l0 x7_2).f0) ((rd_T36 l0 x7_2).f1) t248 _ A43.out).mono ?_
                                    rintro e w47 ⟨rfl, hb⟩
                                    refine ⟨_, rfl, ?_⟩
                                    have n0_ := Aside0.mk (Kd.R_below (by (with_reducible repeat (first | apply Kd.R_alloc | apply Kd.R_drewN | apply Kd.R_drew)); exact HO_5.out) hb)
                                    have n1_ := Aside0.mk (blk_below (g := gb244) (o := .cells #[.int .i64 ((rd_T36 l0 x7_2).f0), .int .i64 ((rd_T36 l0 x7_2).f1)] 36 (0, 0)) (by (with_reducible repeat (first | refine blk_drewN ?_ _ | refine blk_drew ?_ | refine blk_alloc ?_ _)); exact BK244.out) hb)
                                    have n2_ := Aside0.mk (below_step (by repeat (first | (with_reducible first | exact HB.out | apply below_alloc | apply pw_below_drewN | apply below_drew1 | refine below_set ?_ GE244.out) | exact HB.out)) hb)
                                    clear HO_5
                                    clear BK244
                                    clear HB
                                    have HO_5 := n0_
                                    have BK244 := n1_
                                    have HB := n2_
                                    clear n0_ n1_ n2_
                                    (try clear hb)
                                    (try clear hb2)
                                    (try clear hk)
                                    (try clear hi)
                                    refine hK.out _ _ ⟨(blk_cell BK244.out 0).trans rfl, (blk_cell BK244.out 1).trans rfl⟩ (fun hHeld => ?_)
                                    clear hK K
                                    refine norm_ (a' := ?_) ?_ ?_
                                    rotate_left
                                    · show Act.put _ (some 74) _ = _
                                      simp only [Act.put, List.setIfInBounds_toArray, List.set_cons_zero, List.set_cons_succ, i64_w, i32_w]
                                      rfl
                                    refine pure_ (i := 5) (N := some 75) (v := ?_) (a' := ?_) #[true, true, true, true, true, true, false, false] rfl rfl (any_of HT_.out (by kernel_rfl)) (fun _ _ _ h => h) (Or.inl ⟨by rfl, ?_⟩) ?_ ?_
                                    rotate_left
                                    · intro w'
                                      go_simp
                                      with_reducible rfl
                                    rotate_left
                                    · simp only [Act.put, List.setIfInBounds_toArray, List.set_cons_zero, List.set_cons_succ, i64_w, i32_w]
                                      rfl
                                    refine pure_ (i := 6) (N := some 76) (v := ?_) (a' := ?_) #[true, true, true, true, true, true, true, false] rfl rfl (any_of HT_.out (by kernel_rfl)) (fun _ _ _ h => h) (Or.inl ⟨by rfl, ?_⟩) ?_ ?_
                                    rotate_left
                                    · intro w'
                                      go_simp
                                      with_reducible rfl
                                    rotate_left
                                    · simp only [Act.put, List.setIfInBounds_toArray, List.set_cons_zero, List.set_cons_succ, i64_w, i32_w]
                                      rfl
                                    refine pure_ (i := 7) (N := some 8) (v := ?_) (a' := ?_) #[true, true, true, true, true, true, true, true] rfl rfl (any_of HT_.out (by kernel_rfl)) (fun _ _ _ h => h) (Or.inl ⟨by rfl, ?_⟩) ?_ ?_
                                    rotate_left
                                    · intro w'
                                      go_simp
                                      with_reducible rfl
                                    rotate_left
                                    · simp only [Act.put, List.setIfInBounds_toArray, List.set_cons_zero, List.set_cons_succ, i64_w, i32_w]
                                      rfl
                                    refine done_ (done_of HT_.out (by kernel_rfl)) ?_
                                    go_upto_region 19 with (fail)
                                    go_cut [82] (fun v82 wc => ∃ (kq : Nat) (x82_43 : Bool), v82 = .bool x82_43 ∧ Aside0 (bureaulaw21_CodeSafe.j4 kq l0 l1 t238 x7_2 (wrap64 (x8_2 + (wrap64 (t247 - t248)))) x9_2 x39_2 x82_43 ((rd_T36 l0 x7_2).f0) ((rd_T36 l0 x7_2).f1) = some r) ∧ Aside0 (kq ≤ kj28) ∧ Aside0 (Kd.R (Kd.int .i64) 3 wc w.heap.size (fun _ => True) v240 t238) ∧ Aside0 (wc.heap[gb244]? = some (.cells #[.int .i64 ((rd_T36 l0 x7_2).f0), .int .i64 ((rd_T36 l0 x7_2).f1)] 36 (0, 0))) ∧ Aside0 (Below w.heap.size w wc))
                                    case first =>
                                      have H := HC44.out
                                      clear HC44
                                      by_cases c48 : (wrap64 (x8_2 + (wrap64 (t247 - t248)))) < 0
                                      · rw [if_pos c48] at H
                                        have c48b0 : decide ((wrap64 (x8_2 + (wrap64 (t247 - t248)))) < 0) = true := decide_eq_true c48
                                        clear c48
                                        (first | rw [c48b0] | (simp only [i64_w, i32_w]; rw [c48b0]) | skip)
                                        have H' := Aside0.mk H
                                        clear H
                                        go_wp2
                                        go_meet
                                        case rel => exact ⟨_, (true), (by first | rfl | (simp; done) | (simp [*]; done)), H', ⟨by have := HJ9.out; have := HK2.out; have := HJ19.out; have := HJ28.out; first | omega | exact Nat.le_refl _⟩, ⟨by (with_reducible repeat (first | apply Kd.R_alloc | apply Kd.R_drewN | apply Kd.R_drew)); exact HO_5.out⟩, ⟨by (with_reducible repeat (first | refine blk_drewN ?_ _ | refine blk_drew ?_ | refine blk_alloc ?_ _)); exact BK244.out⟩, ⟨by repeat (first | (with_reducible first | exact HB.out | apply below_alloc | apply pw_below_drewN | apply below_drew1 | refine below_set ?_ GE244.out) | exact HB.out)⟩⟩
                                      · rw [if_neg c48] at H
                                        have c48b0 : decide ((wrap64 (x8_2 + (wrap64 (t247 - t248)))) < 0) = false := decide_eq_false c48
                                        clear c48
                                        (first | rw [c48b0] | (simp only [i64_w, i32_w]; rw [c48b0]) | skip)
                                        have H' := Aside0.mk H
                                        clear H
                                        go_wp2
                                        go_meet
                                        case rel => exact ⟨_, (decide ((wrap64 (x8_2 + (wrap64 (t247 - t248)))) > 16)), (by first | rfl | (simp; done) | (simp [*]; done)), H', ⟨by have := HJ9.out; have := HK2.out; have := HJ19.out; have := HJ28.out; first | omega | exact Nat.le_refl _⟩, ⟨by (with_reducible repeat (first | apply Kd.R_alloc | apply Kd.R_drewN | apply Kd.R_drew)); exact HO_5.out⟩, ⟨by (with_reducible repeat (first | refine blk_drewN ?_ _ | refine blk_drew ?_ | refine blk_alloc ?_ _)); exact BK244.out⟩, ⟨by repeat (first | (with_reducible first | exact HB.out | apply below_alloc | apply pw_below_drewN | apply below_drew1 | refine below_set ?_ GE244.out) | exact HB.out)⟩⟩
                                    case rest =>
                                      clear HC44
                                      try clear c1
                                      try clear c2
                                      try clear p2
                                      try clear q2
                                      try clear hx2
                                      try clear c3
                                      try clear c4
                                      try clear c5
                                      try clear c5b0
                                      try clear c5b1
                                      try clear p6
                                      try clear c8
                                      try clear c9
                                      try clear c9b0
                                      try clear c9b1
                                      try clear c10
                                      try clear c13
                                      try clear c14
                                      try clear c15
                                      try clear c15b0
                                      try clear c15b1
                                      try clear c15b2
                                      try clear c18
                                      try clear c19
                                      try clear c19b0
                                      try clear c21
                                      try clear c21b0
                                      try clear c22
                                      try clear c22b0
                                      try clear c23
                                      try clear c23b0
                                      try clear c24
                                      try clear c24b0
                                      try clear p24
                                      try clear q24
                                      try clear hx24
                                      try clear c26
                                      try clear c27
                                      try clear c27b0
                                      try clear c28
                                      try clear c28b0
                                      try clear c33
                                      try clear c41
                                      try clear c48
                                      try clear c48b0
                                      try clear hcz31_0
                                      try clear hcz31_1
                                      try clear hcz35_0
                                      try clear hcz35_1
                                      try clear hcz37_0
                                      try clear hcz37_1
                                      try clear hcz39_0
                                      try clear hcz39_1
                                      try clear hfz31_0
                                      try clear hfz31_1
                                      try clear hfz35_0
                                      try clear hfz35_1
                                      try clear hfz37_0
                                      try clear hfz37_1
                                      try clear hfz39_0
                                      try clear hfz39_1
                                      try clear hx242_0
                                      try clear hx243_0
                                      try clear hx243_1
                                      try clear p2
                                      try clear p24
                                      try clear p242
                                      try clear p243
                                      try clear q2
                                      try clear q24
                                      try clear q242
                                      try clear q243
                                      obtain ⟨kq, x82_43, rfl, HA, HJ43, HO_5, BK244, HB⟩ := hcut
                                      cases kq with
                                      | zero => exact absurd HA.out (by simp [bureaulaw21_CodeSafe.j4])
                                      | succ kj43 =>
                                        have H := HA.out
                                        clear HA
                                        simp only [bureaulaw21_CodeSafe.j4] at H
                                        by_cases c49 : x82_43 = true
                                        · subst c49
                                          have H1 : (some false) = some r := by rw [if_pos rfl] at H; exact H
                                          clear H
                                          have H := H1
                                          clear H1
                                          obtain rfl := Option.some.inj H
                                          go_wp2
                                          go_ret
                                          exact ⟨by first | rfl | (simp [errW_none, errW_some] <;> rfl) | (simp [*, errW_none, errW_some] <;> rfl), by repeat (first | (with_reducible first | exact HB.out | apply below_alloc | apply pw_below_drewN | apply below_drew1 | refine below_set ?_ GE244.out) | exact HB.out)⟩
                                        · replace c49 := Bool.eq_false_iff.mpr c49
                                          subst c49
                                          have H1 : (if ((rd_T36 l0 x7_2).f0) = 0 then (some true) else ((bureauref21_Behind.f l0 x7_2).bind fun t249 => (if (t249.length : Int) > 1 then (bureaulaw21_CodeSafe.j5 kj43 l0 l1 t238 (wrap64 (x8_2 + (wrap64 (t247 - t248)))) x9_2 t249 0 x39_2 (decide (x9_2 < (l1.length : Int)))) else (bureaulaw21_CodeSafe.j5 kj43 l0 l1 t238 (wrap64 (x8_2 + (wrap64 (t247 - t248)))) x9_2 t249 0 x39_2 false)))) = some r := by rw [if_neg (show ¬ (false = true) by decide)] at H; exact H
                                          clear H
                                          have H := H1
                                          clear H1
                                          by_cases c50 : ((rd_T36 l0 x7_2).f0) = 0
                                          · rw [if_pos c50] at H
                                            have c50b0 : (((rd_T36 l0 x7_2).f0) == 0) = true := beq_iff_eq.mpr c50
                                            have c50b1 : (((rd_T36 l0 x7_2).f0) != 0) = false := bne_eq_false_iff_eq.mpr c50
                                            clear c50
                                            obtain rfl := Option.some.inj H
                                            have hcz51_0 : wc.cell? ⟨gb244, 0, none⟩ = some (.int .i64 ((rd_T36 l0 x7_2).f0)) := (blk_cell BK244.out 0).trans rfl
                                            have hcz51_1 : wc.cell? ⟨gb244, 1, none⟩ = some (.int .i64 ((rd_T36 l0 x7_2).f1)) := (blk_cell BK244.out 1).trans rfl
                                            have hfz51_0 := blk_frozen BK244.out 0
                                            have hfz51_1 := blk_frozen BK244.out 1
                                            go_wp2
                                            go_ret
                                            exact ⟨by first | rfl | (simp [errW_none, errW_some] <;> rfl) | (simp [*, errW_none, errW_some] <;> rfl), by repeat (first | (with_reducible first | exact HB.out | apply below_alloc | apply pw_below_drewN | apply below_drew1 | refine below_set ?_ GE244.out) | exact HB.out)⟩
                                          · rw [if_neg c50] at H
                                            have c50b0 : (((rd_T36 l0 x7_2).f0) == 0) = false := beq_eq_false_iff_ne.mpr c50
                                            have c50b1 : (((rd_T36 l0 x7_2).f0) != 0) = true := bne_iff_ne.mpr c50
                                            replace H := Option.bind_eq_some_iff.mp H
                                            obtain ⟨t249, A520, H⟩ := H
                                            replace H : (if (t249.length : Int) > 1 then (bureaulaw21_CodeSafe.j5 kj43 l0 l1 t238 (wrap64 (x8_2 + (wrap64 (t247 - t248)))) x9_2 t249 0 x39_2 (decide (x9_2 < (l1.length : Int)))) else (bureaulaw21_CodeSafe.j5 kj43 l0 l1 t238 (wrap64 (x8_2 + (wrap64 (t247 - t248)))) x9_2 t249 0 x39_2 false)) = some r := H
                                            have A52 := Aside0.mk A520
                                            clear A520
                                            have HC53 := Aside0.mk H
                                            clear H
                                            have hcz54_0 : wc.cell? ⟨gb244, 0, none⟩ = some (.int .i64 ((rd_T36 l0 x7_2).f0)) := (blk_cell BK244.out 0).trans rfl
                                            have hcz54_1 : wc.cell? ⟨gb244, 1, none⟩ = some (.int .i64 ((rd_T36 l0 x7_2).f1)) := (blk_cell BK244.out 1).trans rfl
                                            have hfz54_0 := blk_frozen BK244.out 0
                                            have hfz54_1 := blk_frozen BK244.out 1
                                            go_upto_region 24 with (first | ((with_reducible refine gate_callee (f := 16) rfl ?_); refine goesL_ (some 88) rfl rfl Try.func16 (by kernel_rfl) rfl #[.slice (some ad243) l0.length c0, .int .i64 x7_2] rfl (by (try simp only [List.map_toArray, List.map_cons, List.map_nil]); first | done | rfl | (simp only [List.length_drop, List.length_take]; rfl)) ?_; (with_reducible refine (bureauref21_Behind.calls _ _ l0 x7_2 t249 _ ?side1 ?side2 A52.out).mono ?_); (case side1 => repeat (first | exact (Kd.C_below HR0.out HB.out) | (with_reducible refine Kd.C_alloc ?_ _) | (with_reducible refine Kd.C_drewN ?_ _) | (with_reducible refine Kd.C_drew ?_))); (case side2 => exact HC0.out); rintro e w55 ⟨v250, rfl, ho0, hb⟩; refine ⟨_, rfl, ?_⟩; have n0_ := Aside0.mk (Kd.R_elder' (by (with_reducible repeat (first | apply Kd.R_alloc | apply Kd.R_drewN | apply Kd.R_drew)); exact HO_5.out) (Kd.R_base ho0) hb); have n1_ := Aside0.mk (Kd.R_lower (Kd.R_new' ho0 (Kd.R_lt (by (with_reducible repeat (first | apply Kd.R_alloc | apply Kd.R_drewN | apply Kd.R_drew)); exact HO_5.out))) (below_size (by repeat (first | (with_reducible first | exact HB.out | apply below_alloc | apply pw_below_drewN | apply below_drew1 | refine below_set ?_ GE244.out) | exact HB.out)))); have n2_ := Aside0.mk (blk_below (g := gb244) (o := .cells #[.int .i64 ((rd_T36 l0 x7_2).f0), .int .i64 ((rd_T36 l0 x7_2).f1)] 36 (0, 0)) (by (with_reducible repeat (first | refine blk_drewN ?_ _ | refine blk_drew ?_ | refine blk_alloc ?_ _)); exact BK244.out) hb); have n3_ := Aside0.mk (below_step (by repeat (first | (with_reducible first | exact HB.out | apply below_alloc | apply pw_below_drewN | apply below_drew1 | refine below_set ?_ GE244.out) | exact HB.out)) hb); clear HO_5; clear BK244; clear HB; have HO_5 := n0_; have HO251 := n1_; have BK244 := n2_; have HB := n3_; clear n0_ n1_ n2_ n3_; (try clear hb); (try clear hb2); (try clear hk); (try clear hi); (try clear ho0)))
                                            (try simp only [Act.put, List.setIfInBounds_toArray, List.set_cons_zero, List.set_cons_succ])
                                            go_cut [97] (fun v97 wc => ∃ (kq : Nat) (x97_52 : Bool), v97 = .bool x97_52 ∧ Aside0 (bureaulaw21_CodeSafe.j5 kq l0 l1 t238 (wrap64 (x8_2 + (wrap64 (t247 - t248)))) x9_2 t249 0 x39_2 x97_52 = some r) ∧ Aside0 (kq ≤ kj43) ∧ Aside0 (Kd.R (Kd.int .i64) 3 wc w.heap.size (fun k_ => some k_ ≠ (v250 : Value).ownBlock) v240 t238) ∧ Aside0 (Kd.R (Kd.int .i64) 3 wc w.heap.size (fun k_ => some k_ ≠ (v240 : Value).ownBlock) v250 t249) ∧ Aside0 (wc.heap[gb244]? = some (.cells #[.int .i64 ((rd_T36 l0 x7_2).f0), .int .i64 ((rd_T36 l0 x7_2).f1)] 36 (0, 0))) ∧ Aside0 (Below w.heap.size w wc))
                                            case first =>
                                              have H := HC53.out
                                              clear HC53
                                              by_cases c56 : (t249.length : Int) > 1
                                              · rw [if_pos c56] at H
                                                have c56b0 : decide (1 < (t249.length : Int)) = true := decide_eq_true c56
                                                have c56b1 : decide (1 < t249.length) = true := decide_eq_true (by omega)
                                                clear c56
                                                (first | rw [c56b0] | (simp only [i64_w, i32_w]; rw [c56b0]) | skip)
                                                have H' := Aside0.mk H
                                                clear H
                                                obtain ⟨Ao57, co57, eo57⟩ := Kd.R_slice HO251.out
                                                subst eo57
                                                go_wp2
                                                go_meet
                                                case rel => exact ⟨_, (decide (x9_2 < (l1.length : Int))), (by first | rfl | (simp; done) | (simp [*]; done)), H', ⟨by have := HJ9.out; have := HK2.out; have := HJ19.out; have := HJ28.out; have := HJ43.out; first | omega | exact Nat.le_refl _⟩, ⟨by (with_reducible repeat (first | apply Kd.R_alloc | apply Kd.R_drewN | apply Kd.R_drew)); exact Kd.R_mono HO_5.out (fun _ hk => hk.2)⟩, ⟨by (with_reducible repeat (first | apply Kd.R_alloc | apply Kd.R_drewN | apply Kd.R_drew)); exact Kd.R_mono HO251.out (fun _ hk => hk.2)⟩, ⟨by (with_reducible repeat (first | refine blk_drewN ?_ _ | refine blk_drew ?_ | refine blk_alloc ?_ _)); exact BK244.out⟩, ⟨by repeat (first | (with_reducible first | exact HB.out | apply below_alloc | apply pw_below_drewN | apply below_drew1 | refine below_set ?_ GE244.out) | exact HB.out)⟩⟩
                                              · rw [if_neg c56] at H
                                                have c56b0 : decide (1 < (t249.length : Int)) = false := decide_eq_false c56
                                                have c56b1 : decide (1 < t249.length) = false := decide_eq_false (by omega)
                                                clear c56
                                                (first | rw [c56b0] | (simp only [i64_w, i32_w]; rw [c56b0]) | skip)
                                                have H' := Aside0.mk H
                                                clear H
                                                obtain ⟨Ao58, co58, eo58⟩ := Kd.R_slice HO251.out
                                                subst eo58
                                                go_wp2
                                                go_meet
                                                case rel => exact ⟨_, (false), (by first | rfl | (simp; done) | (simp [*]; done)), H', ⟨by have := HJ9.out; have := HK2.out; have := HJ19.out; have := HJ28.out; have := HJ43.out; first | omega | exact Nat.le_refl _⟩, ⟨by (with_reducible repeat (first | apply Kd.R_alloc | apply Kd.R_drewN | apply Kd.R_drew)); exact Kd.R_mono HO_5.out (fun _ hk => hk.2)⟩, ⟨by (with_reducible repeat (first | apply Kd.R_alloc | apply Kd.R_drewN | apply Kd.R_drew)); exact Kd.R_mono HO251.out (fun _ hk => hk.2)⟩, ⟨by (with_reducible repeat (first | refine blk_drewN ?_ _ | refine blk_drew ?_ | refine blk_alloc ?_ _)); exact BK244.out⟩, ⟨by repeat (first | (with_reducible first | exact HB.out | apply below_alloc | apply pw_below_drewN | apply below_drew1 | refine below_set ?_ GE244.out) | exact HB.out)⟩⟩
                                            case rest =>
                                              clear HC53
                                              try clear c1
                                              try clear c2
                                              try clear p2
                                              try clear q2
                                              try clear hx2
                                              try clear c3
                                              try clear c4
                                              try clear c5
                                              try clear c5b0
                                              try clear c5b1
                                              try clear p6
                                              try clear c8
                                              try clear c9
                                              try clear c9b0
                                              try clear c9b1
                                              try clear c10
                                              try clear c13
                                              try clear c14
                                              try clear c15
                                              try clear c15b0
                                              try clear c15b1
                                              try clear c15b2
                                              try clear c16
                                              try clear c18
                                              try clear c19
                                              try clear c19b0
                                              try clear c21
                                              try clear c21b0
                                              try clear c22
                                              try clear c22b0
                                              try clear c23
                                              try clear c23b0
                                              try clear c24
                                              try clear c24b0
                                              try clear p24
                                              try clear q24
                                              try clear hx24
                                              try clear c26
                                              try clear c27
                                              try clear c27b0
                                              try clear c28
                                              try clear c28b0
                                              try clear c33
                                              try clear c41
                                              try clear c48
                                              try clear c48b0
                                              try clear c49
                                              try clear c50
                                              try clear c50b0
                                              try clear c50b1
                                              try clear c56
                                              try clear c56b0
                                              try clear c56b1
                                              try clear hcz31_0
                                              try clear hcz31_1
                                              try clear hcz35_0
                                              try clear hcz35_1
                                              try clear hcz37_0
                                              try clear hcz37_1
                                              try clear hcz39_0
                                              try clear hcz39_1
                                              try clear hcz51_0
                                              try clear hcz51_1
                                              try clear hcz54_0
                                              try clear hcz54_1
                                              try clear hfz31_0
                                              try clear hfz31_1
                                              try clear hfz35_0
                                              try clear hfz35_1
                                              try clear hfz37_0
                                              try clear hfz37_1
                                              try clear hfz39_0
                                              try clear hfz39_1
                                              try clear hfz51_0
                                              try clear hfz51_1
                                              try clear hfz54_0
                                              try clear hfz54_1
                                              try clear hx242_0
                                              try clear hx243_0
                                              try clear hx243_1
                                              try clear p2
                                              try clear p24
                                              try clear p242
                                              try clear p243
                                              try clear p6
                                              try clear q2
                                              try clear q24
                                              try clear q242
                                              try clear q243
                                              obtain ⟨kq, x97_52, rfl, HA, HJ52, HO_5, HO_11, BK244, HB⟩ := hcut
                                              cases kq with
                                              | zero => exact absurd HA.out (by simp [bureaulaw21_CodeSafe.j5])
                                              | succ kj52 =>
                                                have H := HA.out
                                                clear HA
                                                simp only [bureaulaw21_CodeSafe.j5] at H
                                                by_cases c59 : x97_52 = true
                                                · subst c59
                                                  have H1 : (if 0 ≤ x9_2 then (if x9_2 < (l1.length : Int) then (if rdOf false l1 x9_2 = true then (if 1 < (t249.length : Int) then (bureaulaw21_CodeSafe.l0 kj52 l0 l1 t238 (rd t249 1) (wrap64 (x8_2 + (wrap64 (t247 - t248)))) (wrap64 (x9_2 + 1)) (wrap64 (x39_2 + 1))) else (none)) else (if 0 ≤ 0 then (if 0 < (t249.length : Int) then (bureaulaw21_CodeSafe.l0 kj52 l0 l1 t238 (rd t249 0) (wrap64 (x8_2 + (wrap64 (t247 - t248)))) (wrap64 (x9_2 + 1)) (wrap64 (x39_2 + 1))) else (none)) else (none))) else (none)) else (none)) = some r := by rw [if_pos rfl] at H; exact H
                                                  clear H
                                                  have H := H1
                                                  clear H1
                                                  by_cases c60 : 0 ≤ x9_2
                                                  · rw [if_pos c60] at H
                                                    have c60b0 : decide (0 ≤ x9_2) = true := decide_eq_true c60
                                                    clear c60
                                                    by_cases c61 : x9_2 < (l1.length : Int)
                                                    · rw [if_pos c61] at H
                                                      have c61b0 : decide (x9_2 < (l1.length : Int)) = true := decide_eq_true c61
                                                      clear c61
                                                      obtain ⟨bq62, hbq62⟩ : ∃ b_ : Bool, b_ = (rdOf false l1 x9_2) := ⟨_, rfl⟩
                                                      replace H : (if bq62 = true then (if 1 < (t249.length : Int) then (bureaulaw21_CodeSafe.l0 kj52 l0 l1 t238 (rd t249 1) (wrap64 (x8_2 + (wrap64 (t247 - t248)))) (wrap64 (x9_2 + 1)) (wrap64 (x39_2 + 1))) else (none)) else (if 0 ≤ 0 then (if 0 < (t249.length : Int) then (bureaulaw21_CodeSafe.l0 kj52 l0 l1 t238 (rd t249 0) (wrap64 (x8_2 + (wrap64 (t247 - t248)))) (wrap64 (x9_2 + 1)) (wrap64 (x39_2 + 1))) else (none)) else (none))) = some r := by rw [← hbq62] at H; exact H
                                                      have Nbq62 := Aside0.mk hbq62
                                                      clear hbq62
                                                      by_cases c63 : bq62 = true
                                                      · subst c63
                                                        have H1 : (if 1 < (t249.length : Int) then (bureaulaw21_CodeSafe.l0 kj52 l0 l1 t238 (rd t249 1) (wrap64 (x8_2 + (wrap64 (t247 - t248)))) (wrap64 (x9_2 + 1)) (wrap64 (x39_2 + 1))) else (none)) = some r := by rw [if_pos rfl] at H; exact H
                                                        clear H
                                                        have H := H1
                                                        clear H1
                                                        by_cases c64 : 1 < (t249.length : Int)
                                                        · rw [if_pos c64] at H
                                                          have c64b0 : decide (1 < (t249.length : Int)) = true := decide_eq_true c64
                                                          have c64b1 : decide (1 < t249.length) = true := decide_eq_true (by omega)
                                                          clear c64
                                                          have H' := Aside0.mk H
                                                          clear H
                                                          have p252 : 0 ≤ (x9_2 : Int) := of_decide_eq_true (by first | (with_reducible assumption) | assumption)
                                                          have q252 : x9_2 < (l1.length : Int) := of_decide_eq_true (by first | (with_reducible assumption) | assumption)
                                                          obtain ⟨ad252, e252, hx252_0⟩ := Kd.at_bool HR1.out x9_2 p252 q252
                                                          (try rw [← Nbq62.out] at hx252_0)
                                                          cases e252
                                                          replace hx252_0 := (HB.out.cell (World.block_lt_of_cell? w _ hx252_0)).trans hx252_0
                                                          replace p252 := eq_true p252
                                                          replace q252 := eq_true q252
                                                          obtain ⟨Ao65, co65, eo65⟩ := Kd.R_slice HO_11.out
                                                          subst eo65
                                                          have p253 : 0 ≤ (1 : Int) := (by omega)
                                                          have q253 : 1 < (t249.length : Int) := of_decide_eq_true (by first | (with_reducible assumption) | assumption)
                                                          obtain ⟨ad253, e253, hx253_0⟩ := Kd.at_int (Kd.R_reads' HO_11.out).2.2 1 p253 q253
                                                          cases e253
                                                          (try simp only [show (1 : Int).toNat = 1 from rfl, Nat.reduceMul, Nat.reduceEqDiff, Go.Addr.add, ↓reduceIte] at hx253_0)
                                                          have qi253 : (1 < t249.length) = True := eq_true (by omega)
                                                          (try rw [show ((1 : Int)).toNat = 1 from rfl] at hx253_0)
                                                          replace p253 := eq_true p253
                                                          replace q253 := eq_true q253
                                                          go_wp2
                                                          go_roundg kj52
                                                          case measure => have := HJ9.out; have := HK2.out; have := HJ19.out; have := HJ28.out; have := HJ43.out; have := HJ52.out; omega
                                                          case rel => exact ⟨(rd t249 1), ((wrap64 (x8_2 + (wrap64 (t247 - t248))))), (wrap64 (x9_2 + 1)), (wrap64 (x39_2 + 1)), (by first | rfl | (simp; done) | (simp [*]; done)), (by first | rfl | (simp; done) | (simp [*]; done)), (by first | rfl | (simp; done) | (simp [*]; done)), (by first | rfl | (simp; done) | (simp [*]; done)), H', ⟨by have := HJ9.out; have := HK2.out; have := HJ19.out; have := HJ28.out; have := HJ43.out; have := HJ52.out; omega⟩, ⟨by (with_reducible repeat (first | apply Kd.R_alloc | apply Kd.R_drewN | apply Kd.R_drew)); exact Kd.R_mono HO_5.out (fun _ hk => trivial)⟩, ⟨by repeat (first | (with_reducible first | exact HB.out | apply below_alloc | apply pw_below_drewN | apply below_drew1 | refine below_set ?_ GE244.out) | exact HB.out)⟩⟩
                                                        · rw [if_neg c64] at H
                                                          exact absurd H (by simp)
                                                      · replace c63 := Bool.eq_false_iff.mpr c63
                                                        subst c63
                                                        have H1 : (if 0 ≤ 0 then (if 0 < (t249.length : Int) then (bureaulaw21_CodeSafe.l0 kj52 l0 l1 t238 (rd t249 0) (wrap64 (x8_2 + (wrap64 (t247 - t248)))) (wrap64 (x9_2 + 1)) (wrap64 (x39_2 + 1))) else (none)) else (none)) = some r := by rw [if_neg (show ¬ (false = true) by decide)] at H; exact H
                                                        clear H
                                                        have H := H1
                                                        clear H1
                                                        by_cases c66 : 0 ≤ 0
                                                        · rw [if_pos c66] at H
                                                          have c66b0 : decide (0 ≤ 0) = true := decide_eq_true c66
                                                          clear c66
                                                          by_cases c67 : 0 < (t249.length : Int)
                                                          · rw [if_pos c67] at H
                                                            have c67b0 : decide (0 < (t249.length : Int)) = true := decide_eq_true c67
                                                            have c67b1 : decide (0 < t249.length) = true := decide_eq_true (by omega)
                                                            clear c67
                                                            have H' := Aside0.mk H
                                                            clear H
                                                            have p252 : 0 ≤ (x9_2 : Int) := of_decide_eq_true (by first | (with_reducible assumption) | assumption)
                                                            have q252 : x9_2 < (l1.length : Int) := of_decide_eq_true (by first | (with_reducible assumption) | assumption)
                                                            obtain ⟨ad252, e252, hx252_0⟩ := Kd.at_bool HR1.out x9_2 p252 q252
                                                            (try rw [← Nbq62.out] at hx252_0)
                                                            cases e252
                                                            replace hx252_0 := (HB.out.cell (World.block_lt_of_cell? w _ hx252_0)).trans hx252_0
                                                            replace p252 := eq_true p252
                                                            replace q252 := eq_true q252
                                                            obtain ⟨Ao68, co68, eo68⟩ := Kd.R_slice HO_11.out
                                                            subst eo68
                                                            have p254 : 0 ≤ (0 : Int) := (by omega)
                                                            have q254 : 0 < (t249.length : Int) := of_decide_eq_true (by first | (with_reducible assumption) | assumption)
                                                            obtain ⟨ad254, e254, hx254_0⟩ := Kd.at_int (Kd.R_reads' HO_11.out).2.2 0 p254 q254
                                                            cases e254
                                                            have qi254 : (0 < t249.length) = True := eq_true (by omega)
                                                            (try rw [show ((0 : Int)).toNat = 0 from rfl] at hx254_0)
                                                            (try rw [Addr.add_zero'] at hx254_0)
                                                            replace p254 := eq_true p254
                                                            replace q254 := eq_true q254
                                                            go_wp2
                                                            go_roundg kj52
                                                            case measure => have := HJ9.out; have := HK2.out; have := HJ19.out; have := HJ28.out; have := HJ43.out; have := HJ52.out; omega
                                                            case rel => exact ⟨(rd t249 0), ((wrap64 (x8_2 + (wrap64 (t247 - t248))))), (wrap64 (x9_2 + 1)), (wrap64 (x39_2 + 1)), (by first | rfl | (simp; done) | (simp [*]; done)), (by first | rfl | (simp; done) | (simp [*]; done)), (by first | rfl | (simp; done) | (simp [*]; done)), (by first | rfl | (simp; done) | (simp [*]; done)), H', ⟨by have := HJ9.out; have := HK2.out; have := HJ19.out; have := HJ28.out; have := HJ43.out; have := HJ52.out; omega⟩, ⟨by (with_reducible repeat (first | apply Kd.R_alloc | apply Kd.R_drewN | apply Kd.R_drew)); exact Kd.R_mono HO_5.out (fun _ hk => trivial)⟩, ⟨by repeat (first | (with_reducible first | exact HB.out | apply below_alloc | apply pw_below_drewN | apply below_drew1 | refine below_set ?_ GE244.out) | exact HB.out)⟩⟩
                                                          · rw [if_neg c67] at H
                                                            exact absurd H (by simp)
                                                        · rw [if_neg c66] at H
                                                          exact absurd H (by simp)
                                                    · rw [if_neg c61] at H
                                                      exact absurd H (by simp)
                                                  · rw [if_neg c60] at H
                                                    exact absurd H (by simp)
                                                · replace c59 := Bool.eq_false_iff.mpr c59
                                                  subst c59
                                                  have H1 : (if 0 ≤ 0 then (if 0 < (t249.length : Int) then (bureaulaw21_CodeSafe.l0 kj52 l0 l1 t238 (rd t249 0) (wrap64 (x8_2 + (wrap64 (t247 - t248)))) x9_2 (wrap64 (x39_2 + 1))) else (none)) else (none)) = some r := by rw [if_neg (show ¬ (false = true) by decide)] at H; exact H
                                                  clear H
                                                  have H := H1
                                                  clear H1
                                                  by_cases c69 : 0 ≤ 0
                                                  · rw [if_pos c69] at H
                                                    have c69b0 : decide (0 ≤ 0) = true := decide_eq_true c69
                                                    clear c69
                                                    by_cases c70 : 0 < (t249.length : Int)
                                                    · rw [if_pos c70] at H
                                                      have c70b0 : decide (0 < (t249.length : Int)) = true := decide_eq_true c70
                                                      have c70b1 : decide (0 < t249.length) = true := decide_eq_true (by omega)
                                                      clear c70
                                                      have H' := Aside0.mk H
                                                      clear H
                                                      obtain ⟨Ao71, co71, eo71⟩ := Kd.R_slice HO_11.out
                                                      subst eo71
                                                      have p255 : 0 ≤ (0 : Int) := (by omega)
                                                      have q255 : 0 < (t249.length : Int) := of_decide_eq_true (by first | (with_reducible assumption) | assumption)
                                                      obtain ⟨ad255, e255, hx255_0⟩ := Kd.at_int (Kd.R_reads' HO_11.out).2.2 0 p255 q255
                                                      cases e255
                                                      have qi255 : (0 < t249.length) = True := eq_true (by omega)
                                                      (try rw [show ((0 : Int)).toNat = 0 from rfl] at hx255_0)
                                                      (try rw [Addr.add_zero'] at hx255_0)
                                                      replace p255 := eq_true p255
                                                      replace q255 := eq_true q255
                                                      go_wp2
                                                      go_roundg kj52
                                                      case measure => have := HJ9.out; have := HK2.out; have := HJ19.out; have := HJ28.out; have := HJ43.out; have := HJ52.out; omega
                                                      case rel => exact ⟨(rd t249 0), ((wrap64 (x8_2 + (wrap64 (t247 - t248))))), (x9_2), (wrap64 (x39_2 + 1)), (by first | rfl | (simp; done) | (simp [*]; done)), (by first | rfl | (simp; done) | (simp [*]; done)), (by first | rfl | (simp; done) | (simp [*]; done)), (by first | rfl | (simp; done) | (simp [*]; done)), H', ⟨by have := HJ9.out; have := HK2.out; have := HJ19.out; have := HJ28.out; have := HJ43.out; have := HJ52.out; omega⟩, ⟨by (with_reducible repeat (first | apply Kd.R_alloc | apply Kd.R_drewN | apply Kd.R_drew)); exact Kd.R_mono HO_5.out (fun _ hk => trivial)⟩, ⟨by repeat (first | (with_reducible first | exact HB.out | apply below_alloc | apply pw_below_drewN | apply below_drew1 | refine below_set ?_ GE244.out) | exact HB.out)⟩⟩
                                                    · rw [if_neg c70] at H
                                                      exact absurd H (by simp)
                                                  · rw [if_neg c69] at H
                                                    exact absurd H (by simp)
                            · rw [if_neg c28] at H
                              exact absurd H (by simp)
                          · rw [if_neg c27] at H
                            exact absurd H (by simp)
                  · rw [if_neg c19] at H
                    have c19b0 : decide (x39_2 < 3000) = false := decide_eq_false c19
                    clear c19
                    obtain rfl := Option.some.inj H
                    go_wp2
                    go_ret
                    exact ⟨by first | rfl | (simp [errW_none, errW_some] <;> rfl) | (simp [*, errW_none, errW_some] <;> rfl), by repeat (first | (with_reducible first | exact HB.out | apply below_alloc | apply pw_below_drewN | apply below_drew1) | exact HB.out)⟩
      · rw [if_neg c9] at H
        have c9b0 : (t239 == 0) = false := beq_eq_false_iff_ne.mpr c9
        have c9b1 : (t239 != 0) = true := bne_iff_ne.mpr c9
        obtain rfl := Option.some.inj H
        go_enter Try.func4, Try.ntmps4
        go_wp2_with (first | ((with_reducible refine gate_callee (f := 8) rfl ?_); refine goesL_ (some 13) rfl rfl Try.func8 (by kernel_rfl) rfl #[] rfl (by (try simp only [List.map_toArray, List.map_cons, List.map_nil]); first | done | rfl | (simp only [List.length_drop, List.length_take]; rfl)) ?_; (with_reducible refine (bureaulaw21_alive.calls k  true _ A3.out).mono ?_); rintro e w72 ⟨rfl, hb⟩; refine ⟨_, rfl, ?_⟩; have n0_ := Aside0.mk (below_step (by repeat (first | (with_reducible first | exact HB.out | apply below_alloc | apply pw_below_drewN | apply below_drew1) | exact HB.out)) hb); clear HB; have HB := n0_; clear n0_; (try clear hb); (try clear hb2); (try clear hk); (try clear hi)) | ((with_reducible refine gate_callee (f := 10) rfl ?_); refine goesL_ (some 20) rfl rfl Try.func10 (by kernel_rfl) rfl #[.slice A0 l0.length c0] rfl (by (try simp only [List.map_toArray, List.map_cons, List.map_nil]); first | done | rfl | (simp only [List.length_drop, List.length_take]; rfl)) ?_; (with_reducible refine (bureaulaw21_Theirs.calls k _ _ l0 t235 _ ?side1 ?side2 A7.out).mono ?_); (case side1 => repeat (first | exact (Kd.C_below HR0.out HB.out) | (with_reducible refine Kd.C_alloc ?_ _) | (with_reducible refine Kd.C_drewN ?_ _) | (with_reducible refine Kd.C_drew ?_))); (case side2 => exact HC0.out); rintro e w73 ⟨v236, rfl, ho0, hb⟩; refine ⟨_, rfl, ?_⟩; have n0_ := Aside0.mk (Kd.R_lower ho0 (below_size (by repeat (first | (with_reducible first | exact HB.out | apply below_alloc | apply pw_below_drewN | apply below_drew1) | exact HB.out)))); have n1_ := Aside0.mk (below_step (by repeat (first | (with_reducible first | exact HB.out | apply below_alloc | apply pw_below_drewN | apply below_drew1) | exact HB.out)) hb); clear HB; have HO237 := n0_; have HB := n1_; clear n0_ n1_; (try clear hb); (try clear hb2); (try clear hk); (try clear hi); (try clear ho0); obtain ⟨Ao74, co74, eo74⟩ := Kd.R_slice HO237.out; subst eo74) | ((with_reducible refine gate_callee (f := 9) rfl ?_); refine goesL_ (some 21) rfl rfl Try.func9 (by kernel_rfl) rfl #[.slice Ao74 t235.length co74] rfl (by (try simp only [List.map_toArray, List.map_cons, List.map_nil]); first | done | rfl | (simp only [List.length_drop, List.length_take]; rfl)) ?_; (with_reducible refine (code_Depths.calls k _ _ t235 t238 t239 _ ?side1 ?side2 A8.out).mono ?_); (case side1 => repeat (first | exact (Kd.R_reads' HO237.out).2.2 | (with_reducible refine Kd.C_alloc ?_ _) | (with_reducible refine Kd.C_drewN ?_ _) | (with_reducible refine Kd.C_drew ?_))); (case side2 => exact (Kd.R_reads' HO237.out).2.1); rintro e w75 ⟨v240, rfl, ho0, hb⟩; refine ⟨_, rfl, ?_⟩; have n0_ := Aside0.mk (Kd.R_below (by (with_reducible repeat (first | apply Kd.R_alloc | apply Kd.R_drewN | apply Kd.R_drew)); exact HO237.out) hb); have n1_ := Aside0.mk (Kd.R_lower ho0 (below_size (by repeat (first | (with_reducible first | exact HB.out | apply below_alloc | apply pw_below_drewN | apply below_drew1) | exact HB.out)))); have n2_ := Aside0.mk (below_step (by repeat (first | (with_reducible first | exact HB.out | apply below_alloc | apply pw_below_drewN | apply below_drew1) | exact HB.out)) hb); clear HO237; clear HB; have HO237 := n0_; have HO241 := n1_; have HB := n2_; clear n0_ n1_ n2_; (try clear hb); (try clear hb2); (try clear hk); (try clear hi); (try clear ho0); obtain ⟨Ao76, co76, eo76⟩ := Kd.R_slice HO241.out; subst eo76))
        go_ret
        exact ⟨by first | rfl | (simp [errW_none, errW_some] <;> rfl) | (simp [*, errW_none, errW_some] <;> rfl), by repeat (first | (with_reducible first | exact HB.out | apply below_alloc | apply pw_below_drewN | apply below_drew1) | exact HB.out)⟩
  · replace c4 := Bool.eq_false_iff.mpr c4
    subst c4
    have H1 : (some false) = some r := by rw [if_neg (show ¬ (false = true) by decide)] at H; exact H
    clear H
    have H := H1
    clear H1
    obtain rfl := Option.some.inj H
    go_enter Try.func4, Try.ntmps4
    go_wp2_with (first | ((with_reducible refine gate_callee (f := 8) rfl ?_); refine goesL_ (some 13) rfl rfl Try.func8 (by kernel_rfl) rfl #[] rfl (by (try simp only [List.map_toArray, List.map_cons, List.map_nil]); first | done | rfl | (simp only [List.length_drop, List.length_take]; rfl)) ?_; (with_reducible refine (bureaulaw21_alive.calls k  false _ A3.out).mono ?_); rintro e w77 ⟨rfl, hb⟩; refine ⟨_, rfl, ?_⟩; have n0_ := Aside0.mk (below_step (by repeat (first | (with_reducible first | exact HB.out | apply below_alloc | apply pw_below_drewN | apply below_drew1) | exact HB.out)) hb); clear HB; have HB := n0_; clear n0_; (try clear hb); (try clear hb2); (try clear hk); (try clear hi)))
    go_ret
    exact ⟨by first | rfl | (simp [errW_none, errW_some] <;> rfl) | (simp [*, errW_none, errW_some] <;> rfl), by repeat (first | (with_reducible first | exact HB.out | apply below_alloc | apply pw_below_drewN | apply below_drew1) | exact HB.out)⟩

/-- What is to be proved of bureaulaw21_CodeSafe: no program in it. -/
def bureaulaw21_CodeSafe.Pure : Prop := ∀ (l0 : List (S36)) (l1 : List Bool), l0.length ≤ maxLen → (∀ x ∈ l0, (Lit.int .i64 x.f0).wf = true ∧ (Lit.int .i64 x.f1).wf = true) → l1.length ≤ maxLen → ∃ k, bureaulaw21_CodeSafe.f k l0 l1 = some true

end Go.Proofs.Ytlpiknclbgogbaa.XCodeSafe
