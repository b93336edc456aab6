-- Written by this session's program (wip/xprint.py) with the kit's print, for this claim.
import Derived.Test.YtpajakfmahfpkaaDoorXMoveAllx0
import Derived.Test.YtpajakfmahfpkaaDoorXMoveAllx2
import Derived.Test.YtpajakfmahfpkaaDoorXMoveAllx4
import Derived.Test.YtpajakfmahfpkaaDoorXMoveAllx5
import Derived.Test.YtpajakfmahfpkaaDoorXMoveAllx6
import Derived.Test.YtpajakfmahfpkaaDoorXMoveAllx7
namespace Go.Proofs.YtpajakfmahfpkaaDoor.XMoveAll
open Go.RowKit Go.Proofs.YtpajakfmahfpkaaDoorW.PrintWords Go.Proofs.YtpajakfmahfpkaaDoorW.PrintLast Go.Proofs.YtpajakfmahfpkaaDoorW.PrintMore Go.Proofs.YtpajakfmahfpkaaDoor.Ext
attribute [local go_sem] max2_int min2_int max_two min_two max_three min_three max_four min_four   -- for this text's walks alone
set_option linter.unusedVariables false
set_option linter.unusedSimpArgs false

/-! ### bureauref12_To: function 13 -/
mutual
def bureauref12_To.j0 : Nat → ByteArray → Int → Int → Int → Int → Int → Int → Bool → Option (Int × Int × Bool)
  | 0, _, _, _, _, _, _, _, _ => none
  | k + 1, x0, x2, x3, x4, x13, x14, x32, x33 => if x33 = true then ((bureauref12_sideways.f k x0 x13 x14 x2).bind fun bt348 => ((bureauref12_exclusive.f x13 bt348.1 bt348.2).bind fun bt350 => (some (bt350.1, bt350.2.1, bt350.2.2)))) else (if x32 = 119 then (bureauref12_To.j1 k x0 x2 x3 x4 x13 x14 x32 (x32 == 119)) else (if x32 = 98 then (bureauref12_To.j1 k x0 x2 x3 x4 x13 x14 x32 (x32 == 98)) else (if x32 = 123 then (bureauref12_To.j1 k x0 x2 x3 x4 x13 x14 x32 (x32 == 123)) else (bureauref12_To.j1 k x0 x2 x3 x4 x13 x14 x32 (x32 == 125)))))
def bureauref12_To.j1 : Nat → ByteArray → Int → Int → Int → Int → Int → Int → Bool → Option (Int × Int × Bool)
  | 0, _, _, _, _, _, _, _, _ => none
  | k + 1, x0, x2, x3, x4, x13, x14, x32, x54 => if x54 = true then ((bureauref12_words.f k x0 x13 x14 x2).bind fun t353 => ((bureauref12_exclusive.f x13 t353 true).bind fun bt354 => (some (bt354.1, bt354.2.1, bt354.2.2)))) else (if x32 = 101 then ((bureauref12_Ends.f k x0).bind fun t357 => ((bureauref12_behind.f k t357 x13 x14).bind fun bt360 => ((bureauref02_Prev.f k x0 (x0.size : Int)).bind fun t362 => ((bureauref12_or.f bt360.1 bt360.2 t362).bind fun t363 => ((bureauref12_inclusive.f t363 (decide (t363 > x13))).bind fun bt364 => (some (bt364.1, bt364.2.1, bt364.2.2))))))) else (if x32 = 102 then (bureauref12_To.j2 k x0 x2 x3 x4 x13 x14 x32 (x32 == 102)) else (bureauref12_To.j2 k x0 x2 x3 x4 x13 x14 x32 (x32 == 116))))
def bureauref12_To.j2 : Nat → ByteArray → Int → Int → Int → Int → Int → Int → Bool → Option (Int × Int × Bool)
  | 0, _, _, _, _, _, _, _, _ => none
  | k + 1, x0, x2, x3, x4, x13, x14, x32, x94 => if x94 = true then ((bureauref12_finds.f k x0 x13 x14 x2 x3).bind fun bt367 => ((bureauref12_inclusive.f bt367.1 bt367.2).bind fun bt369 => (some (bt369.1, bt369.2.1, bt369.2.2)))) else (if x32 = 70 then (bureauref12_To.j3 k x0 x2 x3 x4 x13 x14 x32 (x32 == 70)) else (bureauref12_To.j3 k x0 x2 x3 x4 x13 x14 x32 (x32 == 84)))
def bureauref12_To.j3 : Nat → ByteArray → Int → Int → Int → Int → Int → Int → Bool → Option (Int × Int × Bool)
  | 0, _, _, _, _, _, _, _, _ => none
  | k + 1, x0, x2, x3, x4, x13, x14, x32, x112 => if x112 = true then ((bureauref12_finds.f k x0 x13 x14 x2 x3).bind fun bt372 => ((bureauref12_exclusive.f x13 bt372.1 bt372.2).bind fun bt374 => (some (bt374.1, bt374.2.1, bt374.2.2)))) else (if x32 = 106 then (bureauref12_To.j4 k x0 x2 x4 x13 x14 (x32 == 106)) else (if x32 = 107 then (bureauref12_To.j4 k x0 x2 x4 x13 x14 (x32 == 107)) else (if x32 = 71 then (bureauref12_To.j4 k x0 x2 x4 x13 x14 (x32 == 71)) else (bureauref12_To.j4 k x0 x2 x4 x13 x14 (x32 == 103)))))
def bureauref12_To.j4 : Nat → ByteArray → Int → Int → Int → Int → Bool → Option (Int × Int × Bool)
  | 0, _, _, _, _, _, _ => none
  | k + 1, x0, x2, x4, x13, x14, x131 => if x131 = true then ((bureauref12_lines.f k x0 x13 x14 x2 x4).bind fun bt377 => (if bt377.2 = true then (some (bt377.1, 2, true)) else (some (0, 0, false)))) else (some (0, 0, false))
end
def bureauref12_To.f (k : Nat) (a0 : ByteArray) (a1 : Int) (a2 : Int) (a3 : Int) (a4 : Int) : Option (Int × Int × Bool) := (bureauref02_Align.f k a0 a1).bind fun t347 => (if a2 = 104 then (bureauref12_To.j0 k a0 a2 a3 a4 t347 (mn (mx a4 1) 999) a2 (a2 == 104)) else (if a2 = 108 then (bureauref12_To.j0 k a0 a2 a3 a4 t347 (mn (mx a4 1) 999) a2 (a2 == 108)) else (if a2 = 48 then (bureauref12_To.j0 k a0 a2 a3 a4 t347 (mn (mx a4 1) 999) a2 (a2 == 48)) else (if a2 = 94 then (bureauref12_To.j0 k a0 a2 a3 a4 t347 (mn (mx a4 1) 999) a2 (a2 == 94)) else (bureauref12_To.j0 k a0 a2 a3 a4 t347 (mn (mx a4 1) 999) a2 (a2 == 36))))))
theorem bureauref12_To.mono_l : ∀ k, (∀ y0 y1 y2 y3 y4 y5 y6 y7, LeO (bureauref12_To.j0 k y0 y1 y2 y3 y4 y5 y6 y7) (bureauref12_To.j0 (k + 1) y0 y1 y2 y3 y4 y5 y6 y7)) ∧ (∀ y0 y1 y2 y3 y4 y5 y6 y7, LeO (bureauref12_To.j1 k y0 y1 y2 y3 y4 y5 y6 y7) (bureauref12_To.j1 (k + 1) y0 y1 y2 y3 y4 y5 y6 y7)) ∧ (∀ y0 y1 y2 y3 y4 y5 y6 y7, LeO (bureauref12_To.j2 k y0 y1 y2 y3 y4 y5 y6 y7) (bureauref12_To.j2 (k + 1) y0 y1 y2 y3 y4 y5 y6 y7)) ∧ (∀ y0 y1 y2 y3 y4 y5 y6 y7, LeO (bureauref12_To.j3 k y0 y1 y2 y3 y4 y5 y6 y7) (bureauref12_To.j3 (k + 1) y0 y1 y2 y3 y4 y5 y6 y7)) ∧ (∀ y0 y1 y2 y3 y4 y5, LeO (bureauref12_To.j4 k y0 y1 y2 y3 y4 y5) (bureauref12_To.j4 (k + 1) y0 y1 y2 y3 y4 y5))
  | 0 => ⟨fun _ _ _ _ _ _ _ _ r h => by simp [bureauref12_To.j0] at h, fun _ _ _ _ _ _ _ _ r h => by simp [bureauref12_To.j1] at h, fun _ _ _ _ _ _ _ _ r h => by simp [bureauref12_To.j2] at h, fun _ _ _ _ _ _ _ _ r h => by simp [bureauref12_To.j3] at h, fun _ _ _ _ _ _ r h => by simp [bureauref12_To.j4] at h⟩
  | k + 1 => by
    obtain ⟨ih0, ih1, ih2, ih3, ih4⟩ := bureauref12_To.mono_l k
    refine ⟨?_, ?_, ?_, ?_, ?_⟩
    · intro y0 y1 y2 y3 y4 y5 y6 y7
      unfold bureauref12_To.j0
      repeat' first
      | (with_reducible exact ih0 _ _ _ _ _ _ _ _)
      | (with_reducible exact ih1 _ _ _ _ _ _ _ _)
      | (with_reducible exact ih2 _ _ _ _ _ _ _ _)
      | (with_reducible exact ih3 _ _ _ _ _ _ _ _)
      | (with_reducible exact ih4 _ _ _ _ _ _)
      | (with_reducible exact bureauref02_Align.mono _ _ _)
      | (with_reducible exact bureauref02_Prev.mono _ _ _)
      | (with_reducible exact bureauref12_Ends.mono _ _)
      | (with_reducible exact bureauref12_behind.mono _ _ _ _)
      | (with_reducible exact bureauref12_finds.mono _ _ _ _ _ _)
      | (with_reducible exact bureauref12_lines.mono _ _ _ _ _ _)
      | (with_reducible exact bureauref12_sideways.mono _ _ _ _ _)
      | (with_reducible exact bureauref12_words.mono _ _ _ _ _)
      | (with_reducible exact LeO.refl _)
      | (with_reducible exact LeO.none _)
      | (with_reducible refine LeO.ite ?_ ?_)
      | (with_reducible refine LeO.bind ?_ (fun _ => ?_))
      | exact ih0 _ _ _ _ _ _ _ _
      | exact ih1 _ _ _ _ _ _ _ _
      | exact ih2 _ _ _ _ _ _ _ _
      | exact ih3 _ _ _ _ _ _ _ _
      | exact ih4 _ _ _ _ _ _
      | exact bureauref02_Align.mono _ _ _
      | exact bureauref02_Prev.mono _ _ _
      | exact bureauref12_Ends.mono _ _
      | exact bureauref12_behind.mono _ _ _ _
      | exact bureauref12_finds.mono _ _ _ _ _ _
      | exact bureauref12_lines.mono _ _ _ _ _ _
      | exact bureauref12_sideways.mono _ _ _ _ _
      | exact bureauref12_words.mono _ _ _ _ _
      | exact LeO.none _
      | refine LeO.ite ?_ ?_
      | refine LeO.bind ?_ (fun _ => ?_)
    · intro y0 y1 y2 y3 y4 y5 y6 y7
      unfold bureauref12_To.j1
      repeat' first
      | (with_reducible exact ih0 _ _ _ _ _ _ _ _)
      | (with_reducible exact ih1 _ _ _ _ _ _ _ _)
      | (with_reducible exact ih2 _ _ _ _ _ _ _ _)
      | (with_reducible exact ih3 _ _ _ _ _ _ _ _)
      | (with_reducible exact ih4 _ _ _ _ _ _)
      | (with_reducible exact bureauref02_Align.mono _ _ _)
      | (with_reducible exact bureauref02_Prev.mono _ _ _)
      | (with_reducible exact bureauref12_Ends.mono _ _)
      | (with_reducible exact bureauref12_behind.mono _ _ _ _)
      | (with_reducible exact bureauref12_finds.mono _ _ _ _ _ _)
      | (with_reducible exact bureauref12_lines.mono _ _ _ _ _ _)
      | (with_reducible exact bureauref12_sideways.mono _ _ _ _ _)
      | (with_reducible exact bureauref12_words.mono _ _ _ _ _)
      | (with_reducible exact LeO.refl _)
      | (with_reducible exact LeO.none _)
      | (with_reducible refine LeO.ite ?_ ?_)
      | (with_reducible refine LeO.bind ?_ (fun _ => ?_))
      | exact ih0 _ _ _ _ _ _ _ _
      | exact ih1 _ _ _ _ _ _ _ _
      | exact ih2 _ _ _ _ _ _ _ _
      | exact ih3 _ _ _ _ _ _ _ _
      | exact ih4 _ _ _ _ _ _
      | exact bureauref02_Align.mono _ _ _
      | exact bureauref02_Prev.mono _ _ _
      | exact bureauref12_Ends.mono _ _
      | exact bureauref12_behind.mono _ _ _ _
      | exact bureauref12_finds.mono _ _ _ _ _ _
      | exact bureauref12_lines.mono _ _ _ _ _ _
      | exact bureauref12_sideways.mono _ _ _ _ _
      | exact bureauref12_words.mono _ _ _ _ _
      | exact LeO.none _
      | refine LeO.ite ?_ ?_
      | refine LeO.bind ?_ (fun _ => ?_)
    · intro y0 y1 y2 y3 y4 y5 y6 y7
      unfold bureauref12_To.j2
      repeat' first
      | (with_reducible exact ih0 _ _ _ _ _ _ _ _)
      | (with_reducible exact ih1 _ _ _ _ _ _ _ _)
      | (with_reducible exact ih2 _ _ _ _ _ _ _ _)
      | (with_reducible exact ih3 _ _ _ _ _ _ _ _)
      | (with_reducible exact ih4 _ _ _ _ _ _)
      | (with_reducible exact bureauref02_Align.mono _ _ _)
      | (with_reducible exact bureauref02_Prev.mono _ _ _)
      | (with_reducible exact bureauref12_Ends.mono _ _)
      | (with_reducible exact bureauref12_behind.mono _ _ _ _)
      | (with_reducible exact bureauref12_finds.mono _ _ _ _ _ _)
      | (with_reducible exact bureauref12_lines.mono _ _ _ _ _ _)
      | (with_reducible exact bureauref12_sideways.mono _ _ _ _ _)
      | (with_reducible exact bureauref12_words.mono _ _ _ _ _)
      | (with_reducible exact LeO.refl _)
      | (with_reducible exact LeO.none _)
      | (with_reducible refine LeO.ite ?_ ?_)
      | (with_reducible refine LeO.bind ?_ (fun _ => ?_))
      | exact ih0 _ _ _ _ _ _ _ _
      | exact ih1 _ _ _ _ _ _ _ _
      | exact ih2 _ _ _ _ _ _ _ _
      | exact ih3 _ _ _ _ _ _ _ _
      | exact ih4 _ _ _ _ _ _
      | exact bureauref02_Align.mono _ _ _
      | exact bureauref02_Prev.mono _ _ _
      | exact bureauref12_Ends.mono _ _
      | exact bureauref12_behind.mono _ _ _ _
      | exact bureauref12_finds.mono _ _ _ _ _ _
      | exact bureauref12_lines.mono _ _ _ _ _ _
      | exact bureauref12_sideways.mono _ _ _ _ _
      | exact bureauref12_words.mono _ _ _ _ _
      | exact LeO.none _
      | refine LeO.ite ?_ ?_
      | refine LeO.bind ?_ (fun _ => ?_)
    · intro y0 y1 y2 y3 y4 y5 y6 y7
      unfold bureauref12_To.j3
      repeat' first
      | (with_reducible exact ih0 _ _ _ _ _ _ _ _)
      | (with_reducible exact ih1 _ _ _ _ _ _ _ _)
      | (with_reducible exact ih2 _ _ _ _ _ _ _ _)
      | (with_reducible exact ih3 _ _ _ _ _ _ _ _)
      | (with_reducible exact ih4 _ _ _ _ _ _)
      | (with_reducible exact bureauref02_Align.mono _ _ _)
      | (with_reducible exact bureauref02_Prev.mono _ _ _)
      | (with_reducible exact bureauref12_Ends.mono _ _)
      | (with_reducible exact bureauref12_behind.mono _ _ _ _)
      | (with_reducible exact bureauref12_finds.mono _ _ _ _ _ _)
      | (with_reducible exact bureauref12_lines.mono _ _ _ _ _ _)
      | (with_reducible exact bureauref12_sideways.mono _ _ _ _ _)
      | (with_reducible exact bureauref12_words.mono _ _ _ _ _)
      | (with_reducible exact LeO.refl _)
      | (with_reducible exact LeO.none _)
      | (with_reducible refine LeO.ite ?_ ?_)
      | (with_reducible refine LeO.bind ?_ (fun _ => ?_))
      | exact ih0 _ _ _ _ _ _ _ _
      | exact ih1 _ _ _ _ _ _ _ _
      | exact ih2 _ _ _ _ _ _ _ _
      | exact ih3 _ _ _ _ _ _ _ _
      | exact ih4 _ _ _ _ _ _
      | exact bureauref02_Align.mono _ _ _
      | exact bureauref02_Prev.mono _ _ _
      | exact bureauref12_Ends.mono _ _
      | exact bureauref12_behind.mono _ _ _ _
      | exact bureauref12_finds.mono _ _ _ _ _ _
      | exact bureauref12_lines.mono _ _ _ _ _ _
      | exact bureauref12_sideways.mono _ _ _ _ _
      | exact bureauref12_words.mono _ _ _ _ _
      | exact LeO.none _
      | refine LeO.ite ?_ ?_
      | refine LeO.bind ?_ (fun _ => ?_)
    · intro y0 y1 y2 y3 y4 y5
      unfold bureauref12_To.j4
      repeat' first
      | (with_reducible exact ih0 _ _ _ _ _ _ _ _)
      | (with_reducible exact ih1 _ _ _ _ _ _ _ _)
      | (with_reducible exact ih2 _ _ _ _ _ _ _ _)
      | (with_reducible exact ih3 _ _ _ _ _ _ _ _)
      | (with_reducible exact ih4 _ _ _ _ _ _)
      | (with_reducible exact bureauref02_Align.mono _ _ _)
      | (with_reducible exact bureauref02_Prev.mono _ _ _)
      | (with_reducible exact bureauref12_Ends.mono _ _)
      | (with_reducible exact bureauref12_behind.mono _ _ _ _)
      | (with_reducible exact bureauref12_finds.mono _ _ _ _ _ _)
      | (with_reducible exact bureauref12_lines.mono _ _ _ _ _ _)
      | (with_reducible exact bureauref12_sideways.mono _ _ _ _ _)
      | (with_reducible exact bureauref12_words.mono _ _ _ _ _)
      | (with_reducible exact LeO.refl _)
      | (with_reducible exact LeO.none _)
      | (with_reducible refine LeO.ite ?_ ?_)
      | (with_reducible refine LeO.bind ?_ (fun _ => ?_))
      | exact ih0 _ _ _ _ _ _ _ _
      | exact ih1 _ _ _ _ _ _ _ _
      | exact ih2 _ _ _ _ _ _ _ _
      | exact ih3 _ _ _ _ _ _ _ _
      | exact ih4 _ _ _ _ _ _
      | exact bureauref02_Align.mono _ _ _
      | exact bureauref02_Prev.mono _ _ _
      | exact bureauref12_Ends.mono _ _
      | exact bureauref12_behind.mono _ _ _ _
      | exact bureauref12_finds.mono _ _ _ _ _ _
      | exact bureauref12_lines.mono _ _ _ _ _ _
      | exact bureauref12_sideways.mono _ _ _ _ _
      | exact bureauref12_words.mono _ _ _ _ _
      | exact LeO.none _
      | refine LeO.ite ?_ ?_
      | refine LeO.bind ?_ (fun _ => ?_)
theorem bureauref12_To.mono : ∀ a0 a1 a2 a3 a4 k, LeO (bureauref12_To.f k a0 a1 a2 a3 a4) (bureauref12_To.f (k + 1) a0 a1 a2 a3 a4) := by
  intro a0 a1 a2 a3 a4 k
  obtain ⟨ih0, ih1, ih2, ih3, ih4⟩ := bureauref12_To.mono_l k
  unfold bureauref12_To.f
  repeat' first
      | (with_reducible exact ih0 _ _ _ _ _ _ _ _)
      | (with_reducible exact ih1 _ _ _ _ _ _ _ _)
      | (with_reducible exact ih2 _ _ _ _ _ _ _ _)
      | (with_reducible exact ih3 _ _ _ _ _ _ _ _)
      | (with_reducible exact ih4 _ _ _ _ _ _)
      | (with_reducible exact bureauref02_Align.mono _ _ _)
      | (with_reducible exact bureauref02_Prev.mono _ _ _)
      | (with_reducible exact bureauref12_Ends.mono _ _)
      | (with_reducible exact bureauref12_behind.mono _ _ _ _)
      | (with_reducible exact bureauref12_finds.mono _ _ _ _ _ _)
      | (with_reducible exact bureauref12_lines.mono _ _ _ _ _ _)
      | (with_reducible exact bureauref12_sideways.mono _ _ _ _ _)
      | (with_reducible exact bureauref12_words.mono _ _ _ _ _)
      | (with_reducible exact LeO.refl _)
      | (with_reducible exact LeO.none _)
      | (with_reducible refine LeO.ite ?_ ?_)
      | (with_reducible refine LeO.bind ?_ (fun _ => ?_))
      | exact ih0 _ _ _ _ _ _ _ _
      | exact ih1 _ _ _ _ _ _ _ _
      | exact ih2 _ _ _ _ _ _ _ _
      | exact ih3 _ _ _ _ _ _ _ _
      | exact ih4 _ _ _ _ _ _
      | exact bureauref02_Align.mono _ _ _
      | exact bureauref02_Prev.mono _ _ _
      | exact bureauref12_Ends.mono _ _
      | exact bureauref12_behind.mono _ _ _ _
      | exact bureauref12_finds.mono _ _ _ _ _ _
      | exact bureauref12_lines.mono _ _ _ _ _ _
      | exact bureauref12_sideways.mono _ _ _ _ _
      | exact bureauref12_words.mono _ _ _ _ _
      | exact LeO.none _
      | refine LeO.ite ?_ ?_
      | refine LeO.bind ?_ (fun _ => ?_)
set_option maxHeartbeats 8000000 in
set_option maxRecDepth 100000 in
theorem bureauref12_To.calls (k : Nat) (a0 : ByteArray) (a1 : Int) (a2 : Int) (a3 : Int) (a4 : Int) (r1 : Int) (r2 : Int) (r3 : Bool) (w : World) (h : bureauref12_To.f k a0 a1 a2 a3 a4 = some (r1, r2, r3)) (hTabs : Tabs w) :
    Calls Tryd.prog 13 #[.string a0, .int .i64 a1, .int .i64 a2, .int .i64 a3, .int .i64 a4] w fun e w' => e = .returned (.tuple #[.int .i64 r1, .int .i64 r2, .bool r3]) ∧ Below w.heap.size w w' := by
  have HTABS := Aside0.mk hTabs
  clear hTabs
  have HB := Aside0.mk (Below.refl w.heap.size w)
  have H : ((bureauref02_Align.f k a0 a1).bind fun t347 => (if a2 = 104 then (bureauref12_To.j0 k a0 a2 a3 a4 t347 (mn (mx a4 1) 999) a2 (a2 == 104)) else (if a2 = 108 then (bureauref12_To.j0 k a0 a2 a3 a4 t347 (mn (mx a4 1) 999) a2 (a2 == 108)) else (if a2 = 48 then (bureauref12_To.j0 k a0 a2 a3 a4 t347 (mn (mx a4 1) 999) a2 (a2 == 48)) else (if a2 = 94 then (bureauref12_To.j0 k a0 a2 a3 a4 t347 (mn (mx a4 1) 999) a2 (a2 == 94)) else (bureauref12_To.j0 k a0 a2 a3 a4 t347 (mn (mx a4 1) 999) a2 (a2 == 36))))))) = some (r1, r2, r3) := h
  clear h
  replace H := Option.bind_eq_some_iff.mp H
  obtain ⟨t347, A60, H⟩ := H
  replace H : (if a2 = 104 then (bureauref12_To.j0 k a0 a2 a3 a4 t347 (mn (mx a4 1) 999) a2 (a2 == 104)) else (if a2 = 108 then (bureauref12_To.j0 k a0 a2 a3 a4 t347 (mn (mx a4 1) 999) a2 (a2 == 108)) else (if a2 = 48 then (bureauref12_To.j0 k a0 a2 a3 a4 t347 (mn (mx a4 1) 999) a2 (a2 == 48)) else (if a2 = 94 then (bureauref12_To.j0 k a0 a2 a3 a4 t347 (mn (mx a4 1) 999) a2 (a2 == 94)) else (bureauref12_To.j0 k a0 a2 a3 a4 t347 (mn (mx a4 1) 999) a2 (a2 == 36)))))) = some (r1, r2, r3) := H
  have A6 := Aside0.mk A60
  clear A60
  obtain ⟨ji7, hji7⟩ : ∃ j_ : Int, (mx a4 1) = j_ := ⟨_, rfl⟩
  replace H : (if a2 = 104 then (bureauref12_To.j0 k a0 a2 a3 a4 t347 (mn (ji7) 999) a2 (a2 == 104)) else (if a2 = 108 then (bureauref12_To.j0 k a0 a2 a3 a4 t347 (mn (ji7) 999) a2 (a2 == 108)) else (if a2 = 48 then (bureauref12_To.j0 k a0 a2 a3 a4 t347 (mn (ji7) 999) a2 (a2 == 48)) else (if a2 = 94 then (bureauref12_To.j0 k a0 a2 a3 a4 t347 (mn (ji7) 999) a2 (a2 == 94)) else (bureauref12_To.j0 k a0 a2 a3 a4 t347 (mn (ji7) 999) a2 (a2 == 36)))))) = some (r1, r2, r3) := by first | (rw [hji7] at H; exact H) | (simp only [hji7] at H ⊢; exact H)
  (try rw [hji7] at A6)
  (try (have hji7l : 1 ≤ ji7 := by (rw [← hji7]; unfold mx; (repeat' split) <;> omega)))
  (try (have hji7m : 0 ≤ ji7 := by omega))
  have hji7_ : (if a4 < 1 then 1 else a4) = ji7 := hji7
  obtain ⟨ji8, hji8⟩ : ∃ j_ : Int, (mn (ji7) 999) = j_ := ⟨_, rfl⟩
  replace H : (if a2 = 104 then (bureauref12_To.j0 k a0 a2 a3 a4 t347 ji8 a2 (a2 == 104)) else (if a2 = 108 then (bureauref12_To.j0 k a0 a2 a3 a4 t347 ji8 a2 (a2 == 108)) else (if a2 = 48 then (bureauref12_To.j0 k a0 a2 a3 a4 t347 ji8 a2 (a2 == 48)) else (if a2 = 94 then (bureauref12_To.j0 k a0 a2 a3 a4 t347 ji8 a2 (a2 == 94)) else (bureauref12_To.j0 k a0 a2 a3 a4 t347 ji8 a2 (a2 == 36)))))) = some (r1, r2, r3) := by first | (rw [hji8] at H; exact H) | (simp only [hji8] at H ⊢; exact H)
  (try rw [hji8] at A6)
  have hji8_ : (if 999 < (ji7) then 999 else (ji7)) = ji8 := hji8
  have HC9 := Aside0.mk H
  clear H
  go_enter Tryd.func13, Tryd.ntmps13
  go_upto_if 33 with (first | ((with_reducible refine gate_callee (f := 14) rfl ?_); refine goesL_ (some 28) rfl rfl Tryd.func14 (by kernel_rfl) rfl #[.string a0, .int .i64 a1] rfl (by (try simp only [List.map_toArray, List.map_cons, List.map_nil]); first | done | rfl | (simp only [List.length_drop, List.length_take]; rfl)) ?_; (with_reducible refine (bureauref02_Align.calls k a0 a1 t347 _ A6.out ?sideT).mono ?_); (case sideT => first | exact HTABS.out | exact HTABS.out.below (by repeat (first | (with_reducible first | exact HB.out | apply below_alloc | apply pw_below_drewN | apply below_drew1) | refine below_set ?_ (Aside0.out (by assumption)) | exact HB.out)) (Nat.le_refl _) | exact HTABS.out.below (Below.drew (Below.refl _ _)) (Nat.le_refl _)); rintro e w10 ⟨rfl, hb⟩; refine ⟨_, rfl, ?_⟩; have n0_ := Aside0.mk (below_step (by repeat (first | (with_reducible first | exact HB.out | apply below_alloc | apply pw_below_drewN | apply below_drew1) | exact HB.out)) hb); clear HB; have HB := n0_; clear n0_; (try clear hb); (try clear hb2); (try clear hk); (try clear hi)))
  (try simp only [Act.put, List.setIfInBounds_toArray, List.set_cons_zero, List.set_cons_succ])
  go_cut [33] (fun v33 wc => ∃ (kq : Nat) (x33_8 : Bool), v33 = .bool x33_8 ∧ Aside0 (bureauref12_To.j0 kq a0 a2 a3 a4 t347 ji8 a2 x33_8 = some (r1, r2, r3)) ∧ Aside0 (kq ≤ k) ∧ Aside0 (Below w.heap.size w wc))
  case first =>
    have H := HC9.out
    clear HC9
    by_cases c11 : a2 = 104
    · rw [if_pos c11] at H
      have c11b0 : (a2 == 104) = true := beq_iff_eq.mpr c11
      have c11b1 : (a2 != 104) = false := bne_eq_false_iff_eq.mpr c11
      clear c11
      (first | rw [c11b0] | (simp only [i64_w, i32_w]; rw [c11b0]) | skip)
      have H' := Aside0.mk H
      clear H
      go_wp2
      go_meet
      case rel => exact ⟨_, ((a2 == 104)), (by first | rfl | (simp; done) | (simp [*]; done)), H', ⟨by first | omega | exact Nat.le_refl _⟩, ⟨by repeat (first | (with_reducible first | exact HB.out | apply below_alloc | apply pw_below_drewN | apply below_drew1) | exact HB.out)⟩⟩
    · rw [if_neg c11] at H
      have c11b0 : (a2 == 104) = false := beq_eq_false_iff_ne.mpr c11
      have c11b1 : (a2 != 104) = true := bne_iff_ne.mpr c11
      (first | rw [c11b0] | (simp only [i64_w, i32_w]; rw [c11b0]) | skip)
      by_cases c12 : a2 = 108
      · rw [if_pos c12] at H
        have c12b0 : (a2 == 108) = true := beq_iff_eq.mpr c12
        have c12b1 : (a2 != 108) = false := bne_eq_false_iff_eq.mpr c12
        clear c12
        have H' := Aside0.mk H
        clear H
        go_wp2
        go_meet
        case rel => exact ⟨_, ((a2 == 108)), (by first | rfl | (simp; done) | (simp [*]; done)), H', ⟨by first | omega | exact Nat.le_refl _⟩, ⟨by repeat (first | (with_reducible first | exact HB.out | apply below_alloc | apply pw_below_drewN | apply below_drew1) | exact HB.out)⟩⟩
      · rw [if_neg c12] at H
        have c12b0 : (a2 == 108) = false := beq_eq_false_iff_ne.mpr c12
        have c12b1 : (a2 != 108) = true := bne_iff_ne.mpr c12
        by_cases c13 : a2 = 48
        · rw [if_pos c13] at H
          have c13b0 : (a2 == 48) = true := beq_iff_eq.mpr c13
          have c13b1 : (a2 != 48) = false := bne_eq_false_iff_eq.mpr c13
          clear c13
          have H' := Aside0.mk H
          clear H
          go_wp2
          go_meet
          case rel => exact ⟨_, ((a2 == 48)), (by first | rfl | (simp; done) | (simp [*]; done)), H', ⟨by first | omega | exact Nat.le_refl _⟩, ⟨by repeat (first | (with_reducible first | exact HB.out | apply below_alloc | apply pw_below_drewN | apply below_drew1) | exact HB.out)⟩⟩
        · rw [if_neg c13] at H
          have c13b0 : (a2 == 48) = false := beq_eq_false_iff_ne.mpr c13
          have c13b1 : (a2 != 48) = true := bne_iff_ne.mpr c13
          by_cases c14 : a2 = 94
          · rw [if_pos c14] at H
            have c14b0 : (a2 == 94) = true := beq_iff_eq.mpr c14
            have c14b1 : (a2 != 94) = false := bne_eq_false_iff_eq.mpr c14
            clear c14
            have H' := Aside0.mk H
            clear H
            go_wp2
            go_meet
            case rel => exact ⟨_, ((a2 == 94)), (by first | rfl | (simp; done) | (simp [*]; done)), H', ⟨by first | omega | exact Nat.le_refl _⟩, ⟨by repeat (first | (with_reducible first | exact HB.out | apply below_alloc | apply pw_below_drewN | apply below_drew1) | exact HB.out)⟩⟩
          · rw [if_neg c14] at H
            have c14b0 : (a2 == 94) = false := beq_eq_false_iff_ne.mpr c14
            have c14b1 : (a2 != 94) = true := bne_iff_ne.mpr c14
            have H' := Aside0.mk H
            clear H
            go_wp2
            go_meet
            case rel => exact ⟨_, ((a2 == 36)), (by first | rfl | (simp; done) | (simp [*]; done)), H', ⟨by first | omega | exact Nat.le_refl _⟩, ⟨by repeat (first | (with_reducible first | exact HB.out | apply below_alloc | apply pw_below_drewN | apply below_drew1) | exact HB.out)⟩⟩
  case rest =>
    clear HC9
    try clear c1
    try clear p2
    try clear c11
    try clear c11b0
    try clear c11b1
    try clear c12
    try clear c12b0
    try clear c12b1
    try clear c13
    try clear c13b0
    try clear c13b1
    try clear c14
    try clear c14b0
    try clear c14b1
    obtain ⟨kq, x33_8, rfl, HA, HJ8, HB⟩ := hcut
    cases kq with
    | zero => exact absurd HA.out (by simp [bureauref12_To.j0])
    | succ kj8 =>
      have H := HA.out
      clear HA
      simp only [bureauref12_To.j0] at H
      by_cases c15 : x33_8 = true
      · subst c15
        have H1 : ((bureauref12_sideways.f kj8 a0 t347 ji8 a2).bind fun bt348 => ((bureauref12_exclusive.f t347 bt348.1 bt348.2).bind fun bt350 => (some (bt350.1, bt350.2.1, bt350.2.2)))) = some (r1, r2, r3) := by rw [if_pos rfl] at H; exact H
        clear H
        have H := H1
        clear H1
        replace H := Option.bind_eq_some_iff.mp H
        obtain ⟨⟨t348, t349⟩, A160, H⟩ := H
        replace H : ((bureauref12_exclusive.f t347 t348 t349).bind fun bt350 => (some (bt350.1, bt350.2.1, bt350.2.2))) = some (r1, r2, r3) := H
        have A16 := Aside0.mk A160
        clear A160
        replace H := Option.bind_eq_some_iff.mp H
        obtain ⟨⟨t350, t351, t352⟩, A170, H⟩ := H
        replace H : (some (t350, t351, t352)) = some (r1, r2, r3) := H
        have A17 := Aside0.mk A170
        clear A170
        simp only [Option.some.injEq, Prod.mk.injEq] at H
        obtain ⟨rfl, rfl, rfl⟩ := H
        go_wp2_with (first | ((with_reducible refine gate_callee (f := 39) rfl ?_); refine goesL_ (some 44) rfl rfl Tryd.func39 (by kernel_rfl) rfl #[.string a0, .int .i64 t347, .int .i64 ji8, .int .i64 a2] rfl (by (try simp only [List.map_toArray, List.map_cons, List.map_nil]); first | done | (simp only [hji8]; rfl) | rfl | (simp only [List.length_drop, List.length_take]; rfl)) ?_; (with_reducible refine (bureauref12_sideways.calls kj8 a0 t347 ji8 a2 t348 t349 _ A16.out ?sideT).mono ?_); (case sideT => first | exact HTABS.out | exact HTABS.out.below (by repeat (first | (with_reducible first | exact HB.out | apply below_alloc | apply pw_below_drewN | apply below_drew1) | refine below_set ?_ (Aside0.out (by assumption)) | exact HB.out)) (Nat.le_refl _) | exact HTABS.out.below (Below.drew (Below.refl _ _)) (Nat.le_refl _)); rintro e w18 ⟨rfl, hb⟩; refine ⟨_, rfl, ?_⟩; have n0_ := Aside0.mk (below_step (by repeat (first | (with_reducible first | exact HB.out | apply below_alloc | apply pw_below_drewN | apply below_drew1) | exact HB.out)) hb); clear HB; have HB := n0_; clear n0_; (try clear hb); (try clear hb2); (try clear hk); (try clear hi)) | ((with_reducible refine gate_callee (f := 40) rfl ?_); refine goesL_ (some 50) rfl rfl Tryd.func40 (by kernel_rfl) rfl #[.int .i64 t347, .int .i64 t348, .bool t349] rfl (by (try simp only [List.map_toArray, List.map_cons, List.map_nil]); first | done | rfl | (simp only [List.length_drop, List.length_take]; rfl)) ?_; (with_reducible refine (bureauref12_exclusive.calls t347 t348 t349 t350 t351 t352 _ A17.out ?sideT).mono ?_); (case sideT => first | exact HTABS.out | exact HTABS.out.below (by repeat (first | (with_reducible first | exact HB.out | apply below_alloc | apply pw_below_drewN | apply below_drew1) | refine below_set ?_ (Aside0.out (by assumption)) | exact HB.out)) (Nat.le_refl _) | exact HTABS.out.below (Below.drew (Below.refl _ _)) (Nat.le_refl _)); rintro e w' ⟨rfl, ⟨nd, rfl⟩⟩; refine ⟨_, rfl, ?_⟩))
        go_ret3
        exact ⟨by first | rfl | (simp [errW_none, errW_some] <;> rfl) | (simp only [← hji7, ← hji8]; first | rfl | (simp [errW_none, errW_some] <;> rfl)) | (simp [*, errW_none, errW_some] <;> rfl), by repeat (first | (with_reducible first | exact HB.out | apply below_alloc | apply pw_below_drewN | apply below_drew1) | exact HB.out)⟩
      · replace c15 := Bool.eq_false_iff.mpr c15
        subst c15
        have H1 : (if a2 = 119 then (bureauref12_To.j1 kj8 a0 a2 a3 a4 t347 ji8 a2 (a2 == 119)) else (if a2 = 98 then (bureauref12_To.j1 kj8 a0 a2 a3 a4 t347 ji8 a2 (a2 == 98)) else (if a2 = 123 then (bureauref12_To.j1 kj8 a0 a2 a3 a4 t347 ji8 a2 (a2 == 123)) else (bureauref12_To.j1 kj8 a0 a2 a3 a4 t347 ji8 a2 (a2 == 125))))) = some (r1, r2, r3) := by rw [if_neg (show ¬ (false = true) by decide)] at H; exact H
        clear H
        have H := H1
        clear H1
        have HC19 := Aside0.mk H
        clear H
        go_upto_if 54 with (fail)
        go_cut [54] (fun v54 wc => ∃ (kq : Nat) (x54_18 : Bool), v54 = .bool x54_18 ∧ Aside0 (bureauref12_To.j1 kq a0 a2 a3 a4 t347 ji8 a2 x54_18 = some (r1, r2, r3)) ∧ Aside0 (kq ≤ kj8) ∧ Aside0 (Below w.heap.size w wc))
        case first =>
          have H := HC19.out
          clear HC19
          by_cases c20 : a2 = 119
          · rw [if_pos c20] at H
            have c20b0 : (a2 == 119) = true := beq_iff_eq.mpr c20
            have c20b1 : (a2 != 119) = false := bne_eq_false_iff_eq.mpr c20
            clear c20
            (first | rw [c20b0] | (simp only [i64_w, i32_w]; rw [c20b0]) | skip)
            have H' := Aside0.mk H
            clear H
            go_wp2
            go_meet
            case rel => exact ⟨_, ((a2 == 119)), (by first | rfl | (simp; done) | (simp [*]; done)), H', ⟨by have := HJ8.out; first | omega | exact Nat.le_refl _⟩, ⟨by repeat (first | (with_reducible first | exact HB.out | apply below_alloc | apply pw_below_drewN | apply below_drew1) | exact HB.out)⟩⟩
          · rw [if_neg c20] at H
            have c20b0 : (a2 == 119) = false := beq_eq_false_iff_ne.mpr c20
            have c20b1 : (a2 != 119) = true := bne_iff_ne.mpr c20
            (first | rw [c20b0] | (simp only [i64_w, i32_w]; rw [c20b0]) | skip)
            by_cases c21 : a2 = 98
            · rw [if_pos c21] at H
              have c21b0 : (a2 == 98) = true := beq_iff_eq.mpr c21
              have c21b1 : (a2 != 98) = false := bne_eq_false_iff_eq.mpr c21
              clear c21
              have H' := Aside0.mk H
              clear H
              go_wp2
              go_meet
              case rel => exact ⟨_, ((a2 == 98)), (by first | rfl | (simp; done) | (simp [*]; done)), H', ⟨by have := HJ8.out; first | omega | exact Nat.le_refl _⟩, ⟨by repeat (first | (with_reducible first | exact HB.out | apply below_alloc | apply pw_below_drewN | apply below_drew1) | exact HB.out)⟩⟩
            · rw [if_neg c21] at H
              have c21b0 : (a2 == 98) = false := beq_eq_false_iff_ne.mpr c21
              have c21b1 : (a2 != 98) = true := bne_iff_ne.mpr c21
              by_cases c22 : a2 = 123
              · rw [if_pos c22] at H
                have c22b0 : (a2 == 123) = true := beq_iff_eq.mpr c22
                have c22b1 : (a2 != 123) = false := bne_eq_false_iff_eq.mpr c22
                clear c22
                have H' := Aside0.mk H
                clear H
                go_wp2
                go_meet
                case rel => exact ⟨_, ((a2 == 123)), (by first | rfl | (simp; done) | (simp [*]; done)), H', ⟨by have := HJ8.out; first | omega | exact Nat.le_refl _⟩, ⟨by repeat (first | (with_reducible first | exact HB.out | apply below_alloc | apply pw_below_drewN | apply below_drew1) | exact HB.out)⟩⟩
              · rw [if_neg c22] at H
                have c22b0 : (a2 == 123) = false := beq_eq_false_iff_ne.mpr c22
                have c22b1 : (a2 != 123) = true := bne_iff_ne.mpr c22
                have H' := Aside0.mk H
                clear H
                go_wp2
                go_meet
                case rel => exact ⟨_, ((a2 == 125)), (by first | rfl | (simp; done) | (simp [*]; done)), H', ⟨by have := HJ8.out; first | omega | exact Nat.le_refl _⟩, ⟨by repeat (first | (with_reducible first | exact HB.out | apply below_alloc | apply pw_below_drewN | apply below_drew1) | exact HB.out)⟩⟩
        case rest =>
          clear HC19
          try clear c1
          try clear c2
          try clear p2
          try clear c3
          try clear c4
          try clear c11
          try clear c11b0
          try clear c11b1
          try clear c12
          try clear c12b0
          try clear c12b1
          try clear c13
          try clear c13b0
          try clear c13b1
          try clear c14
          try clear c14b0
          try clear c14b1
          try clear c15
          try clear c20
          try clear c20b0
          try clear c20b1
          try clear c21
          try clear c21b0
          try clear c21b1
          try clear c22
          try clear c22b0
          try clear c22b1
          try clear p2
          obtain ⟨kq, x54_18, rfl, HA, HJ18, HB⟩ := hcut
          cases kq with
          | zero => exact absurd HA.out (by simp [bureauref12_To.j1])
          | succ kj18 =>
            have H := HA.out
            clear HA
            simp only [bureauref12_To.j1] at H
            by_cases c23 : x54_18 = true
            · subst c23
              have H1 : ((bureauref12_words.f kj18 a0 t347 ji8 a2).bind fun t353 => ((bureauref12_exclusive.f t347 t353 true).bind fun bt354 => (some (bt354.1, bt354.2.1, bt354.2.2)))) = some (r1, r2, r3) := by rw [if_pos rfl] at H; exact H
              clear H
              have H := H1
              clear H1
              replace H := Option.bind_eq_some_iff.mp H
              obtain ⟨t353, A240, H⟩ := H
              replace H : ((bureauref12_exclusive.f t347 t353 true).bind fun bt354 => (some (bt354.1, bt354.2.1, bt354.2.2))) = some (r1, r2, r3) := H
              have A24 := Aside0.mk A240
              clear A240
              replace H := Option.bind_eq_some_iff.mp H
              obtain ⟨⟨t354, t355, t356⟩, A250, H⟩ := H
              replace H : (some (t354, t355, t356)) = some (r1, r2, r3) := H
              have A25 := Aside0.mk A250
              clear A250
              simp only [Option.some.injEq, Prod.mk.injEq] at H
              obtain ⟨rfl, rfl, rfl⟩ := H
              go_wp2_with (first | ((with_reducible refine gate_callee (f := 41) rfl ?_); refine goesL_ (some 64) rfl rfl Tryd.func41 (by kernel_rfl) rfl #[.string a0, .int .i64 t347, .int .i64 ji8, .int .i64 a2] rfl (by (try simp only [List.map_toArray, List.map_cons, List.map_nil]); first | done | (simp only [hji8]; rfl) | rfl | (simp only [List.length_drop, List.length_take]; rfl)) ?_; (with_reducible refine (bureauref12_words.calls kj18 a0 t347 ji8 a2 t353 _ A24.out ?sideT).mono ?_); (case sideT => first | exact HTABS.out | exact HTABS.out.below (by repeat (first | (with_reducible first | exact HB.out | apply below_alloc | apply pw_below_drewN | apply below_drew1) | refine below_set ?_ (Aside0.out (by assumption)) | exact HB.out)) (Nat.le_refl _) | exact HTABS.out.below (Below.drew (Below.refl _ _)) (Nat.le_refl _)); rintro e w26 ⟨rfl, hb⟩; refine ⟨_, rfl, ?_⟩; have n0_ := Aside0.mk (below_step (by repeat (first | (with_reducible first | exact HB.out | apply below_alloc | apply pw_below_drewN | apply below_drew1) | exact HB.out)) hb); clear HB; have HB := n0_; clear n0_; (try clear hb); (try clear hb2); (try clear hk); (try clear hi)) | ((with_reducible refine gate_callee (f := 40) rfl ?_); refine goesL_ (some 65) rfl rfl Tryd.func40 (by kernel_rfl) rfl #[.int .i64 t347, .int .i64 t353, .bool true] rfl (by (try simp only [List.map_toArray, List.map_cons, List.map_nil]); first | done | rfl | (simp only [List.length_drop, List.length_take]; rfl)) ?_; (with_reducible refine (bureauref12_exclusive.calls t347 t353 true t354 t355 t356 _ A25.out ?sideT).mono ?_); (case sideT => first | exact HTABS.out | exact HTABS.out.below (by repeat (first | (with_reducible first | exact HB.out | apply below_alloc | apply pw_below_drewN | apply below_drew1) | refine below_set ?_ (Aside0.out (by assumption)) | exact HB.out)) (Nat.le_refl _) | exact HTABS.out.below (Below.drew (Below.refl _ _)) (Nat.le_refl _)); rintro e w' ⟨rfl, ⟨nd, rfl⟩⟩; refine ⟨_, rfl, ?_⟩))
              go_ret3
              exact ⟨by first | rfl | (simp [errW_none, errW_some] <;> rfl) | (simp only [← hji7, ← hji8]; first | rfl | (simp [errW_none, errW_some] <;> rfl)) | (simp [*, errW_none, errW_some] <;> rfl), by repeat (first | (with_reducible first | exact HB.out | apply below_alloc | apply pw_below_drewN | apply below_drew1) | exact HB.out)⟩
            · replace c23 := Bool.eq_false_iff.mpr c23
              subst c23
              have H1 : (if a2 = 101 then ((bureauref12_Ends.f kj18 a0).bind fun t357 => ((bureauref12_behind.f kj18 t357 t347 ji8).bind fun bt360 => ((bureauref02_Prev.f kj18 a0 (a0.size : Int)).bind fun t362 => ((bureauref12_or.f bt360.1 bt360.2 t362).bind fun t363 => ((bureauref12_inclusive.f t363 (decide (t363 > t347))).bind fun bt364 => (some (bt364.1, bt364.2.1, bt364.2.2))))))) else (if a2 = 102 then (bureauref12_To.j2 kj18 a0 a2 a3 a4 t347 ji8 a2 (a2 == 102)) else (bureauref12_To.j2 kj18 a0 a2 a3 a4 t347 ji8 a2 (a2 == 116)))) = some (r1, r2, r3) := by rw [if_neg (show ¬ (false = true) by decide)] at H; exact H
              clear H
              have H := H1
              clear H1
              by_cases c27 : a2 = 101
              · rw [if_pos c27] at H
                have c27b0 : (a2 == 101) = true := beq_iff_eq.mpr c27
                have c27b1 : (a2 != 101) = false := bne_eq_false_iff_eq.mpr c27
                clear c27
                replace H := Option.bind_eq_some_iff.mp H
                obtain ⟨t357, A280, H⟩ := H
                replace H : ((bureauref12_behind.f kj18 t357 t347 ji8).bind fun bt360 => ((bureauref02_Prev.f kj18 a0 (a0.size : Int)).bind fun t362 => ((bureauref12_or.f bt360.1 bt360.2 t362).bind fun t363 => ((bureauref12_inclusive.f t363 (decide (t363 > t347))).bind fun bt364 => (some (bt364.1, bt364.2.1, bt364.2.2)))))) = some (r1, r2, r3) := H
                have A28 := Aside0.mk A280
                clear A280
                replace H := Option.bind_eq_some_iff.mp H
                obtain ⟨⟨t360, t361⟩, A290, H⟩ := H
                replace H : ((bureauref02_Prev.f kj18 a0 (a0.size : Int)).bind fun t362 => ((bureauref12_or.f t360 t361 t362).bind fun t363 => ((bureauref12_inclusive.f t363 (decide (t363 > t347))).bind fun bt364 => (some (bt364.1, bt364.2.1, bt364.2.2))))) = some (r1, r2, r3) := H
                have A29 := Aside0.mk A290
                clear A290
                replace H := Option.bind_eq_some_iff.mp H
                obtain ⟨t362, A300, H⟩ := H
                replace H : ((bureauref12_or.f t360 t361 t362).bind fun t363 => ((bureauref12_inclusive.f t363 (decide (t363 > t347))).bind fun bt364 => (some (bt364.1, bt364.2.1, bt364.2.2)))) = some (r1, r2, r3) := H
                have A30 := Aside0.mk A300
                clear A300
                replace H := Option.bind_eq_some_iff.mp H
                obtain ⟨t363, A310, H⟩ := H
                replace H : ((bureauref12_inclusive.f t363 (decide (t363 > t347))).bind fun bt364 => (some (bt364.1, bt364.2.1, bt364.2.2))) = some (r1, r2, r3) := H
                have A31 := Aside0.mk A310
                clear A310
                replace H := Option.bind_eq_some_iff.mp H
                obtain ⟨⟨t364, t365, t366⟩, A320, H⟩ := H
                replace H : (some (t364, t365, t366)) = some (r1, r2, r3) := H
                have A32 := Aside0.mk A320
                clear A320
                simp only [Option.some.injEq, Prod.mk.injEq] at H
                obtain ⟨rfl, rfl, rfl⟩ := H
                go_wp2_with (first | ((with_reducible refine gate_callee (f := 43) rfl ?_); refine goesL_ (some 73) rfl rfl Tryd.func43 (by kernel_rfl) rfl #[.string a0] rfl (by (try simp only [List.map_toArray, List.map_cons, List.map_nil]); first | done | rfl | (simp only [List.length_drop, List.length_take]; rfl)) ?_; (with_reducible refine (bureauref12_Ends.calls kj18 a0 t357 _ A28.out ?sideT).mono ?_); (case sideT => first | exact HTABS.out | exact HTABS.out.below (by repeat (first | (with_reducible first | exact HB.out | apply below_alloc | apply pw_below_drewN | apply below_drew1) | refine below_set ?_ (Aside0.out (by assumption)) | exact HB.out)) (Nat.le_refl _) | exact HTABS.out.below (Below.drew (Below.refl _ _)) (Nat.le_refl _)); rintro e w33 ⟨v358, rfl, ho0, hb⟩; refine ⟨_, rfl, ?_⟩; have n0_ := Aside0.mk (Kd.R_lower ho0 (below_size (by repeat (first | (with_reducible first | exact HB.out | apply below_alloc | apply pw_below_drewN | apply below_drew1) | exact HB.out)))); have n1_ := Aside0.mk (below_step (by repeat (first | (with_reducible first | exact HB.out | apply below_alloc | apply pw_below_drewN | apply below_drew1) | exact HB.out)) hb); clear HB; have HO359 := n0_; have HB := n1_; clear n0_ n1_; (try clear hb); (try clear hb2); (try clear hk); (try clear hi); (try clear ho0); obtain ⟨Ao34, co34, eo34⟩ := Kd.R_slice HO359.out; subst eo34) | ((with_reducible refine gate_callee (f := 42) rfl ?_); refine goesL_ (some 76) rfl rfl Tryd.func42 (by kernel_rfl) rfl #[.slice Ao34 t357.length co34, .int .i64 t347, .int .i64 ji8] rfl (by (try simp only [List.map_toArray, List.map_cons, List.map_nil]); first | done | (simp only [hji8]; rfl) | rfl | (simp only [List.length_drop, List.length_take]; rfl)) ?_; (with_reducible refine (bureauref12_behind.calls kj18 _ _ t357 t347 ji8 t360 t361 _ ?side1 ?side2 A29.out ?sideT).mono ?_); (case sideT => first | exact HTABS.out | exact HTABS.out.below (by repeat (first | (with_reducible first | exact HB.out | apply below_alloc | apply pw_below_drewN | apply below_drew1) | refine below_set ?_ (Aside0.out (by assumption)) | exact HB.out)) (Nat.le_refl _) | exact HTABS.out.below (Below.drew (Below.refl _ _)) (Nat.le_refl _)); (case side1 => repeat (first | exact (Kd.R_reads' HO359.out).2.2 | (with_reducible refine Kd.C_alloc ?_ _) | (with_reducible refine Kd.C_drewN ?_ _) | (with_reducible refine Kd.C_drew ?_))); (case side2 => exact (Kd.R_reads' HO359.out).2.1); rintro e w' ⟨rfl, ⟨nd, rfl⟩⟩; refine ⟨_, rfl, ?_⟩) | ((with_reducible refine gate_callee (f := 45) rfl ?_); refine goesL_ (some 84) rfl rfl Tryd.func45 (by kernel_rfl) rfl #[.string a0, .int .i64 (a0.size : Int)] rfl (by (try simp only [List.map_toArray, List.map_cons, List.map_nil]); first | done | rfl | (simp only [List.length_drop, List.length_take]; rfl)) ?_; (with_reducible refine (bureauref02_Prev.calls kj18 a0 (a0.size : Int) t362 _ A30.out ?sideT).mono ?_); (case sideT => first | exact HTABS.out | exact HTABS.out.below (by repeat (first | (with_reducible first | exact HB.out | apply below_alloc | apply pw_below_drewN | apply below_drew1) | refine below_set ?_ (Aside0.out (by assumption)) | exact HB.out)) (Nat.le_refl _) | exact HTABS.out.below (Below.drew (Below.refl _ _)) (Nat.le_refl _)); rintro e w35 ⟨rfl, hb⟩; refine ⟨_, rfl, ?_⟩; have n0_ := Aside0.mk (Kd.R_below (by (with_reducible repeat (first | apply Kd.R_alloc | apply Kd.R_drewN | apply Kd.R_drew)); exact HO359.out) hb); have n1_ := Aside0.mk (below_step (by repeat (first | (with_reducible first | exact HB.out | apply below_alloc | apply pw_below_drewN | apply below_drew1) | exact HB.out)) hb); clear HO359; clear HB; have HO359 := n0_; have HB := n1_; clear n0_ n1_; (try clear hb); (try clear hb2); (try clear hk); (try clear hi)) | ((with_reducible refine gate_callee (f := 44) rfl ?_); refine goesL_ (some 85) rfl rfl Tryd.func44 (by kernel_rfl) rfl #[.int .i64 t360, .bool t361, .int .i64 t362] rfl (by (try simp only [List.map_toArray, List.map_cons, List.map_nil]); first | done | rfl | (simp only [List.length_drop, List.length_take]; rfl)) ?_; (with_reducible refine (bureauref12_or.calls t360 t361 t362 t363 _ A31.out ?sideT).mono ?_); (case sideT => first | exact HTABS.out | exact HTABS.out.below (by repeat (first | (with_reducible first | exact HB.out | apply below_alloc | apply pw_below_drewN | apply below_drew1) | refine below_set ?_ (Aside0.out (by assumption)) | exact HB.out)) (Nat.le_refl _) | exact HTABS.out.below (Below.drew (Below.refl _ _)) (Nat.le_refl _)); rintro e w' ⟨rfl, ⟨nd, rfl⟩⟩; refine ⟨_, rfl, ?_⟩) | ((with_reducible refine gate_callee (f := 46) rfl ?_); refine goesL_ (some 90) rfl rfl Tryd.func46 (by kernel_rfl) rfl #[.int .i64 t363, .bool (decide (t363 > t347))] rfl (by (try simp only [List.map_toArray, List.map_cons, List.map_nil]); first | done | rfl | (simp only [List.length_drop, List.length_take]; rfl)) ?_; (with_reducible refine (bureauref12_inclusive.calls t363 (decide (t363 > t347)) t364 t365 t366 _ A32.out ?sideT).mono ?_); (case sideT => first | exact HTABS.out | exact HTABS.out.below (by repeat (first | (with_reducible first | exact HB.out | apply below_alloc | apply pw_below_drewN | apply below_drew1) | refine below_set ?_ (Aside0.out (by assumption)) | exact HB.out)) (Nat.le_refl _) | exact HTABS.out.below (Below.drew (Below.refl _ _)) (Nat.le_refl _)); rintro e w' ⟨rfl, ⟨nd, rfl⟩⟩; refine ⟨_, rfl, ?_⟩))
                go_ret3
                exact ⟨by first | rfl | (simp [errW_none, errW_some] <;> rfl) | (simp only [← hji7, ← hji8]; first | rfl | (simp [errW_none, errW_some] <;> rfl)) | (simp [*, errW_none, errW_some] <;> rfl), by repeat (first | (with_reducible first | exact HB.out | apply below_alloc | apply pw_below_drewN | apply below_drew1) | exact HB.out)⟩
              · rw [if_neg c27] at H
                have c27b0 : (a2 == 101) = false := beq_eq_false_iff_ne.mpr c27
                have c27b1 : (a2 != 101) = true := bne_iff_ne.mpr c27
                have HC36 := Aside0.mk H
                clear H
                go_upto_if 94 with (fail)
                go_cut [94] (fun v94 wc => ∃ (kq : Nat) (x94_35 : Bool), v94 = .bool x94_35 ∧ Aside0 (bureauref12_To.j2 kq a0 a2 a3 a4 t347 ji8 a2 x94_35 = some (r1, r2, r3)) ∧ Aside0 (kq ≤ kj18) ∧ Aside0 (Below w.heap.size w wc))
                case first =>
                  have H := HC36.out
                  clear HC36
                  by_cases c37 : a2 = 102
                  · rw [if_pos c37] at H
                    have c37b0 : (a2 == 102) = true := beq_iff_eq.mpr c37
                    have c37b1 : (a2 != 102) = false := bne_eq_false_iff_eq.mpr c37
                    clear c37
                    (first | rw [c37b0] | (simp only [i64_w, i32_w]; rw [c37b0]) | skip)
                    have H' := Aside0.mk H
                    clear H
                    go_wp2
                    go_meet
                    case rel => exact ⟨_, ((a2 == 102)), (by first | rfl | (simp; done) | (simp [*]; done)), H', ⟨by have := HJ8.out; have := HJ18.out; first | omega | exact Nat.le_refl _⟩, ⟨by repeat (first | (with_reducible first | exact HB.out | apply below_alloc | apply pw_below_drewN | apply below_drew1) | exact HB.out)⟩⟩
                  · rw [if_neg c37] at H
                    have c37b0 : (a2 == 102) = false := beq_eq_false_iff_ne.mpr c37
                    have c37b1 : (a2 != 102) = true := bne_iff_ne.mpr c37
                    (first | rw [c37b0] | (simp only [i64_w, i32_w]; rw [c37b0]) | skip)
                    have H' := Aside0.mk H
                    clear H
                    go_wp2
                    go_meet
                    case rel => exact ⟨_, ((a2 == 116)), (by first | rfl | (simp; done) | (simp [*]; done)), H', ⟨by have := HJ8.out; have := HJ18.out; first | omega | exact Nat.le_refl _⟩, ⟨by repeat (first | (with_reducible first | exact HB.out | apply below_alloc | apply pw_below_drewN | apply below_drew1) | exact HB.out)⟩⟩
                case rest =>
                  clear HC36
                  try clear c1
                  try clear c2
                  try clear p2
                  try clear c3
                  try clear c4
                  try clear c11
                  try clear c11b0
                  try clear c11b1
                  try clear c12
                  try clear c12b0
                  try clear c12b1
                  try clear c13
                  try clear c13b0
                  try clear c13b1
                  try clear c14
                  try clear c14b0
                  try clear c14b1
                  try clear c15
                  try clear c20
                  try clear c20b0
                  try clear c20b1
                  try clear c21
                  try clear c21b0
                  try clear c21b1
                  try clear c22
                  try clear c22b0
                  try clear c22b1
                  try clear c23
                  try clear c27
                  try clear c27b0
                  try clear c27b1
                  try clear c37
                  try clear c37b0
                  try clear c37b1
                  try clear p2
                  obtain ⟨kq, x94_35, rfl, HA, HJ35, HB⟩ := hcut
                  cases kq with
                  | zero => exact absurd HA.out (by simp [bureauref12_To.j2])
                  | succ kj35 =>
                    have H := HA.out
                    clear HA
                    simp only [bureauref12_To.j2] at H
                    by_cases c38 : x94_35 = true
                    · subst c38
                      have H1 : ((bureauref12_finds.f kj35 a0 t347 ji8 a2 a3).bind fun bt367 => ((bureauref12_inclusive.f bt367.1 bt367.2).bind fun bt369 => (some (bt369.1, bt369.2.1, bt369.2.2)))) = some (r1, r2, r3) := by rw [if_pos rfl] at H; exact H
                      clear H
                      have H := H1
                      clear H1
                      replace H := Option.bind_eq_some_iff.mp H
                      obtain ⟨⟨t367, t368⟩, A390, H⟩ := H
                      replace H : ((bureauref12_inclusive.f t367 t368).bind fun bt369 => (some (bt369.1, bt369.2.1, bt369.2.2))) = some (r1, r2, r3) := H
                      have A39 := Aside0.mk A390
                      clear A390
                      replace H := Option.bind_eq_some_iff.mp H
                      obtain ⟨⟨t369, t370, t371⟩, A400, H⟩ := H
                      replace H : (some (t369, t370, t371)) = some (r1, r2, r3) := H
                      have A40 := Aside0.mk A400
                      clear A400
                      simp only [Option.some.injEq, Prod.mk.injEq] at H
                      obtain ⟨rfl, rfl, rfl⟩ := H
                      go_wp2_with (first | ((with_reducible refine gate_callee (f := 47) rfl ?_); refine goesL_ (some 103) rfl rfl Tryd.func47 (by kernel_rfl) rfl #[.string a0, .int .i64 t347, .int .i64 ji8, .int .i64 a2, .int .i64 a3] rfl (by (try simp only [List.map_toArray, List.map_cons, List.map_nil]); first | done | (simp only [hji8]; rfl) | rfl | (simp only [List.length_drop, List.length_take]; rfl)) ?_; (with_reducible refine (bureauref12_finds.calls kj35 a0 t347 ji8 a2 a3 t367 t368 _ A39.out ?sideT).mono ?_); (case sideT => first | exact HTABS.out | exact HTABS.out.below (by repeat (first | (with_reducible first | exact HB.out | apply below_alloc | apply pw_below_drewN | apply below_drew1) | refine below_set ?_ (Aside0.out (by assumption)) | exact HB.out)) (Nat.le_refl _) | exact HTABS.out.below (Below.drew (Below.refl _ _)) (Nat.le_refl _)); rintro e w41 ⟨rfl, hb⟩; refine ⟨_, rfl, ?_⟩; have n0_ := Aside0.mk (below_step (by repeat (first | (with_reducible first | exact HB.out | apply below_alloc | apply pw_below_drewN | apply below_drew1) | exact HB.out)) hb); clear HB; have HB := n0_; clear n0_; (try clear hb); (try clear hb2); (try clear hk); (try clear hi)) | ((with_reducible refine gate_callee (f := 46) rfl ?_); refine goesL_ (some 108) rfl rfl Tryd.func46 (by kernel_rfl) rfl #[.int .i64 t367, .bool t368] rfl (by (try simp only [List.map_toArray, List.map_cons, List.map_nil]); first | done | rfl | (simp only [List.length_drop, List.length_take]; rfl)) ?_; (with_reducible refine (bureauref12_inclusive.calls t367 t368 t369 t370 t371 _ A40.out ?sideT).mono ?_); (case sideT => first | exact HTABS.out | exact HTABS.out.below (by repeat (first | (with_reducible first | exact HB.out | apply below_alloc | apply pw_below_drewN | apply below_drew1) | refine below_set ?_ (Aside0.out (by assumption)) | exact HB.out)) (Nat.le_refl _) | exact HTABS.out.below (Below.drew (Below.refl _ _)) (Nat.le_refl _)); rintro e w' ⟨rfl, ⟨nd, rfl⟩⟩; refine ⟨_, rfl, ?_⟩))
                      go_ret3
                      exact ⟨by first | rfl | (simp [errW_none, errW_some] <;> rfl) | (simp only [← hji7, ← hji8]; first | rfl | (simp [errW_none, errW_some] <;> rfl)) | (simp [*, errW_none, errW_some] <;> rfl), by repeat (first | (with_reducible first | exact HB.out | apply below_alloc | apply pw_below_drewN | apply below_drew1) | exact HB.out)⟩
                    · replace c38 := Bool.eq_false_iff.mpr c38
                      subst c38
                      have H1 : (if a2 = 70 then (bureauref12_To.j3 kj35 a0 a2 a3 a4 t347 ji8 a2 (a2 == 70)) else (bureauref12_To.j3 kj35 a0 a2 a3 a4 t347 ji8 a2 (a2 == 84))) = some (r1, r2, r3) := by rw [if_neg (show ¬ (false = true) by decide)] at H; exact H
                      clear H
                      have H := H1
                      clear H1
                      have HC42 := Aside0.mk H
                      clear H
                      go_upto_if 112 with (fail)
                      go_cut [112] (fun v112 wc => ∃ (kq : Nat) (x112_41 : Bool), v112 = .bool x112_41 ∧ Aside0 (bureauref12_To.j3 kq a0 a2 a3 a4 t347 ji8 a2 x112_41 = some (r1, r2, r3)) ∧ Aside0 (kq ≤ kj35) ∧ Aside0 (Below w.heap.size w wc))
                      case first =>
                        have H := HC42.out
                        clear HC42
                        by_cases c43 : a2 = 70
                        · rw [if_pos c43] at H
                          have c43b0 : (a2 == 70) = true := beq_iff_eq.mpr c43
                          have c43b1 : (a2 != 70) = false := bne_eq_false_iff_eq.mpr c43
                          clear c43
                          (first | rw [c43b0] | (simp only [i64_w, i32_w]; rw [c43b0]) | skip)
                          have H' := Aside0.mk H
                          clear H
                          go_wp2
                          go_meet
                          case rel => exact ⟨_, ((a2 == 70)), (by first | rfl | (simp; done) | (simp [*]; done)), H', ⟨by have := HJ8.out; have := HJ18.out; have := HJ35.out; first | omega | exact Nat.le_refl _⟩, ⟨by repeat (first | (with_reducible first | exact HB.out | apply below_alloc | apply pw_below_drewN | apply below_drew1) | exact HB.out)⟩⟩
                        · rw [if_neg c43] at H
                          have c43b0 : (a2 == 70) = false := beq_eq_false_iff_ne.mpr c43
                          have c43b1 : (a2 != 70) = true := bne_iff_ne.mpr c43
                          (first | rw [c43b0] | (simp only [i64_w, i32_w]; rw [c43b0]) | skip)
                          have H' := Aside0.mk H
                          clear H
                          go_wp2
                          go_meet
                          case rel => exact ⟨_, ((a2 == 84)), (by first | rfl | (simp; done) | (simp [*]; done)), H', ⟨by have := HJ8.out; have := HJ18.out; have := HJ35.out; first | omega | exact Nat.le_refl _⟩, ⟨by repeat (first | (with_reducible first | exact HB.out | apply below_alloc | apply pw_below_drewN | apply below_drew1) | exact HB.out)⟩⟩
                      case rest =>
                        clear HC42
                        try clear c1
                        try clear c2
                        try clear p2
                        try clear c3
                        try clear c4
                        try clear c11
                        try clear c11b0
                        try clear c11b1
                        try clear c12
                        try clear c12b0
                        try clear c12b1
                        try clear c13
                        try clear c13b0
                        try clear c13b1
                        try clear c14
                        try clear c14b0
                        try clear c14b1
                        try clear c15
                        try clear c20
                        try clear c20b0
                        try clear c20b1
                        try clear c21
                        try clear c21b0
                        try clear c21b1
                        try clear c22
                        try clear c22b0
                        try clear c22b1
                        try clear c23
                        try clear c27
                        try clear c27b0
                        try clear c27b1
                        try clear c37
                        try clear c37b0
                        try clear c37b1
                        try clear c38
                        try clear c39
                        try clear c40
                        try clear c41
                        try clear c42
                        try clear c43
                        try clear c43b0
                        try clear c43b1
                        try clear p2
                        obtain ⟨kq, x112_41, rfl, HA, HJ41, HB⟩ := hcut
                        cases kq with
                        | zero => exact absurd HA.out (by simp [bureauref12_To.j3])
                        | succ kj41 =>
                          have H := HA.out
                          clear HA
                          simp only [bureauref12_To.j3] at H
                          by_cases c44 : x112_41 = true
                          · subst c44
                            have H1 : ((bureauref12_finds.f kj41 a0 t347 ji8 a2 a3).bind fun bt372 => ((bureauref12_exclusive.f t347 bt372.1 bt372.2).bind fun bt374 => (some (bt374.1, bt374.2.1, bt374.2.2)))) = some (r1, r2, r3) := by rw [if_pos rfl] at H; exact H
                            clear H
                            have H := H1
                            clear H1
                            replace H := Option.bind_eq_some_iff.mp H
                            obtain ⟨⟨t372, t373⟩, A450, H⟩ := H
                            replace H : ((bureauref12_exclusive.f t347 t372 t373).bind fun bt374 => (some (bt374.1, bt374.2.1, bt374.2.2))) = some (r1, r2, r3) := H
                            have A45 := Aside0.mk A450
                            clear A450
                            replace H := Option.bind_eq_some_iff.mp H
                            obtain ⟨⟨t374, t375, t376⟩, A460, H⟩ := H
                            replace H : (some (t374, t375, t376)) = some (r1, r2, r3) := H
                            have A46 := Aside0.mk A460
                            clear A460
                            simp only [Option.some.injEq, Prod.mk.injEq] at H
                            obtain ⟨rfl, rfl, rfl⟩ := H
                            go_wp2_with (first | ((with_reducible refine gate_callee (f := 47) rfl ?_); refine goesL_ (some 121) rfl rfl Tryd.func47 (by kernel_rfl) rfl #[.string a0, .int .i64 t347, .int .i64 ji8, .int .i64 a2, .int .i64 a3] rfl (by (try simp only [List.map_toArray, List.map_cons, List.map_nil]); first | done | (simp only [hji8]; rfl) | rfl | (simp only [List.length_drop, List.length_take]; rfl)) ?_; (with_reducible refine (bureauref12_finds.calls kj41 a0 t347 ji8 a2 a3 t372 t373 _ A45.out ?sideT).mono ?_); (case sideT => first | exact HTABS.out | exact HTABS.out.below (by repeat (first | (with_reducible first | exact HB.out | apply below_alloc | apply pw_below_drewN | apply below_drew1) | refine below_set ?_ (Aside0.out (by assumption)) | exact HB.out)) (Nat.le_refl _) | exact HTABS.out.below (Below.drew (Below.refl _ _)) (Nat.le_refl _)); rintro e w47 ⟨rfl, hb⟩; refine ⟨_, rfl, ?_⟩; have n0_ := Aside0.mk (below_step (by repeat (first | (with_reducible first | exact HB.out | apply below_alloc | apply pw_below_drewN | apply below_drew1) | exact HB.out)) hb); clear HB; have HB := n0_; clear n0_; (try clear hb); (try clear hb2); (try clear hk); (try clear hi)) | ((with_reducible refine gate_callee (f := 40) rfl ?_); refine goesL_ (some 127) rfl rfl Tryd.func40 (by kernel_rfl) rfl #[.int .i64 t347, .int .i64 t372, .bool t373] rfl (by (try simp only [List.map_toArray, List.map_cons, List.map_nil]); first | done | rfl | (simp only [List.length_drop, List.length_take]; rfl)) ?_; (with_reducible refine (bureauref12_exclusive.calls t347 t372 t373 t374 t375 t376 _ A46.out ?sideT).mono ?_); (case sideT => first | exact HTABS.out | exact HTABS.out.below (by repeat (first | (with_reducible first | exact HB.out | apply below_alloc | apply pw_below_drewN | apply below_drew1) | refine below_set ?_ (Aside0.out (by assumption)) | exact HB.out)) (Nat.le_refl _) | exact HTABS.out.below (Below.drew (Below.refl _ _)) (Nat.le_refl _)); rintro e w' ⟨rfl, ⟨nd, rfl⟩⟩; refine ⟨_, rfl, ?_⟩))
                            go_ret3
                            exact ⟨by first | rfl | (simp [errW_none, errW_some] <;> rfl) | (simp only [← hji7, ← hji8]; first | rfl | (simp [errW_none, errW_some] <;> rfl)) | (simp [*, errW_none, errW_some] <;> rfl), by repeat (first | (with_reducible first | exact HB.out | apply below_alloc | apply pw_below_drewN | apply below_drew1) | exact HB.out)⟩
                          · replace c44 := Bool.eq_false_iff.mpr c44
                            subst c44
                            have H1 : (if a2 = 106 then (bureauref12_To.j4 kj41 a0 a2 a4 t347 ji8 (a2 == 106)) else (if a2 = 107 then (bureauref12_To.j4 kj41 a0 a2 a4 t347 ji8 (a2 == 107)) else (if a2 = 71 then (bureauref12_To.j4 kj41 a0 a2 a4 t347 ji8 (a2 == 71)) else (bureauref12_To.j4 kj41 a0 a2 a4 t347 ji8 (a2 == 103))))) = some (r1, r2, r3) := by rw [if_neg (show ¬ (false = true) by decide)] at H; exact H
                            clear H
                            have H := H1
                            clear H1
                            have HC48 := Aside0.mk H
                            clear H
                            go_upto_if 131 with (fail)
                            go_cut [131] (fun v131 wc => ∃ (kq : Nat) (x131_47 : Bool), v131 = .bool x131_47 ∧ Aside0 (bureauref12_To.j4 kq a0 a2 a4 t347 ji8 x131_47 = some (r1, r2, r3)) ∧ Aside0 (kq ≤ kj41) ∧ Aside0 (Below w.heap.size w wc))
                            case first =>
                              have H := HC48.out
                              clear HC48
                              by_cases c49 : a2 = 106
                              · rw [if_pos c49] at H
                                have c49b0 : (a2 == 106) = true := beq_iff_eq.mpr c49
                                have c49b1 : (a2 != 106) = false := bne_eq_false_iff_eq.mpr c49
                                clear c49
                                (first | rw [c49b0] | (simp only [i64_w, i32_w]; rw [c49b0]) | skip)
                                have H' := Aside0.mk H
                                clear H
                                go_wp2
                                go_meet
                                case rel => exact ⟨_, ((a2 == 106)), (by first | rfl | (simp; done) | (simp [*]; done)), H', ⟨by have := HJ8.out; have := HJ18.out; have := HJ35.out; have := HJ41.out; first | omega | exact Nat.le_refl _⟩, ⟨by repeat (first | (with_reducible first | exact HB.out | apply below_alloc | apply pw_below_drewN | apply below_drew1) | exact HB.out)⟩⟩
                              · rw [if_neg c49] at H
                                have c49b0 : (a2 == 106) = false := beq_eq_false_iff_ne.mpr c49
                                have c49b1 : (a2 != 106) = true := bne_iff_ne.mpr c49
                                (first | rw [c49b0] | (simp only [i64_w, i32_w]; rw [c49b0]) | skip)
                                by_cases c50 : a2 = 107
                                · rw [if_pos c50] at H
                                  have c50b0 : (a2 == 107) = true := beq_iff_eq.mpr c50
                                  have c50b1 : (a2 != 107) = false := bne_eq_false_iff_eq.mpr c50
                                  clear c50
                                  have H' := Aside0.mk H
                                  clear H
                                  go_wp2
                                  go_meet
                                  case rel => exact ⟨_, ((a2 == 107)), (by first | rfl | (simp; done) | (simp [*]; done)), H', ⟨by have := HJ8.out; have := HJ18.out; have := HJ35.out; have := HJ41.out; first | omega | exact Nat.le_refl _⟩, ⟨by repeat (first | (with_reducible first | exact HB.out | apply below_alloc | apply pw_below_drewN | apply below_drew1) | exact HB.out)⟩⟩
                                · rw [if_neg c50] at H
                                  have c50b0 : (a2 == 107) = false := beq_eq_false_iff_ne.mpr c50
                                  have c50b1 : (a2 != 107) = true := bne_iff_ne.mpr c50
                                  by_cases c51 : a2 = 71
                                  · rw [if_pos c51] at H
                                    have c51b0 : (a2 == 71) = true := beq_iff_eq.mpr c51
                                    have c51b1 : (a2 != 71) = false := bne_eq_false_iff_eq.mpr c51
                                    clear c51
                                    have H' := Aside0.mk H
                                    clear H
                                    go_wp2
                                    go_meet
                                    case rel => exact ⟨_, ((a2 == 71)), (by first | rfl | (simp; done) | (simp [*]; done)), H', ⟨by have := HJ8.out; have := HJ18.out; have := HJ35.out; have := HJ41.out; first | omega | exact Nat.le_refl _⟩, ⟨by repeat (first | (with_reducible first | exact HB.out | apply below_alloc | apply pw_below_drewN | apply below_drew1) | exact HB.out)⟩⟩
                                  · rw [if_neg c51] at H
                                    have c51b0 : (a2 == 71) = false := beq_eq_false_iff_ne.mpr c51
                                    have c51b1 : (a2 != 71) = true := bne_iff_ne.mpr c51
                                    have H' := Aside0.mk H
                                    clear H
                                    go_wp2
                                    go_meet
                                    case rel => exact ⟨_, ((a2 == 103)), (by first | rfl | (simp; done) | (simp [*]; done)), H', ⟨by have := HJ8.out; have := HJ18.out; have := HJ35.out; have := HJ41.out; first | omega | exact Nat.le_refl _⟩, ⟨by repeat (first | (with_reducible first | exact HB.out | apply below_alloc | apply pw_below_drewN | apply below_drew1) | exact HB.out)⟩⟩
                            case rest =>
                              clear HC48
                              try clear c1
                              try clear c2
                              try clear p2
                              try clear c3
                              try clear c4
                              try clear c5
                              try clear c11
                              try clear c11b0
                              try clear c11b1
                              try clear c12
                              try clear c12b0
                              try clear c12b1
                              try clear c13
                              try clear c13b0
                              try clear c13b1
                              try clear c14
                              try clear c14b0
                              try clear c14b1
                              try clear c15
                              try clear c20
                              try clear c20b0
                              try clear c20b1
                              try clear c21
                              try clear c21b0
                              try clear c21b1
                              try clear c22
                              try clear c22b0
                              try clear c22b1
                              try clear c23
                              try clear c27
                              try clear c27b0
                              try clear c27b1
                              try clear c37
                              try clear c37b0
                              try clear c37b1
                              try clear c38
                              try clear c39
                              try clear c40
                              try clear c41
                              try clear c42
                              try clear c43
                              try clear c43b0
                              try clear c43b1
                              try clear c44
                              try clear c45
                              try clear c46
                              try clear c47
                              try clear c49
                              try clear c49b0
                              try clear c49b1
                              try clear c50
                              try clear c50b0
                              try clear c50b1
                              try clear c51
                              try clear c51b0
                              try clear c51b1
                              try clear p2
                              obtain ⟨kq, x131_47, rfl, HA, HJ47, HB⟩ := hcut
                              cases kq with
                              | zero => exact absurd HA.out (by simp [bureauref12_To.j4])
                              | succ kj47 =>
                                have H := HA.out
                                clear HA
                                simp only [bureauref12_To.j4] at H
                                by_cases c52 : x131_47 = true
                                · subst c52
                                  have H1 : ((bureauref12_lines.f kj47 a0 t347 ji8 a2 a4).bind fun bt377 => (if bt377.2 = true then (some (bt377.1, 2, true)) else (some (0, 0, false)))) = some (r1, r2, r3) := by rw [if_pos rfl] at H; exact H
                                  clear H
                                  have H := H1
                                  clear H1
                                  replace H := Option.bind_eq_some_iff.mp H
                                  obtain ⟨⟨t377, t378⟩, A530, H⟩ := H
                                  replace H : (if t378 = true then (some (t377, 2, true)) else (some (0, 0, false))) = some (r1, r2, r3) := H
                                  have A53 := Aside0.mk A530
                                  clear A530
                                  by_cases c54 : t378 = true
                                  · subst c54
                                    have H1 : (some (t377, 2, true)) = some (r1, r2, r3) := by rw [if_pos rfl] at H; exact H
                                    clear H
                                    have H := H1
                                    clear H1
                                    simp only [Option.some.injEq, Prod.mk.injEq] at H
                                    obtain ⟨rfl, rfl, rfl⟩ := H
                                    go_wp2_with (first | ((with_reducible refine gate_callee (f := 48) rfl ?_); refine goesL_ (some 142) rfl rfl Tryd.func48 (by kernel_rfl) rfl #[.string a0, .int .i64 t347, .int .i64 ji8, .int .i64 a2, .int .i64 a4] rfl (by (try simp only [List.map_toArray, List.map_cons, List.map_nil]); first | done | (simp only [hji8]; rfl) | rfl | (simp only [List.length_drop, List.length_take]; rfl)) ?_; (with_reducible refine (bureauref12_lines.calls kj47 a0 t347 ji8 a2 a4 t377 true _ A53.out ?sideT).mono ?_); (case sideT => first | exact HTABS.out | exact HTABS.out.below (by repeat (first | (with_reducible first | exact HB.out | apply below_alloc | apply pw_below_drewN | apply below_drew1) | refine below_set ?_ (Aside0.out (by assumption)) | exact HB.out)) (Nat.le_refl _) | exact HTABS.out.below (Below.drew (Below.refl _ _)) (Nat.le_refl _)); rintro e w55 ⟨rfl, hb⟩; refine ⟨_, rfl, ?_⟩; have n0_ := Aside0.mk (below_step (by repeat (first | (with_reducible first | exact HB.out | apply below_alloc | apply pw_below_drewN | apply below_drew1) | exact HB.out)) hb); clear HB; have HB := n0_; clear n0_; (try clear hb); (try clear hb2); (try clear hk); (try clear hi)))
                                    go_ret3
                                    exact ⟨by first | rfl | (simp [errW_none, errW_some] <;> rfl) | (simp only [← hji7, ← hji8]; first | rfl | (simp [errW_none, errW_some] <;> rfl)) | (simp [*, errW_none, errW_some] <;> rfl), by repeat (first | (with_reducible first | exact HB.out | apply below_alloc | apply pw_below_drewN | apply below_drew1) | exact HB.out)⟩
                                  · replace c54 := Bool.eq_false_iff.mpr c54
                                    subst c54
                                    have H1 : (some (0, 0, false)) = some (r1, r2, r3) := by rw [if_neg (show ¬ (false = true) by decide)] at H; exact H
                                    clear H
                                    have H := H1
                                    clear H1
                                    simp only [Option.some.injEq, Prod.mk.injEq] at H
                                    obtain ⟨rfl, rfl, rfl⟩ := H
                                    go_wp2_with (first | ((with_reducible refine gate_callee (f := 48) rfl ?_); refine goesL_ (some 142) rfl rfl Tryd.func48 (by kernel_rfl) rfl #[.string a0, .int .i64 t347, .int .i64 ji8, .int .i64 a2, .int .i64 a4] rfl (by (try simp only [List.map_toArray, List.map_cons, List.map_nil]); first | done | (simp only [hji8]; rfl) | rfl | (simp only [List.length_drop, List.length_take]; rfl)) ?_; (with_reducible refine (bureauref12_lines.calls kj47 a0 t347 ji8 a2 a4 t377 false _ A53.out ?sideT).mono ?_); (case sideT => first | exact HTABS.out | exact HTABS.out.below (by repeat (first | (with_reducible first | exact HB.out | apply below_alloc | apply pw_below_drewN | apply below_drew1) | refine below_set ?_ (Aside0.out (by assumption)) | exact HB.out)) (Nat.le_refl _) | exact HTABS.out.below (Below.drew (Below.refl _ _)) (Nat.le_refl _)); rintro e w56 ⟨rfl, hb⟩; refine ⟨_, rfl, ?_⟩; have n0_ := Aside0.mk (below_step (by repeat (first | (with_reducible first | exact HB.out | apply below_alloc | apply pw_below_drewN | apply below_drew1) | exact HB.out)) hb); clear HB; have HB := n0_; clear n0_; (try clear hb); (try clear hb2); (try clear hk); (try clear hi)))
                                    go_ret3
                                    exact ⟨by first | rfl | (simp [errW_none, errW_some] <;> rfl) | (simp only [← hji7, ← hji8]; first | rfl | (simp [errW_none, errW_some] <;> rfl)) | (simp [*, errW_none, errW_some] <;> rfl), by repeat (first | (with_reducible first | exact HB.out | apply below_alloc | apply pw_below_drewN | apply below_drew1) | exact HB.out)⟩
                                · replace c52 := Bool.eq_false_iff.mpr c52
                                  subst c52
                                  have H1 : (some (0, 0, false)) = some (r1, r2, r3) := by rw [if_neg (show ¬ (false = true) by decide)] at H; exact H
                                  clear H
                                  have H := H1
                                  clear H1
                                  simp only [Option.some.injEq, Prod.mk.injEq] at H
                                  obtain ⟨rfl, rfl, rfl⟩ := H
                                  go_wp2
                                  go_ret3
                                  exact ⟨by first | rfl | (simp [errW_none, errW_some] <;> rfl) | (simp only [← hji7, ← hji8]; first | rfl | (simp [errW_none, errW_some] <;> rfl)) | (simp [*, errW_none, errW_some] <;> rfl), by repeat (first | (with_reducible first | exact HB.out | apply below_alloc | apply pw_below_drewN | apply below_drew1) | exact HB.out)⟩

end Go.Proofs.YtpajakfmahfpkaaDoor.XMoveAll
