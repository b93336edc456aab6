-- Written by this session's program (wip/xprint.py) with the kit's print, for this claim.
import Derived.Test.YtmbnambicnhdoaaXWholeChainsx0
import Derived.Test.YtmbnambicnhdoaaXWholeChainsx2
import Derived.Test.YtmbnambicnhdoaaXWholeChainsx3
namespace Go.Proofs.Ytmbnambicnhdoaa.XWholeChains
open Go.RowKit Go.Proofs.YtmbnambicnhdoaaW.PrintWords Go.Proofs.YtmbnambicnhdoaaW.PrintLast Go.Proofs.YtmbnambicnhdoaaW.PrintMore Go.Proofs.Ytmbnambicnhdoaa.Ext
attribute [local go_sem] max2_int min2_int max_two min_two max_three min_three max_four min_four   -- for this text's walks alone
set_option linter.unusedVariables false
set_option linter.unusedSimpArgs false

/-! ### bureautop_WholeChains: function 3 -/
mutual
def bureautop_WholeChains.j0 : Nat → Int → List (S30) → Bool → Option (Bool)
  | 0, _, _, _ => none
  | k + 1, x0, x1, x18 => if x18 = true then (some false) else (bureautop_WholeChains.l0 k x0 x1 x0 x0 0)
def bureautop_WholeChains.l0 : Nat → Int → List (S30) → Int → Int → Int → Option (Bool)
  | 0, _, _, _, _, _ => none
  | k + 1, x0, x1, x5, x6, x7 => if x7 < (x1.length : Int) then (bureautop_WholeChains.j2 k x0 x1 x5 x6 x7 (decide (x7 < 1000))) else (bureautop_WholeChains.j2 k x0 x1 x5 x6 x7 false)
def bureautop_WholeChains.j2 : Nat → Int → List (S30) → Int → Int → Int → Bool → Option (Bool)
  | 0, _, _, _, _, _, _ => none
  | k + 1, x0, x1, x5, x6, x7, x28 => if x28 = true then (if 0 ≤ x7 then (if x7 < (x1.length : Int) then ((gate_Decide.f k false false ((rd_T30 x1 x7).f0) ((rd_T30 x1 x7).f1) 0 x5 1 15).bind fun t117 => (if t117 = 0 then ((gate_Taint.f k false false ((rd_T30 x1 x7).f0) ((rd_T30 x1 x7).f1) 0 x5 1 15).bind fun t118 => (if (rd_T30 x1 x7).f3 = true then (bureautop_WholeChains.j3 k x0 x1 x5 x6 x7 ((rd_T30 x1 x7).f0) ((rd_T30 x1 x7).f1) ((rd_T30 x1 x7).f2) ((rd_T30 x1 x7).f3) false false ((rd_T30 x1 x7).f0) ((rd_T30 x1 x7).f1) t118 ((rd_T30 x1 x7).f2) 4 15) else (bureautop_WholeChains.j3 k x0 x1 x5 x6 x7 ((rd_T30 x1 x7).f0) ((rd_T30 x1 x7).f1) ((rd_T30 x1 x7).f2) ((rd_T30 x1 x7).f3) false false ((rd_T30 x1 x7).f0) ((rd_T30 x1 x7).f1) t118 ((rd_T30 x1 x7).f2) 2 15))) else (bureautop_WholeChains.l0 k x0 x1 x5 x6 (wrap64 (x7 + 1))))) else (none)) else (none)) else (some true)
def bureautop_WholeChains.j3 : Nat → Int → List (S30) → Int → Int → Int → Int → Int → Int → Bool → Bool → Bool → Int → Int → Int → Int → Int → Int → Option (Bool)
  | 0, _, _, _, _, _, _, _, _, _, _, _, _, _, _, _, _, _ => none
  | k + 1, x0, x1, x5, x6, x7, x116000, x116001, x116002, x116003, x120000, x120001, x120002, x120003, x120004, x120005, x120006, x120007 => (gate_Decide.f k x120000 x120001 x120002 x120003 x120004 x120005 x120006 x120007).bind fun t120 => (if t120 = 0 then ((bureauref01_Join.f x6 x116000).bind fun t121 => ((bureauref01_Below.f x0 x116002).bind fun t122 => (if t122 = true then ((bureauref01_Below.f t121 x116002).bind fun t123 => (if t123 = true then (bureautop_WholeChains.l0 k x0 x1 x116002 t121 (wrap64 (x7 + 1))) else (some false))) else (some false)))) else (bureautop_WholeChains.l0 k x0 x1 x5 x6 (wrap64 (x7 + 1))))
end
def bureautop_WholeChains.f (k : Nat) (a0 : Int) (l1 : List (S30)) : Option (Bool) := (gate_Decide.f k false false 0 1 0 1 1 1).bind fun t112 => (if t112 = 0 then ((gate_Decide.f k false false 0 0 1 0 2 15).bind fun t113 => (bureautop_WholeChains.j0 k a0 l1 (t113 != 8))) else (bureautop_WholeChains.j0 k a0 l1 true))
theorem bureautop_WholeChains.mono_l : ∀ k, (∀ y0 y1 y2, LeO (bureautop_WholeChains.j0 k y0 y1 y2) (bureautop_WholeChains.j0 (k + 1) y0 y1 y2)) ∧ (∀ y0 y1 y2 y3 y4, LeO (bureautop_WholeChains.l0 k y0 y1 y2 y3 y4) (bureautop_WholeChains.l0 (k + 1) y0 y1 y2 y3 y4)) ∧ (∀ y0 y1 y2 y3 y4 y5, LeO (bureautop_WholeChains.j2 k y0 y1 y2 y3 y4 y5) (bureautop_WholeChains.j2 (k + 1) y0 y1 y2 y3 y4 y5)) ∧ (∀ y0 y1 y2 y3 y4 y5 y6 y7 y8 y9 y10 y11 y12 y13 y14 y15 y16, LeO (bureautop_WholeChains.j3 k y0 y1 y2 y3 y4 y5 y6 y7 y8 y9 y10 y11 y12 y13 y14 y15 y16) (bureautop_WholeChains.j3 (k + 1) y0 y1 y2 y3 y4 y5 y6 y7 y8 y9 y10 y11 y12 y13 y14 y15 y16))
  | 0 => ⟨fun _ _ _ r h => by simp [bureautop_WholeChains.j0] at h, fun _ _ _ _ _ r h => by simp [bureautop_WholeChains.l0] at h, fun _ _ _ _ _ _ r h => by simp [bureautop_WholeChains.j2] at h, fun _ _ _ _ _ _ _ _ _ _ _ _ _ _ _ _ _ r h => by simp [bureautop_WholeChains.j3] at h⟩
  | k + 1 => by
    obtain ⟨ih0, ih1, ih2, ih3⟩ := bureautop_WholeChains.mono_l k
    refine ⟨?_, ?_, ?_, ?_⟩
    · intro y0 y1 y2
      unfold bureautop_WholeChains.j0
      repeat' first
      | (with_reducible exact ih0 _ _ _)
      | (with_reducible exact ih1 _ _ _ _ _)
      | (with_reducible exact ih2 _ _ _ _ _ _)
      | (with_reducible exact ih3 _ _ _ _ _ _ _ _ _ _ _ _ _ _ _ _ _)
      | (with_reducible exact gate_Decide.mono _ _ _ _ _ _ _ _ _)
      | (with_reducible exact gate_Taint.mono _ _ _ _ _ _ _ _ _)
      | (with_reducible exact LeO.refl _)
      | (with_reducible exact LeO.none _)
      | (with_reducible refine LeO.ite ?_ ?_)
      | (with_reducible refine LeO.bind ?_ (fun _ => ?_))
      | exact ih0 _ _ _
      | exact ih1 _ _ _ _ _
      | exact ih2 _ _ _ _ _ _
      | exact ih3 _ _ _ _ _ _ _ _ _ _ _ _ _ _ _ _ _
      | exact gate_Decide.mono _ _ _ _ _ _ _ _ _
      | exact gate_Taint.mono _ _ _ _ _ _ _ _ _
      | exact LeO.none _
      | refine LeO.ite ?_ ?_
      | refine LeO.bind ?_ (fun _ => ?_)
    · intro y0 y1 y2 y3 y4
      unfold bureautop_WholeChains.l0
      repeat' first
      | (with_reducible exact ih0 _ _ _)
      | (with_reducible exact ih1 _ _ _ _ _)
      | (with_reducible exact ih2 _ _ _ _ _ _)
      | (with_reducible exact ih3 _ _ _ _ _ _ _ _ _ _ _ _ _ _ _ _ _)
      | (with_reducible exact gate_Decide.mono _ _ _ _ _ _ _ _ _)
      | (with_reducible exact gate_Taint.mono _ _ _ _ _ _ _ _ _)
      | (with_reducible exact LeO.refl _)
      | (with_reducible exact LeO.none _)
      | (with_reducible refine LeO.ite ?_ ?_)
      | (with_reducible refine LeO.bind ?_ (fun _ => ?_))
      | exact ih0 _ _ _
      | exact ih1 _ _ _ _ _
      | exact ih2 _ _ _ _ _ _
      | exact ih3 _ _ _ _ _ _ _ _ _ _ _ _ _ _ _ _ _
      | exact gate_Decide.mono _ _ _ _ _ _ _ _ _
      | exact gate_Taint.mono _ _ _ _ _ _ _ _ _
      | exact LeO.none _
      | refine LeO.ite ?_ ?_
      | refine LeO.bind ?_ (fun _ => ?_)
    · intro y0 y1 y2 y3 y4 y5
      unfold bureautop_WholeChains.j2
      repeat' first
      | (with_reducible exact ih0 _ _ _)
      | (with_reducible exact ih1 _ _ _ _ _)
      | (with_reducible exact ih2 _ _ _ _ _ _)
      | (with_reducible exact ih3 _ _ _ _ _ _ _ _ _ _ _ _ _ _ _ _ _)
      | (with_reducible exact gate_Decide.mono _ _ _ _ _ _ _ _ _)
      | (with_reducible exact gate_Taint.mono _ _ _ _ _ _ _ _ _)
      | (with_reducible exact LeO.refl _)
      | (with_reducible exact LeO.none _)
      | (with_reducible refine LeO.ite ?_ ?_)
      | (with_reducible refine LeO.bind ?_ (fun _ => ?_))
      | exact ih0 _ _ _
      | exact ih1 _ _ _ _ _
      | exact ih2 _ _ _ _ _ _
      | exact ih3 _ _ _ _ _ _ _ _ _ _ _ _ _ _ _ _ _
      | exact gate_Decide.mono _ _ _ _ _ _ _ _ _
      | exact gate_Taint.mono _ _ _ _ _ _ _ _ _
      | exact LeO.none _
      | refine LeO.ite ?_ ?_
      | refine LeO.bind ?_ (fun _ => ?_)
    · intro y0 y1 y2 y3 y4 y5 y6 y7 y8 y9 y10 y11 y12 y13 y14 y15 y16
      unfold bureautop_WholeChains.j3
      repeat' first
      | (with_reducible exact ih0 _ _ _)
      | (with_reducible exact ih1 _ _ _ _ _)
      | (with_reducible exact ih2 _ _ _ _ _ _)
      | (with_reducible exact ih3 _ _ _ _ _ _ _ _ _ _ _ _ _ _ _ _ _)
      | (with_reducible exact gate_Decide.mono _ _ _ _ _ _ _ _ _)
      | (with_reducible exact gate_Taint.mono _ _ _ _ _ _ _ _ _)
      | (with_reducible exact LeO.refl _)
      | (with_reducible exact LeO.none _)
      | (with_reducible refine LeO.ite ?_ ?_)
      | (with_reducible refine LeO.bind ?_ (fun _ => ?_))
      | exact ih0 _ _ _
      | exact ih1 _ _ _ _ _
      | exact ih2 _ _ _ _ _ _
      | exact ih3 _ _ _ _ _ _ _ _ _ _ _ _ _ _ _ _ _
      | exact gate_Decide.mono _ _ _ _ _ _ _ _ _
      | exact gate_Taint.mono _ _ _ _ _ _ _ _ _
      | exact LeO.none _
      | refine LeO.ite ?_ ?_
      | refine LeO.bind ?_ (fun _ => ?_)
theorem bureautop_WholeChains.mono : ∀ a0 a1 k, LeO (bureautop_WholeChains.f k a0 a1) (bureautop_WholeChains.f (k + 1) a0 a1) := by
  intro a0 a1 k
  obtain ⟨ih0, ih1, ih2, ih3⟩ := bureautop_WholeChains.mono_l k
  unfold bureautop_WholeChains.f
  repeat' first
      | (with_reducible exact ih0 _ _ _)
      | (with_reducible exact ih1 _ _ _ _ _)
      | (with_reducible exact ih2 _ _ _ _ _ _)
      | (with_reducible exact ih3 _ _ _ _ _ _ _ _ _ _ _ _ _ _ _ _ _)
      | (with_reducible exact gate_Decide.mono _ _ _ _ _ _ _ _ _)
      | (with_reducible exact gate_Taint.mono _ _ _ _ _ _ _ _ _)
      | (with_reducible exact LeO.refl _)
      | (with_reducible exact LeO.none _)
      | (with_reducible refine LeO.ite ?_ ?_)
      | (with_reducible refine LeO.bind ?_ (fun _ => ?_))
      | exact ih0 _ _ _
      | exact ih1 _ _ _ _ _
      | exact ih2 _ _ _ _ _ _
      | exact ih3 _ _ _ _ _ _ _ _ _ _ _ _ _ _ _ _ _
      | exact gate_Decide.mono _ _ _ _ _ _ _ _ _
      | exact gate_Taint.mono _ _ _ _ _ _ _ _ _
      | exact LeO.none _
      | refine LeO.ite ?_ ?_
      | refine LeO.bind ?_ (fun _ => ?_)
def bureautop_WholeChains.T10 : Bool × List (List Nat × List Nat) := (true, [([], []), ([0], [0]), ([], []), ([2], [2]), ([], []), ([4], [4]), ([], []), ([6], [6]), ([1, 3, 5, 7], [1, 3, 5, 7]), ([], []), ([9, 8, 5, 0, 1, 2, 3, 4, 5, 6, 7, 8, 9], [8, 9])])
def bureautop_WholeChains.B10 : List Nat := [0, 1, 0, 4, 0, 16, 0, 64, 255, 0, 1023]
theorem bureautop_WholeChains.tab10 : rtab .any (opsOf Try.f3 10) = bureautop_WholeChains.T10 := by kernel_rfl
theorem bureautop_WholeChains.bits10 : waitsOk bureautop_WholeChains.T10.2 bureautop_WholeChains.B10 = true := by kernel_rfl
def bureautop_WholeChains.T14 : Bool × List (List Nat × List Nat) := (true, [([], []), ([0], [0]), ([], []), ([], []), ([3], [3]), ([2, 4], [2, 4]), ([1, 5, 0, 1], [1]), ([5, 6, 0, 1, 2, 3, 4, 5, 6], [2, 5])])
def bureautop_WholeChains.B14 : List Nat := [0, 1, 0, 0, 8, 28, 63, 127]
theorem bureautop_WholeChains.tab14 : rtab .any (opsOf Try.f3 14) = bureautop_WholeChains.T14 := by kernel_rfl
theorem bureautop_WholeChains.bits14 : waitsOk bureautop_WholeChains.T14.2 bureautop_WholeChains.B14 = true := by kernel_rfl
set_option maxHeartbeats 8000000 in
set_option maxRecDepth 100000 in
theorem bureautop_WholeChains.calls (k : Nat) (a0 : Int) (A1 : Option Addr) (c1 : Nat) (l1 : List (S30)) (r : Bool) (w : World) (hr1 : Kd.C k30 w A1 l1.length l1) (hc1 : l1.length ≤ c1) (h : bureautop_WholeChains.f k a0 l1 = some r) :
    Calls Try.prog 3 #[.int .u64 a0, .slice A1 l1.length c1] w fun e w' => e = .returned (.bool r) ∧ Below w.heap.size w w' := by
  have hu28 := Try.underlying28
  have hu30 := Try.underlying30
  have HR1 := Aside0.mk hr1
  have HC1 := Aside0.mk hc1
  clear hr1 hc1
  have HB := Aside0.mk (Below.refl w.heap.size w)
  have H : ((gate_Decide.f k false false 0 1 0 1 1 1).bind fun t112 => (if t112 = 0 then ((gate_Decide.f k false false 0 0 1 0 2 15).bind fun t113 => (bureautop_WholeChains.j0 k a0 l1 (t113 != 8))) else (bureautop_WholeChains.j0 k a0 l1 true))) = some r := h
  clear h
  have HC3 := Aside0.mk H
  clear H
  go_enter Try.func3, Try.ntmps3
  go_upto_region 1 with (fail)
  go_cut [18] (fun v18 wc => ∃ (kq : Nat) (x18_2 : Bool), v18 = .bool x18_2 ∧ Aside0 (bureautop_WholeChains.j0 kq a0 l1 x18_2 = some r) ∧ Aside0 (kq ≤ k) ∧ Aside0 (Below w.heap.size w wc))
  case first =>
    have H := HC3.out
    clear HC3
    replace H := Option.bind_eq_some_iff.mp H
    obtain ⟨t112, A40, H⟩ := H
    replace H : (if t112 = 0 then ((gate_Decide.f k false false 0 0 1 0 2 15).bind fun t113 => (bureautop_WholeChains.j0 k a0 l1 (t113 != 8))) else (bureautop_WholeChains.j0 k a0 l1 true)) = some r := H
    have A4 := Aside0.mk A40
    clear A40
    by_cases c5 : t112 = 0
    · rw [if_pos c5] at H
      have c5b0 : (t112 == 0) = true := beq_iff_eq.mpr c5
      have c5b1 : (t112 != 0) = false := bne_eq_false_iff_eq.mpr c5
      clear c5
      (first | rw [c5b0] | (simp only [i64_w, i32_w]; rw [c5b0]) | skip)
      replace H := Option.bind_eq_some_iff.mp H
      obtain ⟨t113, A60, H⟩ := H
      replace H : (bureautop_WholeChains.j0 k a0 l1 (t113 != 8)) = some r := H
      have A6 := Aside0.mk A60
      clear A60
      have H' := Aside0.mk H
      clear H
      go_wp2_with (first | ((with_reducible refine gate_callee (f := 4) rfl ?_); refine goesL_ (some 12) rfl rfl Try.func4 (by kernel_rfl) rfl #[.agg #[.bool false, .bool false, .int .u64 0, .int .u64 1, .int .u64 0, .int .u64 1, .int .i64 1, .int .i64 1]] rfl (by (try simp only [List.map_toArray, List.map_cons, List.map_nil]); first | done | rfl | (simp only [List.length_drop, List.length_take]; rfl)) ?_; (with_reducible refine (gate_Decide.calls k false false 0 1 0 1 1 1 t112 _ A4.out).mono ?_); rintro e w7 ⟨rfl, hb⟩; refine ⟨_, rfl, ?_⟩; have n0_ := Aside0.mk (below_step (by repeat (first | (with_reducible first | exact HB.out | apply below_alloc | apply pw_below_drewN | apply below_drew1) | exact HB.out)) hb); clear HB; have HB := n0_; clear n0_; (try clear hb); (try clear hb2); (try clear hk); (try clear hi)) | (go_at_call 4; (with_reducible refine (gate_Decide.calls k false false 0 0 1 0 2 15 t113 _ A6.out).mono ?_); rintro e w8 ⟨rfl, hb⟩; have n0_ := Aside0.mk (below_step (by repeat (first | (with_reducible first | exact HB.out | apply below_alloc | apply pw_below_drewN | apply below_drew1) | exact HB.out)) hb); clear HB; have HB := n0_; clear n0_; (try clear hb); (try clear hb2); (try clear hk); (try clear hi)))
      go_meet
      case rel => exact ⟨_, ((t113 != 8)), (by first | rfl | (simp; done) | (simp [*]; done)), H', ⟨by first | omega | exact Nat.le_refl _⟩, ⟨by repeat (first | (with_reducible first | exact HB.out | apply below_alloc | apply pw_below_drewN | apply below_drew1) | exact HB.out)⟩⟩
    · rw [if_neg c5] at H
      have c5b0 : (t112 == 0) = false := beq_eq_false_iff_ne.mpr c5
      have c5b1 : (t112 != 0) = true := bne_iff_ne.mpr c5
      (first | rw [c5b0] | (simp only [i64_w, i32_w]; rw [c5b0]) | skip)
      have H' := Aside0.mk H
      clear H
      go_wp2_with (first | ((with_reducible refine gate_callee (f := 4) rfl ?_); refine goesL_ (some 12) rfl rfl Try.func4 (by kernel_rfl) rfl #[.agg #[.bool false, .bool false, .int .u64 0, .int .u64 1, .int .u64 0, .int .u64 1, .int .i64 1, .int .i64 1]] rfl (by (try simp only [List.map_toArray, List.map_cons, List.map_nil]); first | done | rfl | (simp only [List.length_drop, List.length_take]; rfl)) ?_; (with_reducible refine (gate_Decide.calls k false false 0 1 0 1 1 1 t112 _ A4.out).mono ?_); rintro e w9 ⟨rfl, hb⟩; refine ⟨_, rfl, ?_⟩; have n0_ := Aside0.mk (below_step (by repeat (first | (with_reducible first | exact HB.out | apply below_alloc | apply pw_below_drewN | apply below_drew1) | exact HB.out)) hb); clear HB; have HB := n0_; clear n0_; (try clear hb); (try clear hb2); (try clear hk); (try clear hi)))
      go_meet
      case rel => exact ⟨_, (true), (by first | rfl | (simp; done) | (simp [*]; done)), H', ⟨by first | omega | exact Nat.le_refl _⟩, ⟨by repeat (first | (with_reducible first | exact HB.out | apply below_alloc | apply pw_below_drewN | apply below_drew1) | exact HB.out)⟩⟩
  case rest =>
    clear HC3
    try clear c1
    try clear p2
    try clear c3
    try clear c4
    try clear c5
    try clear c5b0
    try clear c5b1
    obtain ⟨kq, x18_2, rfl, HA, HJ2, HB⟩ := hcut
    cases kq with
    | zero => exact absurd HA.out (by simp [bureautop_WholeChains.j0])
    | succ kj2 =>
      have H := HA.out
      clear HA
      simp only [bureautop_WholeChains.j0] at H
      by_cases c10 : x18_2 = true
      · subst c10
        have H1 : (some false) = some r := by rw [if_pos rfl] at H; exact H
        clear H
        have H := H1
        clear H1
        obtain rfl := Option.some.inj H
        go_wp2
        go_ret
        exact ⟨by first | rfl | (simp [errW_none, errW_some] <;> rfl) | (simp [*, errW_none, errW_some] <;> rfl), by repeat (first | (with_reducible first | exact HB.out | apply below_alloc | apply pw_below_drewN | apply below_drew1) | exact HB.out)⟩
      · replace c10 := Bool.eq_false_iff.mpr c10
        subst c10
        have H1 : (bureautop_WholeChains.l0 kj2 a0 l1 a0 a0 0) = some r := by rw [if_neg (show ¬ (false = true) by decide)] at H; exact H
        clear H
        have H := H1
        clear H1
        have H' := Aside0.mk H
        clear H
        go_wp2
        go_loopg [5, 6, 7] kj2 (fun kq v5 v6 v7 w' => ∃ (x5_2 : Int) (x6_2 : Int) (x7_2 : Int), v5 = .int .u64 x5_2 ∧ v6 = .int .u64 x6_2 ∧ v7 = .int .i64 x7_2 ∧ Aside0 (bureautop_WholeChains.l0 kq a0 l1 x5_2 x6_2 x7_2 = some r) ∧ Aside0 (kq ≤ kj2) ∧ Aside0 (Below w.heap.size w w'))
        case atStart => exact ⟨(a0), (a0), (0), (by first | rfl | (simp; done) | (simp [*]; done)), (by first | rfl | (simp; done) | (simp [*]; done)), (by first | rfl | (simp; done) | (simp [*]; done)), H', ⟨Nat.le_refl _⟩, ⟨by repeat (first | (with_reducible first | exact HB.out | apply below_alloc | apply pw_below_drewN | apply below_drew1) | exact HB.out)⟩⟩
        case round =>
          clear H'
          try clear c1
          try clear p2
          try clear c3
          try clear c4
          try clear c5
          try clear c5b0
          try clear c5b1
          try clear c10
          try clear p2
          obtain ⟨x5_2, x6_2, x7_2, rfl, rfl, rfl, HA, HK2, HB⟩ := hrel
          cases gk with
          | zero => exact absurd HA.out (by simp [bureautop_WholeChains.l0])
          | succ k2 =>
            have H := HA.out
            clear HA
            simp only [bureautop_WholeChains.l0] at H
            have HC11 := Aside0.mk H
            clear H
            go_upto_region 5 with (fail)
            go_cut [28] (fun v28 wc => ∃ (kq : Nat) (x28_10 : Bool), v28 = .bool x28_10 ∧ Aside0 (bureautop_WholeChains.j2 kq a0 l1 x5_2 x6_2 x7_2 x28_10 = some r) ∧ Aside0 (kq ≤ k2) ∧ Aside0 (Below w.heap.size w wc))
            case first =>
              have H := HC11.out
              clear HC11
              by_cases c12 : x7_2 < (l1.length : Int)
              · rw [if_pos c12] at H
                have c12b0 : decide (x7_2 < (l1.length : Int)) = true := decide_eq_true c12
                clear c12
                (first | rw [c12b0] | (simp only [i64_w, i32_w]; rw [c12b0]) | skip)
                have H' := Aside0.mk H
                clear H
                go_wp2
                go_meet
                case rel => exact ⟨_, (decide (x7_2 < 1000)), (by first | rfl | (simp; done) | (simp [*]; done)), H', ⟨by have := HJ2.out; have := HK2.out; first | omega | exact Nat.le_refl _⟩, ⟨by repeat (first | (with_reducible first | exact HB.out | apply below_alloc | apply pw_below_drewN | apply below_drew1) | exact HB.out)⟩⟩
              · rw [if_neg c12] at H
                have c12b0 : decide (x7_2 < (l1.length : Int)) = false := decide_eq_false c12
                clear c12
                (first | rw [c12b0] | (simp only [i64_w, i32_w]; rw [c12b0]) | skip)
                have H' := Aside0.mk H
                clear H
                go_wp2
                go_meet
                case rel => exact ⟨_, (false), (by first | rfl | (simp; done) | (simp [*]; done)), H', ⟨by have := HJ2.out; have := HK2.out; first | omega | exact Nat.le_refl _⟩, ⟨by repeat (first | (with_reducible first | exact HB.out | apply below_alloc | apply pw_below_drewN | apply below_drew1) | exact HB.out)⟩⟩
            case rest =>
              clear HC11
              try clear c1
              try clear p2
              try clear c3
              try clear c4
              try clear c5
              try clear c5b0
              try clear c5b1
              try clear c10
              try clear c12
              try clear c12b0
              try clear p2
              obtain ⟨kq, x28_10, rfl, HA, HJ10, HB⟩ := hcut
              cases kq with
              | zero => exact absurd HA.out (by simp [bureautop_WholeChains.j2])
              | succ kj10 =>
                have H := HA.out
                clear HA
                simp only [bureautop_WholeChains.j2] at H
                by_cases c13 : x28_10 = true
                · subst c13
                  have H1 : (if 0 ≤ x7_2 then (if x7_2 < (l1.length : Int) then ((gate_Decide.f kj10 false false ((rd_T30 l1 x7_2).f0) ((rd_T30 l1 x7_2).f1) 0 x5_2 1 15).bind fun t117 => (if t117 = 0 then ((gate_Taint.f kj10 false false ((rd_T30 l1 x7_2).f0) ((rd_T30 l1 x7_2).f1) 0 x5_2 1 15).bind fun t118 => (if (rd_T30 l1 x7_2).f3 = true then (bureautop_WholeChains.j3 kj10 a0 l1 x5_2 x6_2 x7_2 ((rd_T30 l1 x7_2).f0) ((rd_T30 l1 x7_2).f1) ((rd_T30 l1 x7_2).f2) ((rd_T30 l1 x7_2).f3) false false ((rd_T30 l1 x7_2).f0) ((rd_T30 l1 x7_2).f1) t118 ((rd_T30 l1 x7_2).f2) 4 15) else (bureautop_WholeChains.j3 kj10 a0 l1 x5_2 x6_2 x7_2 ((rd_T30 l1 x7_2).f0) ((rd_T30 l1 x7_2).f1) ((rd_T30 l1 x7_2).f2) ((rd_T30 l1 x7_2).f3) false false ((rd_T30 l1 x7_2).f0) ((rd_T30 l1 x7_2).f1) t118 ((rd_T30 l1 x7_2).f2) 2 15))) else (bureautop_WholeChains.l0 kj10 a0 l1 x5_2 x6_2 (wrap64 (x7_2 + 1))))) else (none)) else (none)) = some r := by rw [if_pos rfl] at H; exact H
                  clear H
                  have H := H1
                  clear H1
                  by_cases c14 : 0 ≤ x7_2
                  · rw [if_pos c14] at H
                    have c14b0 : decide (0 ≤ x7_2) = true := decide_eq_true c14
                    clear c14
                    by_cases c15 : x7_2 < (l1.length : Int)
                    · rw [if_pos c15] at H
                      have c15b0 : decide (x7_2 < (l1.length : Int)) = true := decide_eq_true c15
                      clear c15
                      replace H := Option.bind_eq_some_iff.mp H
                      obtain ⟨t117, A160, H⟩ := H
                      replace H : (if t117 = 0 then ((gate_Taint.f kj10 false false ((rd_T30 l1 x7_2).f0) ((rd_T30 l1 x7_2).f1) 0 x5_2 1 15).bind fun t118 => (if (rd_T30 l1 x7_2).f3 = true then (bureautop_WholeChains.j3 kj10 a0 l1 x5_2 x6_2 x7_2 ((rd_T30 l1 x7_2).f0) ((rd_T30 l1 x7_2).f1) ((rd_T30 l1 x7_2).f2) ((rd_T30 l1 x7_2).f3) false false ((rd_T30 l1 x7_2).f0) ((rd_T30 l1 x7_2).f1) t118 ((rd_T30 l1 x7_2).f2) 4 15) else (bureautop_WholeChains.j3 kj10 a0 l1 x5_2 x6_2 x7_2 ((rd_T30 l1 x7_2).f0) ((rd_T30 l1 x7_2).f1) ((rd_T30 l1 x7_2).f2) ((rd_T30 l1 x7_2).f3) false false ((rd_T30 l1 x7_2).f0) ((rd_T30 l1 x7_2).f1) t118 ((rd_T30 l1 x7_2).f2) 2 15))) else (bureautop_WholeChains.l0 kj10 a0 l1 x5_2 x6_2 (wrap64 (x7_2 + 1)))) = some r := H
                      have A16 := Aside0.mk A160
                      clear A160
                      by_cases c17 : t117 = 0
                      · rw [if_pos c17] at H
                        have c17b0 : (t117 == 0) = true := beq_iff_eq.mpr c17
                        have c17b1 : (t117 != 0) = false := bne_eq_false_iff_eq.mpr c17
                        clear c17
                        replace H := Option.bind_eq_some_iff.mp H
                        obtain ⟨t118, A180, H⟩ := H
                        replace H : (if (rd_T30 l1 x7_2).f3 = true then (bureautop_WholeChains.j3 kj10 a0 l1 x5_2 x6_2 x7_2 ((rd_T30 l1 x7_2).f0) ((rd_T30 l1 x7_2).f1) ((rd_T30 l1 x7_2).f2) ((rd_T30 l1 x7_2).f3) false false ((rd_T30 l1 x7_2).f0) ((rd_T30 l1 x7_2).f1) t118 ((rd_T30 l1 x7_2).f2) 4 15) else (bureautop_WholeChains.j3 kj10 a0 l1 x5_2 x6_2 x7_2 ((rd_T30 l1 x7_2).f0) ((rd_T30 l1 x7_2).f1) ((rd_T30 l1 x7_2).f2) ((rd_T30 l1 x7_2).f3) false false ((rd_T30 l1 x7_2).f0) ((rd_T30 l1 x7_2).f1) t118 ((rd_T30 l1 x7_2).f2) 2 15)) = some r := H
                        have A18 := Aside0.mk A180
                        clear A180
                        have HC19 := Aside0.mk H
                        clear H
                        have p114 : 0 ≤ (x7_2 : Int) := of_decide_eq_true (by first | (with_reducible assumption) | assumption)
                        have q114 : x7_2 < (l1.length : Int) := of_decide_eq_true (by first | (with_reducible assumption) | assumption)
                        obtain ⟨ad114, e114, hx114_0, hx114_1, hx114_2, hx114_3⟩ := at_T30 HR1.out x7_2 p114 q114
                        cases e114
                        replace hx114_0 := (HB.out.cell (World.block_lt_of_cell? w _ hx114_0)).trans hx114_0
                        replace hx114_1 := (HB.out.cell (World.block_lt_of_cell? w _ hx114_1)).trans hx114_1
                        replace hx114_2 := (HB.out.cell (World.block_lt_of_cell? w _ hx114_2)).trans hx114_2
                        replace hx114_3 := (HB.out.cell (World.block_lt_of_cell? w _ hx114_3)).trans hx114_3
                        replace p114 := eq_true p114
                        replace q114 := eq_true q114
                        try go_wp2_with (first | ((with_reducible refine gate_dst (N := 8) rfl ?_); refine box_event ?hg (N := 8) ?hd (cs := #[.int .u64 0, .int .u64 0, .int .u64 0, .bool false]) (t := 30) ?hr ?_; (case hd => rfl); (case hg => rfl); (case hr => first | (go_simp; done) | (go_simp; rfl)); intro gb115 hg w20 hbox hb; have n0_ := Aside0.mk (below_step (by repeat (first | (with_reducible first | exact HB.out | apply below_alloc | apply pw_below_drewN | apply below_drew1) | exact HB.out)) hb); have n1_ := Aside0.mk (hbox); have n2_ := Aside0.mk ((by rw [hg]; exact (below_size (by repeat (first | (with_reducible first | exact HB.out | apply below_alloc | apply pw_below_drewN | apply below_drew1) | exact HB.out))) : w.heap.size ≤ gb115)); have n3_ := Aside0.mk ((by rw [hg]; exact (below_size (by repeat (first | (with_reducible first | exact HB.out | apply below_alloc | apply pw_below_drewN | apply below_drew1) | exact HB.out))) : w.heap.size ≤ gb115)); clear HB; have HB := n0_; have BK115 := n1_; have GW115 := n2_; have GE115 := n3_; clear n0_ n1_ n2_ n3_; clear hb hbox hg; have hcz21_0 : w20.cell? ⟨gb115, 0, none⟩ = some (.int .u64 0) := (blk_cell BK115.out 0).trans rfl; have hcz21_1 : w20.cell? ⟨gb115, 1, none⟩ = some (.int .u64 0) := (blk_cell BK115.out 1).trans rfl; have hcz21_2 : w20.cell? ⟨gb115, 2, none⟩ = some (.int .u64 0) := (blk_cell BK115.out 2).trans rfl; have hcz21_3 : w20.cell? ⟨gb115, 3, none⟩ = some (.bool false) := (blk_cell BK115.out 3).trans rfl; have hfz21_0 := blk_frozen BK115.out 0; have hfz21_1 := blk_frozen BK115.out 1; have hfz21_2 := blk_frozen BK115.out 2; have hfz21_3 := blk_frozen BK115.out 3) | ((with_reducible refine gate_dst (N := 9) rfl ?_); refine box_event ?hg (N := 9) ?hd (cs := #[.bool false, .bool false, .int .u64 0, .int .u64 0, .int .u64 0, .int .u64 0, .int .i64 0, .int .i64 0]) (t := 28) ?hr ?_; (case hd => rfl); (case hg => rfl); (case hr => first | (go_simp; done) | (go_simp; rfl)); intro gb116 hg w22 hbox hb; have n0_ := Aside0.mk (blk_below (g := gb115) (o := .cells #[.int .u64 ((rd_T30 l1 x7_2).f0), .int .u64 ((rd_T30 l1 x7_2).f1), .int .u64 ((rd_T30 l1 x7_2).f2), .bool ((rd_T30 l1 x7_2).f3)] 30 (0, 0)) (by (with_reducible repeat (first | refine blk_drewN ?_ _ | refine blk_drew ?_ | refine blk_alloc ?_ _)); refine blk_put (cs := #[.int .u64 ((rd_T30 l1 x7_2).f0), .int .u64 ((rd_T30 l1 x7_2).f1), .int .u64 ((rd_T30 l1 x7_2).f2), .bool false]) ?_ 3 _ rfl; (with_reducible repeat (first | refine blk_drewN ?_ _ | refine blk_drew ?_ | refine blk_alloc ?_ _)); refine blk_put (cs := #[.int .u64 ((rd_T30 l1 x7_2).f0), .int .u64 ((rd_T30 l1 x7_2).f1), .int .u64 0, .bool false]) ?_ 2 _ rfl; (with_reducible repeat (first | refine blk_drewN ?_ _ | refine blk_drew ?_ | refine blk_alloc ?_ _)); refine blk_put (cs := #[.int .u64 ((rd_T30 l1 x7_2).f0), .int .u64 0, .int .u64 0, .bool false]) ?_ 1 _ rfl; (with_reducible repeat (first | refine blk_drewN ?_ _ | refine blk_drew ?_ | refine blk_alloc ?_ _)); refine blk_put (cs := #[.int .u64 0, .int .u64 0, .int .u64 0, .bool false]) ?_ 0 _ rfl; (with_reducible repeat (first | refine blk_drewN ?_ _ | refine blk_drew ?_ | refine blk_alloc ?_ _)); exact BK115.out) hb); have n1_ := Aside0.mk (below_step (by repeat (first | (with_reducible first | exact HB.out | apply below_alloc | apply pw_below_drewN | apply below_drew1 | refine below_set ?_ GE115.out) | exact HB.out)) hb); have n2_ := Aside0.mk (hbox); have n3_ := Aside0.mk ((by rw [hg]; exact (below_size (by repeat (first | (with_reducible first | exact HB.out | apply below_alloc | apply pw_below_drewN | apply below_drew1 | refine below_set ?_ GE115.out) | exact HB.out))) : w.heap.size ≤ gb116)); have n4_ := Aside0.mk ((by rw [hg]; exact (below_size (by repeat (first | (with_reducible first | exact HB.out | apply below_alloc | apply pw_below_drewN | apply below_drew1 | refine below_set ?_ GE115.out) | exact HB.out))) : w.heap.size ≤ gb116)); have n5_ := Aside0.mk ((by rw [hg]; exact Nat.ne_of_lt (blk_lt (g := gb115) (o := .cells #[.int .u64 ((rd_T30 l1 x7_2).f0), .int .u64 ((rd_T30 l1 x7_2).f1), .int .u64 ((rd_T30 l1 x7_2).f2), .bool ((rd_T30 l1 x7_2).f3)] 30 (0, 0)) (by (with_reducible repeat (first | refine blk_drewN ?_ _ | refine blk_drew ?_ | refine blk_alloc ?_ _)); refine blk_put (cs := #[.int .u64 ((rd_T30 l1 x7_2).f0), .int .u64 ((rd_T30 l1 x7_2).f1), .int .u64 ((rd_T30 l1 x7_2).f2), .bool false]) ?_ 3 _ rfl; (with_reducible repeat (first | refine blk_drewN ?_ _ | refine blk_drew ?_ | refine blk_alloc ?_ _)); refine blk_put (cs := #[.int .u64 ((rd_T30 l1 x7_2).f0), .int .u64 ((rd_T30 l1 x7_2).f1), .int .u64 0, .bool false]) ?_ 2 _ rfl; (with_reducible repeat (first | refine blk_drewN ?_ _ | refine blk_drew ?_ | refine blk_alloc ?_ _)); refine blk_put (cs := #[.int .u64 ((rd_T30 l1 x7_2).f0), .int .u64 0, .int .u64 0, .bool false]) ?_ 1 _ rfl; (with_reducible repeat (first | refine blk_drewN ?_ _ | refine blk_drew ?_ | refine blk_alloc ?_ _)); refine blk_put (cs := #[.int .u64 0, .int .u64 0, .int .u64 0, .bool false]) ?_ 0 _ rfl; (with_reducible repeat (first | refine blk_drewN ?_ _ | refine blk_drew ?_ | refine blk_alloc ?_ _)); exact BK115.out)) : gb115 ≠ gb116)); have n6_ := Aside0.mk ((by rw [hg]; exact Nat.ne_of_gt (blk_lt (g := gb115) (o := .cells #[.int .u64 ((rd_T30 l1 x7_2).f0), .int .u64 ((rd_T30 l1 x7_2).f1), .int .u64 ((rd_T30 l1 x7_2).f2), .bool ((rd_T30 l1 x7_2).f3)] 30 (0, 0)) (by (with_reducible repeat (first | refine blk_drewN ?_ _ | refine blk_drew ?_ | refine blk_alloc ?_ _)); refine blk_put (cs := #[.int .u64 ((rd_T30 l1 x7_2).f0), .int .u64 ((rd_T30 l1 x7_2).f1), .int .u64 ((rd_T30 l1 x7_2).f2), .bool false]) ?_ 3 _ rfl; (with_reducible repeat (first | refine blk_drewN ?_ _ | refine blk_drew ?_ | refine blk_alloc ?_ _)); refine blk_put (cs := #[.int .u64 ((rd_T30 l1 x7_2).f0), .int .u64 ((rd_T30 l1 x7_2).f1), .int .u64 0, .bool false]) ?_ 2 _ rfl; (with_reducible repeat (first | refine blk_drewN ?_ _ | refine blk_drew ?_ | refine blk_alloc ?_ _)); refine blk_put (cs := #[.int .u64 ((rd_T30 l1 x7_2).f0), .int .u64 0, .int .u64 0, .bool false]) ?_ 1 _ rfl; (with_reducible repeat (first | refine blk_drewN ?_ _ | refine blk_drew ?_ | refine blk_alloc ?_ _)); refine blk_put (cs := #[.int .u64 0, .int .u64 0, .int .u64 0, .bool false]) ?_ 0 _ rfl; (with_reducible repeat (first | refine blk_drewN ?_ _ | refine blk_drew ?_ | refine blk_alloc ?_ _)); exact BK115.out)) : gb116 ≠ gb115)); clear BK115; clear HB; have BK115 := n0_; have HB := n1_; have BK116 := n2_; have GW116 := n3_; have GE116 := n4_; have NB115_116 := n5_; have NB116_115 := n6_; clear n0_ n1_ n2_ n3_ n4_ n5_ n6_; clear hb hbox hg; have hnb23 := NB116_115.out; have hnc23 := NB115_116.out; have hcz24_0 : w22.cell? ⟨gb116, 0, none⟩ = some (.bool false) := (blk_cell BK116.out 0).trans rfl; have hcz24_1 : w22.cell? ⟨gb116, 1, none⟩ = some (.bool false) := (blk_cell BK116.out 1).trans rfl; have hcz24_2 : w22.cell? ⟨gb116, 2, none⟩ = some (.int .u64 0) := (blk_cell BK116.out 2).trans rfl; have hcz24_3 : w22.cell? ⟨gb116, 3, none⟩ = some (.int .u64 0) := (blk_cell BK116.out 3).trans rfl; have hcz24_4 : w22.cell? ⟨gb116, 4, none⟩ = some (.int .u64 0) := (blk_cell BK116.out 4).trans rfl; have hcz24_5 : w22.cell? ⟨gb116, 5, none⟩ = some (.int .u64 0) := (blk_cell BK116.out 5).trans rfl; have hcz24_6 : w22.cell? ⟨gb116, 6, none⟩ = some (.int .i64 0) := (blk_cell BK116.out 6).trans rfl; have hcz24_7 : w22.cell? ⟨gb116, 7, none⟩ = some (.int .i64 0) := (blk_cell BK116.out 7).trans rfl; have hfz24_0 := blk_frozen BK116.out 0; have hfz24_1 := blk_frozen BK116.out 1; have hfz24_2 := blk_frozen BK116.out 2; have hfz24_3 := blk_frozen BK116.out 3; have hfz24_4 := blk_frozen BK116.out 4; have hfz24_5 := blk_frozen BK116.out 5; have hfz24_6 := blk_frozen BK116.out 6; have hfz24_7 := blk_frozen BK116.out 7) | ((with_reducible refine gate_callee (f := 4) rfl ?_); refine goesL_ (some 42) rfl rfl Try.func4 (by kernel_rfl) rfl #[.agg #[.bool false, .bool false, .int .u64 ((rd_T30 l1 x7_2).f0), .int .u64 ((rd_T30 l1 x7_2).f1), .int .u64 0, .int .u64 x5_2, .int .i64 1, .int .i64 15]] rfl (by (try simp only [List.map_toArray, List.map_cons, List.map_nil]); first | done | rfl | (simp only [List.length_drop, List.length_take]; rfl)) ?_; (with_reducible refine (gate_Decide.calls kj10 false false ((rd_T30 l1 x7_2).f0) ((rd_T30 l1 x7_2).f1) 0 x5_2 1 15 t117 _ A16.out).mono ?_); rintro e w25 ⟨rfl, hb⟩; refine ⟨_, rfl, ?_⟩; have n0_ := Aside0.mk (blk_below (g := gb115) (o := .cells #[.int .u64 ((rd_T30 l1 x7_2).f0), .int .u64 ((rd_T30 l1 x7_2).f1), .int .u64 ((rd_T30 l1 x7_2).f2), .bool ((rd_T30 l1 x7_2).f3)] 30 (0, 0)) (by (with_reducible repeat (first | refine blk_drewN ?_ _ | refine blk_drew ?_ | refine blk_alloc ?_ _)); refine blk_far ?_ NB115_116.out _; (with_reducible repeat (first | refine blk_drewN ?_ _ | refine blk_drew ?_ | refine blk_alloc ?_ _)); refine blk_far ?_ NB115_116.out _; (with_reducible repeat (first | refine blk_drewN ?_ _ | refine blk_drew ?_ | refine blk_alloc ?_ _)); refine blk_far ?_ NB115_116.out _; (with_reducible repeat (first | refine blk_drewN ?_ _ | refine blk_drew ?_ | refine blk_alloc ?_ _)); refine blk_far ?_ NB115_116.out _; (with_reducible repeat (first | refine blk_drewN ?_ _ | refine blk_drew ?_ | refine blk_alloc ?_ _)); refine blk_far ?_ NB115_116.out _; (with_reducible repeat (first | refine blk_drewN ?_ _ | refine blk_drew ?_ | refine blk_alloc ?_ _)); refine blk_far ?_ NB115_116.out _; (with_reducible repeat (first | refine blk_drewN ?_ _ | refine blk_drew ?_ | refine blk_alloc ?_ _)); refine blk_far ?_ NB115_116.out _; (with_reducible repeat (first | refine blk_drewN ?_ _ | refine blk_drew ?_ | refine blk_alloc ?_ _)); refine blk_far ?_ NB115_116.out _; (with_reducible repeat (first | refine blk_drewN ?_ _ | refine blk_drew ?_ | refine blk_alloc ?_ _)); exact BK115.out) hb); have n1_ := Aside0.mk (blk_below (g := gb116) (o := .cells #[.bool false, .bool false, .int .u64 ((rd_T30 l1 x7_2).f0), .int .u64 ((rd_T30 l1 x7_2).f1), .int .u64 0, .int .u64 x5_2, .int .i64 1, .int .i64 15] 28 (0, 0)) (by (with_reducible repeat (first | refine blk_drewN ?_ _ | refine blk_drew ?_ | refine blk_alloc ?_ _)); refine blk_put (cs := #[.bool false, .bool false, .int .u64 ((rd_T30 l1 x7_2).f0), .int .u64 ((rd_T30 l1 x7_2).f1), .int .u64 0, .int .u64 x5_2, .int .i64 1, .int .i64 0]) ?_ 7 _ rfl; (with_reducible repeat (first | refine blk_drewN ?_ _ | refine blk_drew ?_ | refine blk_alloc ?_ _)); refine blk_put (cs := #[.bool false, .bool false, .int .u64 ((rd_T30 l1 x7_2).f0), .int .u64 ((rd_T30 l1 x7_2).f1), .int .u64 0, .int .u64 x5_2, .int .i64 0, .int .i64 0]) ?_ 6 _ rfl; (with_reducible repeat (first | refine blk_drewN ?_ _ | refine blk_drew ?_ | refine blk_alloc ?_ _)); refine blk_put (cs := #[.bool false, .bool false, .int .u64 ((rd_T30 l1 x7_2).f0), .int .u64 ((rd_T30 l1 x7_2).f1), .int .u64 0, .int .u64 0, .int .i64 0, .int .i64 0]) ?_ 5 _ rfl; (with_reducible repeat (first | refine blk_drewN ?_ _ | refine blk_drew ?_ | refine blk_alloc ?_ _)); refine blk_put (cs := #[.bool false, .bool false, .int .u64 ((rd_T30 l1 x7_2).f0), .int .u64 ((rd_T30 l1 x7_2).f1), .int .u64 0, .int .u64 0, .int .i64 0, .int .i64 0]) ?_ 4 _ rfl; (with_reducible repeat (first | refine blk_drewN ?_ _ | refine blk_drew ?_ | refine blk_alloc ?_ _)); refine blk_put (cs := #[.bool false, .bool false, .int .u64 ((rd_T30 l1 x7_2).f0), .int .u64 0, .int .u64 0, .int .u64 0, .int .i64 0, .int .i64 0]) ?_ 3 _ rfl; (with_reducible repeat (first | refine blk_drewN ?_ _ | refine blk_drew ?_ | refine blk_alloc ?_ _)); refine blk_put (cs := #[.bool false, .bool false, .int .u64 0, .int .u64 0, .int .u64 0, .int .u64 0, .int .i64 0, .int .i64 0]) ?_ 2 _ rfl; (with_reducible repeat (first | refine blk_drewN ?_ _ | refine blk_drew ?_ | refine blk_alloc ?_ _)); refine blk_put (cs := #[.bool false, .bool false, .int .u64 0, .int .u64 0, .int .u64 0, .int .u64 0, .int .i64 0, .int .i64 0]) ?_ 1 _ rfl; (with_reducible repeat (first | refine blk_drewN ?_ _ | refine blk_drew ?_ | refine blk_alloc ?_ _)); refine blk_put (cs := #[.bool false, .bool false, .int .u64 0, .int .u64 0, .int .u64 0, .int .u64 0, .int .i64 0, .int .i64 0]) ?_ 0 _ rfl; (with_reducible repeat (first | refine blk_drewN ?_ _ | refine blk_drew ?_ | refine blk_alloc ?_ _)); exact BK116.out) hb); have n2_ := Aside0.mk (below_step (by repeat (first | (with_reducible first | exact HB.out | apply below_alloc | apply pw_below_drewN | apply below_drew1 | refine below_set ?_ GE115.out | refine below_set ?_ GE116.out) | exact HB.out)) hb); clear BK115; clear BK116; clear HB; have BK115 := n0_; have BK116 := n1_; have HB := n2_; clear n0_ n1_ n2_; (try clear hb); (try clear hb2); (try clear hk); (try clear hi)))
                        have n0_ := Aside0.mk (blk_drew BK115.out)
                        have n1_ := Aside0.mk (blk_drew BK116.out)
                        have n2_ := Aside0.mk (below_drew1 HB.out)
                        clear BK115
                        clear BK116
                        clear HB
                        have BK115 := n0_
                        have BK116 := n1_
                        have HB := n2_
                        clear n0_ n1_ n2_
                        refine start_ (n := 11) (S := fun w' => w'.cell? ⟨gb115, 0, none⟩ = some (.int .u64 ((rd_T30 l1 x7_2).f0)) ∧ w'.cell? ⟨gb115, 1, none⟩ = some (.int .u64 ((rd_T30 l1 x7_2).f1)) ∧ w'.cell? ⟨gb115, 2, none⟩ = some (.int .u64 ((rd_T30 l1 x7_2).f2)) ∧ w'.cell? ⟨gb115, 3, none⟩ = some (.bool ((rd_T30 l1 x7_2).f3)) ∧ w'.cell? ⟨gb116, 0, none⟩ = some (.bool false) ∧ w'.cell? ⟨gb116, 1, none⟩ = some (.bool false) ∧ w'.cell? ⟨gb116, 2, none⟩ = some (.int .u64 ((rd_T30 l1 x7_2).f0)) ∧ w'.cell? ⟨gb116, 3, none⟩ = some (.int .u64 ((rd_T30 l1 x7_2).f1)) ∧ w'.cell? ⟨gb116, 4, none⟩ = some (.int .u64 0) ∧ w'.cell? ⟨gb116, 5, none⟩ = some (.int .u64 x5_2) ∧ w'.cell? ⟨gb116, 6, none⟩ = some (.int .i64 1) ∧ w'.cell? ⟨gb116, 7, none⟩ = some (.int .i64 15)) (ds := []) #[false, false, false, false, false, false, false, false, false, false, false] (by kernel_rfl) rfl rfl ⟨(blk_cell BK115.out 0).trans rfl, (blk_cell BK115.out 1).trans rfl, (blk_cell BK115.out 2).trans rfl, (blk_cell BK115.out 3).trans rfl, (blk_cell BK116.out 0).trans rfl, (blk_cell BK116.out 1).trans rfl, (blk_cell BK116.out 2).trans rfl, (blk_cell BK116.out 3).trans rfl, (blk_cell BK116.out 4).trans rfl, (blk_cell BK116.out 5).trans rfl, (blk_cell BK116.out 6).trans rfl, (blk_cell BK116.out 7).trans rfl⟩ (fun hHeld => ?_); refine with_tabW bureautop_WholeChains.tab10 bureautop_WholeChains.bits10 (fun HT_ HW_ => ?_)
                        generalize w25.drew = w26 at BK115 BK116 HB hHeld ⊢
                        refine pure_ (i := 0) (N := some 44) (v := ?_) (a' := ?_) #[true, false, false, false, false, false, false, false, false, false, false] rfl rfl (any_of HT_.out (by kernel_rfl)) (fun _ _ _ h => h) (Or.inl ⟨by rfl, ?_⟩) ?_ ?_
                        rotate_left
                        · intro w'
                          go_simp
                          with_reducible rfl
                        rotate_left
                        · simp only [Act.put, List.setIfInBounds_toArray, List.set_cons_zero, List.set_cons_succ, i64_w, i32_w]
                          rfl
                        refine pure_ (i := 2) (N := some 46) (v := ?_) (a' := ?_) #[true, false, true, false, false, false, false, false, false, false, false] rfl rfl (any_of HT_.out (by kernel_rfl)) (fun _ _ _ h => h) (Or.inl ⟨by rfl, ?_⟩) ?_ ?_
                        rotate_left
                        · intro w'
                          go_simp
                          with_reducible rfl
                        rotate_left
                        · simp only [Act.put, List.setIfInBounds_toArray, List.set_cons_zero, List.set_cons_succ, i64_w, i32_w]
                          rfl
                        refine pure_ (i := 6) (N := some 50) (v := ?_) (a' := ?_) #[true, false, true, false, false, false, true, false, false, false, false] rfl rfl (any_of HT_.out (by kernel_rfl)) (fun _ _ _ h => h) (Or.inl ⟨by rfl, ?_⟩) ?_ ?_
                        rotate_left
                        · intro w'
                          go_simp
                          with_reducible rfl
                        rotate_left
                        · simp only [Act.put, List.setIfInBounds_toArray, List.set_cons_zero, List.set_cons_succ, i64_w, i32_w]
                          rfl
                        refine take_ (i := 1) (N := some 45) (v := ?_) (a' := ?_) #[true, true, true, false, false, false, true, false, false, false, false] rfl rfl (take_ofW HT_.out HW_.out (by kernel_rfl)) (fun _ _ _ h => h) (Or.inl ⟨by rfl, ?_⟩) hHeld ?_ ?_
                        rotate_left
                        · rintro w' ⟨s0, s1, s2, s3, s4, s5, s6, s7, s8, s9, s10, s11⟩
                          go_simp
                          with_reducible rfl
                        rotate_left
                        · simp only [Act.put, List.setIfInBounds_toArray, List.set_cons_zero, List.set_cons_succ, i64_w, i32_w]
                          rfl
                        refine take_ (i := 3) (N := some 47) (v := ?_) (a' := ?_) #[true, true, true, true, false, false, true, false, false, false, false] rfl rfl (take_ofW HT_.out HW_.out (by kernel_rfl)) (fun _ _ _ h => h) (Or.inl ⟨by rfl, ?_⟩) hHeld ?_ ?_
                        rotate_left
                        · rintro w' ⟨s0, s1, s2, s3, s4, s5, s6, s7, s8, s9, s10, s11⟩
                          go_simp
                          with_reducible rfl
                        rotate_left
                        · simp only [Act.put, List.setIfInBounds_toArray, List.set_cons_zero, List.set_cons_succ, i64_w, i32_w]
                          rfl
                        refine take_ (i := 4) (N := some 48) (v := ?_) (a' := ?_) #[true, true, true, true, true, false, true, false, false, false, false] rfl rfl (take_ofW HT_.out HW_.out (by kernel_rfl)) (fun _ _ _ h => h) (Or.inl ⟨by rfl, ?_⟩) hHeld ?_ ?_
                        rotate_left
                        · rintro w' ⟨s0, s1, s2, s3, s4, s5, s6, s7, s8, s9, s10, s11⟩
                          go_simp
                          with_reducible rfl
                        rotate_left
                        · simp only [Act.put, List.setIfInBounds_toArray, List.set_cons_zero, List.set_cons_succ, i64_w, i32_w]
                          rfl
                        refine take_ (i := 7) (N := some 51) (v := ?_) (a' := ?_) #[true, true, true, true, true, false, true, true, false, false, false] rfl rfl (take_ofW HT_.out HW_.out (by kernel_rfl)) (fun _ _ _ h => h) (Or.inl ⟨by rfl, ?_⟩) hHeld ?_ ?_
                        rotate_left
                        · rintro w' ⟨s0, s1, s2, s3, s4, s5, s6, s7, s8, s9, s10, s11⟩
                          go_simp
                          with_reducible rfl
                        rotate_left
                        · simp only [Act.put, List.setIfInBounds_toArray, List.set_cons_zero, List.set_cons_succ, i64_w, i32_w]
                          rfl
                        refine join_ (σ := Nat) 1 #[true, true, true, true, true, true, true, true, true, true, false] (fun s_ => [(49, .int .u64 t118), (10, .pointer (some ⟨s_, 0, none⟩)), (52, .agg #[.bool false, .bool false, .int .u64 ((rd_T30 l1 x7_2).f0), .int .u64 ((rd_T30 l1 x7_2).f1), .int .u64 t118, .int .u64 ((rd_T30 l1 x7_2).f2), .int .i64 2, .int .i64 15])]) (fun s_ w' => (w'.cell? ⟨gb115, 0, none⟩ = some (.int .u64 ((rd_T30 l1 x7_2).f0)) ∧ w'.cell? ⟨gb115, 1, none⟩ = some (.int .u64 ((rd_T30 l1 x7_2).f1)) ∧ w'.cell? ⟨gb115, 2, none⟩ = some (.int .u64 ((rd_T30 l1 x7_2).f2)) ∧ w'.cell? ⟨gb115, 3, none⟩ = some (.bool ((rd_T30 l1 x7_2).f3)) ∧ w'.cell? ⟨gb116, 0, none⟩ = some (.bool false) ∧ w'.cell? ⟨gb116, 1, none⟩ = some (.bool false) ∧ w'.cell? ⟨gb116, 2, none⟩ = some (.int .u64 ((rd_T30 l1 x7_2).f0)) ∧ w'.cell? ⟨gb116, 3, none⟩ = some (.int .u64 ((rd_T30 l1 x7_2).f1)) ∧ w'.cell? ⟨gb116, 4, none⟩ = some (.int .u64 0) ∧ w'.cell? ⟨gb116, 5, none⟩ = some (.int .u64 x5_2) ∧ w'.cell? ⟨gb116, 6, none⟩ = some (.int .i64 1) ∧ w'.cell? ⟨gb116, 7, none⟩ = some (.int .i64 15)) ∧ (w'.heap[gb115]? = some (.cells #[.int .u64 ((rd_T30 l1 x7_2).f0), .int .u64 ((rd_T30 l1 x7_2).f1), .int .u64 ((rd_T30 l1 x7_2).f2), .bool ((rd_T30 l1 x7_2).f3)] 30 (0, 0))) ∧ (w'.heap[gb116]? = some (.cells #[.bool false, .bool false, .int .u64 ((rd_T30 l1 x7_2).f0), .int .u64 ((rd_T30 l1 x7_2).f1), .int .u64 0, .int .u64 x5_2, .int .i64 1, .int .i64 15] 28 (0, 0))) ∧ (w'.heap[s_]? = some (.cells #[.bool false, .bool false, .int .u64 0, .int .u64 0, .int .u64 0, .int .u64 0, .int .i64 0, .int .i64 0] 28 (0, 0))) ∧ (w.heap.size ≤ s_) ∧ (w.heap.size ≤ s_) ∧ (gb115 ≠ s_) ∧ (s_ ≠ gb115) ∧ (gb116 ≠ s_) ∧ (s_ ≠ gb116) ∧ (Below w.heap.size w w')) ?_ ?_
                        rotate_left
                        · intro hCont
                          refine two_ (i := 5) (j := 9) (Ni := some 49) (Nj := some 10) #[true, true, true, true, true, true, true, true, false, false, false] #[true, true, true, true, true, false, true, true, false, true, false] rfl rfl rfl rfl (two_of HT_.out (by kernel_rfl)) (by decide) (by decide) (fun K hK => ?_) (fun K hK => ?_)
                          · skip
                            refine goes_ Try.func5 (by kernel_rfl) rfl #[.agg #[.bool false, .bool false, .int .u64 ((rd_T30 l1 x7_2).f0), .int .u64 ((rd_T30 l1 x7_2).f1), .int .u64 0, .int .u64 x5_2, .int .i64 1, .int .i64 15]] (by rfl) rfl rfl (by (try simp only [List.map_toArray, List.map_cons, List.map_nil]); first | done | rfl | (simp only [List.length_drop, List.length_take]; rfl)) ?_
                            with_reducible refine (gate_Taint.calls kj10 false false ((rd_T30 l1 x7_2).f0) ((rd_T30 l1 x7_2).f1) 0 x5_2 1 15 t118 _ A18.out).mono ?_
                            rintro e w27 ⟨rfl, hb⟩
                            refine ⟨_, rfl, ?_⟩
                            have n0_ := Aside0.mk (blk_below (g := gb115) (o := .cells #[.int .u64 ((rd_T30 l1 x7_2).f0), .int .u64 ((rd_T30 l1 x7_2).f1), .int .u64 ((rd_T30 l1 x7_2).f2), .bool ((rd_T30 l1 x7_2).f3)] 30 (0, 0)) (by (with_reducible repeat (first | refine blk_drewN ?_ _ | refine blk_drew ?_ | refine blk_alloc ?_ _)); exact BK115.out) hb)
                            have n1_ := Aside0.mk (blk_below (g := gb116) (o := .cells #[.bool false, .bool false, .int .u64 ((rd_T30 l1 x7_2).f0), .int .u64 ((rd_T30 l1 x7_2).f1), .int .u64 0, .int .u64 x5_2, .int .i64 1, .int .i64 15] 28 (0, 0)) (by (with_reducible repeat (first | refine blk_drewN ?_ _ | refine blk_drew ?_ | refine blk_alloc ?_ _)); exact BK116.out) hb)
                            have n2_ := Aside0.mk (below_step (by repeat (first | (with_reducible first | exact HB.out | apply below_alloc | apply pw_below_drewN | apply below_drew1 | refine below_set ?_ GE115.out | refine below_set ?_ GE116.out) | exact HB.out)) hb)
                            clear BK115
                            clear BK116
                            clear HB
                            have BK115 := n0_
                            have BK116 := n1_
                            have HB := n2_
                            clear n0_ n1_ n2_
                            (try clear hb)
                            (try clear hb2)
                            (try clear hk)
                            (try clear hi)
                            refine hK.out _ _ ⟨(blk_cell BK115.out 0).trans rfl, (blk_cell BK115.out 1).trans rfl, (blk_cell BK115.out 2).trans rfl, (blk_cell BK115.out 3).trans rfl, (blk_cell BK116.out 0).trans rfl, (blk_cell BK116.out 1).trans rfl, (blk_cell BK116.out 2).trans rfl, (blk_cell BK116.out 3).trans rfl, (blk_cell BK116.out 4).trans rfl, (blk_cell BK116.out 5).trans rfl, (blk_cell BK116.out 6).trans rfl, (blk_cell BK116.out 7).trans rfl⟩ (fun hHeld => ?_)
                            clear hK K
                            refine norm_ (a' := ?_) ?_ ?_
                            rotate_left
                            · show Act.put _ (some 49) _ = _
                              simp only [Act.put, List.setIfInBounds_toArray, List.set_cons_zero, List.set_cons_succ, i64_w, i32_w]
                              rfl
                            refine pure_ (i := 8) (N := some 52) (v := ?_) (a' := ?_) #[true, true, true, true, true, true, true, true, true, false, false] rfl rfl (any_of HT_.out (by kernel_rfl)) (fun _ _ _ h => h) (Or.inl ⟨by rfl, ?_⟩) ?_ ?_
                            rotate_left
                            · intro w'
                              go_simp
                              with_reducible rfl
                            rotate_left
                            · simp only [Act.put, List.setIfInBounds_toArray, List.set_cons_zero, List.set_cons_succ, i64_w, i32_w]
                              rfl
                            refine one_ (i := 9) (N := some 10) #[true, true, true, true, true, true, true, true, true, true, false] rfl rfl (one_of HT_.out (by kernel_rfl)) (by decide) (fun K hK => ?_)
                            refine box_step ?hg (N := 10) ?hd (cs := #[.bool false, .bool false, .int .u64 0, .int .u64 0, .int .u64 0, .int .u64 0, .int .i64 0, .int .i64 0]) (t := 28) ?hr ?_; (case hd => rfl); (case hg => rfl); (case hr => first | (go_simp; done) | (go_simp; rfl))
                            intro gb119 hg w28 hbox hb
                            have n0_ := Aside0.mk (blk_below (g := gb115) (o := .cells #[.int .u64 ((rd_T30 l1 x7_2).f0), .int .u64 ((rd_T30 l1 x7_2).f1), .int .u64 ((rd_T30 l1 x7_2).f2), .bool ((rd_T30 l1 x7_2).f3)] 30 (0, 0)) (by (with_reducible repeat (first | refine blk_drewN ?_ _ | refine blk_drew ?_ | refine blk_alloc ?_ _)); exact BK115.out) hb)
                            have n1_ := Aside0.mk (blk_below (g := gb116) (o := .cells #[.bool false, .bool false, .int .u64 ((rd_T30 l1 x7_2).f0), .int .u64 ((rd_T30 l1 x7_2).f1), .int .u64 0, .int .u64 x5_2, .int .i64 1, .int .i64 15] 28 (0, 0)) (by (with_reducible repeat (first | refine blk_drewN ?_ _ | refine blk_drew ?_ | refine blk_alloc ?_ _)); exact BK116.out) hb)
                            have n2_ := Aside0.mk (below_step (by repeat (first | (with_reducible first | exact HB.out | apply below_alloc | apply pw_below_drewN | apply below_drew1 | refine below_set ?_ GE115.out | refine below_set ?_ GE116.out) | exact HB.out)) hb)
                            have n3_ := Aside0.mk (hbox)
                            have n4_ := Aside0.mk ((by rw [hg]; exact (below_size (by repeat (first | (with_reducible first | exact HB.out | apply below_alloc | apply pw_below_drewN | apply below_drew1 | refine below_set ?_ GE115.out | refine below_set ?_ GE116.out) | exact HB.out))) : w.heap.size ≤ gb119))
                            have n5_ := Aside0.mk ((by rw [hg]; exact (below_size (by repeat (first | (with_reducible first | exact HB.out | apply below_alloc | apply pw_below_drewN | apply below_drew1 | refine below_set ?_ GE115.out | refine below_set ?_ GE116.out) | exact HB.out))) : w.heap.size ≤ gb119))
                            have n6_ := Aside0.mk ((by rw [hg]; exact Nat.ne_of_lt (blk_lt (g := gb115) (o := .cells #[.int .u64 ((rd_T30 l1 x7_2).f0), .int .u64 ((rd_T30 l1 x7_2).f1), .int .u64 ((rd_T30 l1 x7_2).f2), .bool ((rd_T30 l1 x7_2).f3)] 30 (0, 0)) (by (with_reducible repeat (first | refine blk_drewN ?_ _ | refine blk_drew ?_ | refine blk_alloc ?_ _)); exact BK115.out)) : gb115 ≠ gb119))
                            have n7_ := Aside0.mk ((by rw [hg]; exact Nat.ne_of_gt (blk_lt (g := gb115) (o := .cells #[.int .u64 ((rd_T30 l1 x7_2).f0), .int .u64 ((rd_T30 l1 x7_2).f1), .int .u64 ((rd_T30 l1 x7_2).f2), .bool ((rd_T30 l1 x7_2).f3)] 30 (0, 0)) (by (with_reducible repeat (first | refine blk_drewN ?_ _ | refine blk_drew ?_ | refine blk_alloc ?_ _)); exact BK115.out)) : gb119 ≠ gb115))
                            have n8_ := Aside0.mk ((by rw [hg]; exact Nat.ne_of_lt (blk_lt (g := gb116) (o := .cells #[.bool false, .bool false, .int .u64 ((rd_T30 l1 x7_2).f0), .int .u64 ((rd_T30 l1 x7_2).f1), .int .u64 0, .int .u64 x5_2, .int .i64 1, .int .i64 15] 28 (0, 0)) (by (with_reducible repeat (first | refine blk_drewN ?_ _ | refine blk_drew ?_ | refine blk_alloc ?_ _)); exact BK116.out)) : gb116 ≠ gb119))
                            have n9_ := Aside0.mk ((by rw [hg]; exact Nat.ne_of_gt (blk_lt (g := gb116) (o := .cells #[.bool false, .bool false, .int .u64 ((rd_T30 l1 x7_2).f0), .int .u64 ((rd_T30 l1 x7_2).f1), .int .u64 0, .int .u64 x5_2, .int .i64 1, .int .i64 15] 28 (0, 0)) (by (with_reducible repeat (first | refine blk_drewN ?_ _ | refine blk_drew ?_ | refine blk_alloc ?_ _)); exact BK116.out)) : gb119 ≠ gb116))
                            clear BK115
                            clear BK116
                            clear HB
                            have BK115 := n0_
                            have BK116 := n1_
                            have HB := n2_
                            have BK119 := n3_
                            have GW119 := n4_
                            have GE119 := n5_
                            have NB115_119 := n6_
                            have NB119_115 := n7_
                            have NB116_119 := n8_
                            have NB119_116 := n9_
                            clear n0_ n1_ n2_ n3_ n4_ n5_ n6_ n7_ n8_ n9_
                            clear hb hbox hg
                            refine hK.out _ _ ⟨(blk_cell BK115.out 0).trans rfl, (blk_cell BK115.out 1).trans rfl, (blk_cell BK115.out 2).trans rfl, (blk_cell BK115.out 3).trans rfl, (blk_cell BK116.out 0).trans rfl, (blk_cell BK116.out 1).trans rfl, (blk_cell BK116.out 2).trans rfl, (blk_cell BK116.out 3).trans rfl, (blk_cell BK116.out 4).trans rfl, (blk_cell BK116.out 5).trans rfl, (blk_cell BK116.out 6).trans rfl, (blk_cell BK116.out 7).trans rfl⟩ (fun hHeld => ?_)
                            clear hK K
                            refine norm_ (a' := ?_) ?_ ?_
                            rotate_left
                            · show Act.put _ (some 10) _ = _
                              simp only [Act.put, List.setIfInBounds_toArray, List.set_cons_zero, List.set_cons_succ, i64_w, i32_w]
                              rfl
                            exact norm_ (by simp only [putAll, Act.put, List.setIfInBounds_toArray, List.set_cons_zero, List.set_cons_succ]) (hCont (gb119) _ ⟨hHeld, (by (with_reducible repeat (first | refine blk_drewN ?_ _ | refine blk_drew ?_ | refine blk_alloc ?_ _)); exact BK115.out), (by (with_reducible repeat (first | refine blk_drewN ?_ _ | refine blk_drew ?_ | refine blk_alloc ?_ _)); exact BK116.out), (by (with_reducible repeat (first | refine blk_drewN ?_ _ | refine blk_drew ?_ | refine blk_alloc ?_ _)); exact BK119.out), GW119.out, GE119.out, NB115_119.out, NB119_115.out, NB116_119.out, NB119_116.out, (by repeat (first | (with_reducible first | exact HB.out | apply below_alloc | apply pw_below_drewN | apply below_drew1 | refine below_set ?_ GE115.out | refine below_set ?_ GE116.out | refine below_set ?_ GE119.out) | exact HB.out))⟩)
                          · skip
                            refine box_step ?hg (N := 10) ?hd (cs := #[.bool false, .bool false, .int .u64 0, .int .u64 0, .int .u64 0, .int .u64 0, .int .i64 0, .int .i64 0]) (t := 28) ?hr ?_; (case hd => rfl); (case hg => rfl); (case hr => first | (go_simp; done) | (go_simp; rfl))
                            intro gb119 hg w27 hbox hb
                            have n0_ := Aside0.mk (blk_below (g := gb115) (o := .cells #[.int .u64 ((rd_T30 l1 x7_2).f0), .int .u64 ((rd_T30 l1 x7_2).f1), .int .u64 ((rd_T30 l1 x7_2).f2), .bool ((rd_T30 l1 x7_2).f3)] 30 (0, 0)) (by (with_reducible repeat (first | refine blk_drewN ?_ _ | refine blk_drew ?_ | refine blk_alloc ?_ _)); exact BK115.out) hb)
                            have n1_ := Aside0.mk (blk_below (g := gb116) (o := .cells #[.bool false, .bool false, .int .u64 ((rd_T30 l1 x7_2).f0), .int .u64 ((rd_T30 l1 x7_2).f1), .int .u64 0, .int .u64 x5_2, .int .i64 1, .int .i64 15] 28 (0, 0)) (by (with_reducible repeat (first | refine blk_drewN ?_ _ | refine blk_drew ?_ | refine blk_alloc ?_ _)); exact BK116.out) hb)
                            have n2_ := Aside0.mk (below_step (by repeat (first | (with_reducible first | exact HB.out | apply below_alloc | apply pw_below_drewN | apply below_drew1 | refine below_set ?_ GE115.out | refine below_set ?_ GE116.out) | exact HB.out)) hb)
                            have n3_ := Aside0.mk (hbox)
                            have n4_ := Aside0.mk ((by rw [hg]; exact (below_size (by repeat (first | (with_reducible first | exact HB.out | apply below_alloc | apply pw_below_drewN | apply below_drew1 | refine below_set ?_ GE115.out | refine below_set ?_ GE116.out) | exact HB.out))) : w.heap.size ≤ gb119))
                            have n5_ := Aside0.mk ((by rw [hg]; exact (below_size (by repeat (first | (with_reducible first | exact HB.out | apply below_alloc | apply pw_below_drewN | apply below_drew1 | refine below_set ?_ GE115.out | refine below_set ?_ GE116.out) | exact HB.out))) : w.heap.size ≤ gb119))
                            have n6_ := Aside0.mk ((by rw [hg]; exact Nat.ne_of_lt (blk_lt (g := gb115) (o := .cells #[.int .u64 ((rd_T30 l1 x7_2).f0), .int .u64 ((rd_T30 l1 x7_2).f1), .int .u64 ((rd_T30 l1 x7_2).f2), .bool ((rd_T30 l1 x7_2).f3)] 30 (0, 0)) (by (with_reducible repeat (first | refine blk_drewN ?_ _ | refine blk_drew ?_ | refine blk_alloc ?_ _)); exact BK115.out)) : gb115 ≠ gb119))
                            have n7_ := Aside0.mk ((by rw [hg]; exact Nat.ne_of_gt (blk_lt (g := gb115) (o := .cells #[.int .u64 ((rd_T30 l1 x7_2).f0), .int .u64 ((rd_T30 l1 x7_2).f1), .int .u64 ((rd_T30 l1 x7_2).f2), .bool ((rd_T30 l1 x7_2).f3)] 30 (0, 0)) (by (with_reducible repeat (first | refine blk_drewN ?_ _ | refine blk_drew ?_ | refine blk_alloc ?_ _)); exact BK115.out)) : gb119 ≠ gb115))
                            have n8_ := Aside0.mk ((by rw [hg]; exact Nat.ne_of_lt (blk_lt (g := gb116) (o := .cells #[.bool false, .bool false, .int .u64 ((rd_T30 l1 x7_2).f0), .int .u64 ((rd_T30 l1 x7_2).f1), .int .u64 0, .int .u64 x5_2, .int .i64 1, .int .i64 15] 28 (0, 0)) (by (with_reducible repeat (first | refine blk_drewN ?_ _ | refine blk_drew ?_ | refine blk_alloc ?_ _)); exact BK116.out)) : gb116 ≠ gb119))
                            have n9_ := Aside0.mk ((by rw [hg]; exact Nat.ne_of_gt (blk_lt (g := gb116) (o := .cells #[.bool false, .bool false, .int .u64 ((rd_T30 l1 x7_2).f0), .int .u64 ((rd_T30 l1 x7_2).f1), .int .u64 0, .int .u64 x5_2, .int .i64 1, .int .i64 15] 28 (0, 0)) (by (with_reducible repeat (first | refine blk_drewN ?_ _ | refine blk_drew ?_ | refine blk_alloc ?_ _)); exact BK116.out)) : gb119 ≠ gb116))
                            clear BK115
                            clear BK116
                            clear HB
                            have BK115 := n0_
                            have BK116 := n1_
                            have HB := n2_
                            have BK119 := n3_
                            have GW119 := n4_
                            have GE119 := n5_
                            have NB115_119 := n6_
                            have NB119_115 := n7_
                            have NB116_119 := n8_
                            have NB119_116 := n9_
                            clear n0_ n1_ n2_ n3_ n4_ n5_ n6_ n7_ n8_ n9_
                            clear hb hbox hg
                            refine hK.out _ _ ⟨(blk_cell BK115.out 0).trans rfl, (blk_cell BK115.out 1).trans rfl, (blk_cell BK115.out 2).trans rfl, (blk_cell BK115.out 3).trans rfl, (blk_cell BK116.out 0).trans rfl, (blk_cell BK116.out 1).trans rfl, (blk_cell BK116.out 2).trans rfl, (blk_cell BK116.out 3).trans rfl, (blk_cell BK116.out 4).trans rfl, (blk_cell BK116.out 5).trans rfl, (blk_cell BK116.out 6).trans rfl, (blk_cell BK116.out 7).trans rfl⟩ (fun hHeld => ?_)
                            clear hK K
                            refine norm_ (a' := ?_) ?_ ?_
                            rotate_left
                            · show Act.put _ (some 10) _ = _
                              simp only [Act.put, List.setIfInBounds_toArray, List.set_cons_zero, List.set_cons_succ, i64_w, i32_w]
                              rfl
                            refine one_ (i := 5) (N := some 49) #[true, true, true, true, true, true, true, true, false, true, false] rfl rfl (one_of HT_.out (by kernel_rfl)) (by decide) (fun K hK => ?_)
                            refine goes_ Try.func5 (by kernel_rfl) rfl #[.agg #[.bool false, .bool false, .int .u64 ((rd_T30 l1 x7_2).f0), .int .u64 ((rd_T30 l1 x7_2).f1), .int .u64 0, .int .u64 x5_2, .int .i64 1, .int .i64 15]] (by rfl) rfl rfl (by (try simp only [List.map_toArray, List.map_cons, List.map_nil]); first | done | rfl | (simp only [List.length_drop, List.length_take]; rfl)) ?_
                            with_reducible refine (gate_Taint.calls kj10 false false ((rd_T30 l1 x7_2).f0) ((rd_T30 l1 x7_2).f1) 0 x5_2 1 15 t118 _ A18.out).mono ?_
                            rintro e w28 ⟨rfl, hb⟩
                            refine ⟨_, rfl, ?_⟩
                            have n0_ := Aside0.mk (blk_below (g := gb115) (o := .cells #[.int .u64 ((rd_T30 l1 x7_2).f0), .int .u64 ((rd_T30 l1 x7_2).f1), .int .u64 ((rd_T30 l1 x7_2).f2), .bool ((rd_T30 l1 x7_2).f3)] 30 (0, 0)) (by (with_reducible repeat (first | refine blk_drewN ?_ _ | refine blk_drew ?_ | refine blk_alloc ?_ _)); exact BK115.out) hb)
                            have n1_ := Aside0.mk (blk_below (g := gb116) (o := .cells #[.bool false, .bool false, .int .u64 ((rd_T30 l1 x7_2).f0), .int .u64 ((rd_T30 l1 x7_2).f1), .int .u64 0, .int .u64 x5_2, .int .i64 1, .int .i64 15] 28 (0, 0)) (by (with_reducible repeat (first | refine blk_drewN ?_ _ | refine blk_drew ?_ | refine blk_alloc ?_ _)); exact BK116.out) hb)
                            have n2_ := Aside0.mk (blk_below (g := gb119) (o := .cells #[.bool false, .bool false, .int .u64 0, .int .u64 0, .int .u64 0, .int .u64 0, .int .i64 0, .int .i64 0] 28 (0, 0)) (by (with_reducible repeat (first | refine blk_drewN ?_ _ | refine blk_drew ?_ | refine blk_alloc ?_ _)); exact BK119.out) hb)
                            have n3_ := Aside0.mk (below_step (by repeat (first | (with_reducible first | exact HB.out | apply below_alloc | apply pw_below_drewN | apply below_drew1 | refine below_set ?_ GE115.out | refine below_set ?_ GE116.out | refine below_set ?_ GE119.out) | exact HB.out)) hb)
                            clear BK115
                            clear BK116
                            clear BK119
                            clear HB
                            have BK115 := n0_
                            have BK116 := n1_
                            have BK119 := n2_
                            have HB := n3_
                            clear n0_ n1_ n2_ n3_
                            (try clear hb)
                            (try clear hb2)
                            (try clear hk)
                            (try clear hi)
                            refine hK.out _ _ ⟨(blk_cell BK115.out 0).trans rfl, (blk_cell BK115.out 1).trans rfl, (blk_cell BK115.out 2).trans rfl, (blk_cell BK115.out 3).trans rfl, (blk_cell BK116.out 0).trans rfl, (blk_cell BK116.out 1).trans rfl, (blk_cell BK116.out 2).trans rfl, (blk_cell BK116.out 3).trans rfl, (blk_cell BK116.out 4).trans rfl, (blk_cell BK116.out 5).trans rfl, (blk_cell BK116.out 6).trans rfl, (blk_cell BK116.out 7).trans rfl⟩ (fun hHeld => ?_)
                            clear hK K
                            refine norm_ (a' := ?_) ?_ ?_
                            rotate_left
                            · show Act.put _ (some 49) _ = _
                              simp only [Act.put, List.setIfInBounds_toArray, List.set_cons_zero, List.set_cons_succ, i64_w, i32_w]
                              rfl
                            refine pure_ (i := 8) (N := some 52) (v := ?_) (a' := ?_) #[true, true, true, true, true, true, true, true, true, true, false] rfl rfl (any_of HT_.out (by kernel_rfl)) (fun _ _ _ h => h) (Or.inl ⟨by rfl, ?_⟩) ?_ ?_
                            rotate_left
                            · intro w'
                              go_simp
                              with_reducible rfl
                            rotate_left
                            · simp only [Act.put, List.setIfInBounds_toArray, List.set_cons_zero, List.set_cons_succ, i64_w, i32_w]
                              rfl
                            exact norm_ (by simp only [putAll, Act.put, List.setIfInBounds_toArray, List.set_cons_zero, List.set_cons_succ]) (hCont (gb119) _ ⟨hHeld, (by (with_reducible repeat (first | refine blk_drewN ?_ _ | refine blk_drew ?_ | refine blk_alloc ?_ _)); exact BK115.out), (by (with_reducible repeat (first | refine blk_drewN ?_ _ | refine blk_drew ?_ | refine blk_alloc ?_ _)); exact BK116.out), (by (with_reducible repeat (first | refine blk_drewN ?_ _ | refine blk_drew ?_ | refine blk_alloc ?_ _)); exact BK119.out), GW119.out, GE119.out, NB115_119.out, NB119_115.out, NB116_119.out, NB119_116.out, (by repeat (first | (with_reducible first | exact HB.out | apply below_alloc | apply pw_below_drewN | apply below_drew1 | refine below_set ?_ GE115.out | refine below_set ?_ GE116.out | refine below_set ?_ GE119.out) | exact HB.out))⟩)
                        rintro gb119 w29 ⟨hS_, h0_, h1_, h2_, h3_, h4_, h5_, h6_, h7_, h8_, h9_⟩
                        have n0_ : Aside0 (w29.heap[gb115]? = some (.cells #[.int .u64 ((rd_T30 l1 x7_2).f0), .int .u64 ((rd_T30 l1 x7_2).f1), .int .u64 ((rd_T30 l1 x7_2).f2), .bool ((rd_T30 l1 x7_2).f3)] 30 (0, 0))) := ⟨h0_⟩
                        have n1_ : Aside0 (w29.heap[gb116]? = some (.cells #[.bool false, .bool false, .int .u64 ((rd_T30 l1 x7_2).f0), .int .u64 ((rd_T30 l1 x7_2).f1), .int .u64 0, .int .u64 x5_2, .int .i64 1, .int .i64 15] 28 (0, 0))) := ⟨h1_⟩
                        have n2_ : Aside0 (w29.heap[gb119]? = some (.cells #[.bool false, .bool false, .int .u64 0, .int .u64 0, .int .u64 0, .int .u64 0, .int .i64 0, .int .i64 0] 28 (0, 0))) := ⟨h2_⟩
                        have n3_ : Aside0 (w.heap.size ≤ gb119) := ⟨h3_⟩
                        have n4_ : Aside0 (w.heap.size ≤ gb119) := ⟨h4_⟩
                        have n5_ : Aside0 (gb115 ≠ gb119) := ⟨h5_⟩
                        have n6_ : Aside0 (gb119 ≠ gb115) := ⟨h6_⟩
                        have n7_ : Aside0 (gb116 ≠ gb119) := ⟨h7_⟩
                        have n8_ : Aside0 (gb119 ≠ gb116) := ⟨h8_⟩
                        have n9_ : Aside0 (Below w.heap.size w w29) := ⟨h9_⟩
                        clear BK115
                        clear BK116
                        clear HB
                        clear h0_ h1_ h2_ h3_ h4_ h5_ h6_ h7_ h8_ h9_
                        have BK115 := n0_
                        have BK116 := n1_
                        have BK119 := n2_
                        have GW119 := n3_
                        have GE119 := n4_
                        have NB115_119 := n5_
                        have NB119_115 := n6_
                        have NB116_119 := n7_
                        have NB119_116 := n8_
                        have HB := n9_
                        clear n0_ n1_ n2_ n3_ n4_ n5_ n6_ n7_ n8_ n9_
                        have hHeld : w29.cell? ⟨gb115, 0, none⟩ = some (.int .u64 ((rd_T30 l1 x7_2).f0)) ∧ w29.cell? ⟨gb115, 1, none⟩ = some (.int .u64 ((rd_T30 l1 x7_2).f1)) ∧ w29.cell? ⟨gb115, 2, none⟩ = some (.int .u64 ((rd_T30 l1 x7_2).f2)) ∧ w29.cell? ⟨gb115, 3, none⟩ = some (.bool ((rd_T30 l1 x7_2).f3)) ∧ w29.cell? ⟨gb116, 0, none⟩ = some (.bool false) ∧ w29.cell? ⟨gb116, 1, none⟩ = some (.bool false) ∧ w29.cell? ⟨gb116, 2, none⟩ = some (.int .u64 ((rd_T30 l1 x7_2).f0)) ∧ w29.cell? ⟨gb116, 3, none⟩ = some (.int .u64 ((rd_T30 l1 x7_2).f1)) ∧ w29.cell? ⟨gb116, 4, none⟩ = some (.int .u64 0) ∧ w29.cell? ⟨gb116, 5, none⟩ = some (.int .u64 x5_2) ∧ w29.cell? ⟨gb116, 6, none⟩ = some (.int .i64 1) ∧ w29.cell? ⟨gb116, 7, none⟩ = some (.int .i64 15) := hS_
                        refine norm_ (a' := ?_) ?_ ?_
                        rotate_left
                        · simp only [putAll, Act.put, List.setIfInBounds_toArray, List.set_cons_zero, List.set_cons_succ]
                          rfl
                        refine one_ (i := 10) (N := none) #[true, true, true, true, true, true, true, true, true, true, true] rfl rfl (one_of HT_.out (by kernel_rfl)) (by decide) (fun K hK => ?_)
                        have hs30 : w29.cell? ⟨gb119, 0, none⟩ = some (.bool false) := (blk_cell BK119.out 0).trans rfl
                        have hfs30 := blk_frozen BK119.out 0
                        have hns30_0 := NB115_119.out
                        have hns30_1 := NB116_119.out
                        have hms30_0 := NB119_115.out
                        have hms30_1 := NB119_116.out
                        have hs31 : w29.cell? ⟨gb119, 1, none⟩ = some (.bool false) := (blk_cell BK119.out 1).trans rfl
                        have hfs31 := blk_frozen BK119.out 1
                        have hns31_0 := NB115_119.out
                        have hns31_1 := NB116_119.out
                        have hms31_0 := NB119_115.out
                        have hms31_1 := NB119_116.out
                        have hs32 : w29.cell? ⟨gb119, 2, none⟩ = some (.int .u64 0) := (blk_cell BK119.out 2).trans rfl
                        have hfs32 := blk_frozen BK119.out 2
                        have hns32_0 := NB115_119.out
                        have hns32_1 := NB116_119.out
                        have hms32_0 := NB119_115.out
                        have hms32_1 := NB119_116.out
                        have hs33 : w29.cell? ⟨gb119, 3, none⟩ = some (.int .u64 0) := (blk_cell BK119.out 3).trans rfl
                        have hfs33 := blk_frozen BK119.out 3
                        have hns33_0 := NB115_119.out
                        have hns33_1 := NB116_119.out
                        have hms33_0 := NB119_115.out
                        have hms33_1 := NB119_116.out
                        have hs34 : w29.cell? ⟨gb119, 4, none⟩ = some (.int .u64 0) := (blk_cell BK119.out 4).trans rfl
                        have hfs34 := blk_frozen BK119.out 4
                        have hns34_0 := NB115_119.out
                        have hns34_1 := NB116_119.out
                        have hms34_0 := NB119_115.out
                        have hms34_1 := NB119_116.out
                        have hs35 : w29.cell? ⟨gb119, 5, none⟩ = some (.int .u64 0) := (blk_cell BK119.out 5).trans rfl
                        have hfs35 := blk_frozen BK119.out 5
                        have hns35_0 := NB115_119.out
                        have hns35_1 := NB116_119.out
                        have hms35_0 := NB119_115.out
                        have hms35_1 := NB119_116.out
                        have hs36 : w29.cell? ⟨gb119, 6, none⟩ = some (.int .i64 0) := (blk_cell BK119.out 6).trans rfl
                        have hfs36 := blk_frozen BK119.out 6
                        have hns36_0 := NB115_119.out
                        have hns36_1 := NB116_119.out
                        have hms36_0 := NB119_115.out
                        have hms36_1 := NB119_116.out
                        have hs37 : w29.cell? ⟨gb119, 7, none⟩ = some (.int .i64 0) := (blk_cell BK119.out 7).trans rfl
                        have hfs37 := blk_frozen BK119.out 7
                        have hns37_0 := NB115_119.out
                        have hns37_1 := NB116_119.out
                        have hms37_0 := NB119_115.out
                        have hms37_1 := NB119_116.out
                        refine skip_ (w1 := ?_) (by rfl) rfl ?_ ?_
                        rotate_left
                        · go_simp
                          rfl
                        refine hK.out _ _ ⟨((cell_far (p := ⟨gb119, _, none⟩) NB115_119.out _).trans (((cell_far (p := ⟨gb119, _, none⟩) NB115_119.out _).trans (((cell_far (p := ⟨gb119, _, none⟩) NB115_119.out _).trans (((cell_far (p := ⟨gb119, _, none⟩) NB115_119.out _).trans (((cell_far (p := ⟨gb119, _, none⟩) NB115_119.out _).trans (((cell_far (p := ⟨gb119, _, none⟩) NB115_119.out _).trans (((cell_far (p := ⟨gb119, _, none⟩) NB115_119.out _).trans (((cell_far (p := ⟨gb119, _, none⟩) NB115_119.out _).trans (hHeld.1)))))))))))))))), ((cell_far (p := ⟨gb119, _, none⟩) NB115_119.out _).trans (((cell_far (p := ⟨gb119, _, none⟩) NB115_119.out _).trans (((cell_far (p := ⟨gb119, _, none⟩) NB115_119.out _).trans (((cell_far (p := ⟨gb119, _, none⟩) NB115_119.out _).trans (((cell_far (p := ⟨gb119, _, none⟩) NB115_119.out _).trans (((cell_far (p := ⟨gb119, _, none⟩) NB115_119.out _).trans (((cell_far (p := ⟨gb119, _, none⟩) NB115_119.out _).trans (((cell_far (p := ⟨gb119, _, none⟩) NB115_119.out _).trans (hHeld.2.1)))))))))))))))), ((cell_far (p := ⟨gb119, _, none⟩) NB115_119.out _).trans (((cell_far (p := ⟨gb119, _, none⟩) NB115_119.out _).trans (((cell_far (p := ⟨gb119, _, none⟩) NB115_119.out _).trans (((cell_far (p := ⟨gb119, _, none⟩) NB115_119.out _).trans (((cell_far (p := ⟨gb119, _, none⟩) NB115_119.out _).trans (((cell_far (p := ⟨gb119, _, none⟩) NB115_119.out _).trans (((cell_far (p := ⟨gb119, _, none⟩) NB115_119.out _).trans (((cell_far (p := ⟨gb119, _, none⟩) NB115_119.out _).trans (hHeld.2.2.1)))))))))))))))), ((cell_far (p := ⟨gb119, _, none⟩) NB115_119.out _).trans (((cell_far (p := ⟨gb119, _, none⟩) NB115_119.out _).trans (((cell_far (p := ⟨gb119, _, none⟩) NB115_119.out _).trans (((cell_far (p := ⟨gb119, _, none⟩) NB115_119.out _).trans (((cell_far (p := ⟨gb119, _, none⟩) NB115_119.out _).trans (((cell_far (p := ⟨gb119, _, none⟩) NB115_119.out _).trans (((cell_far (p := ⟨gb119, _, none⟩) NB115_119.out _).trans (((cell_far (p := ⟨gb119, _, none⟩) NB115_119.out _).trans (hHeld.2.2.2.1)))))))))))))))), ((cell_far (p := ⟨gb119, _, none⟩) NB116_119.out _).trans (((cell_far (p := ⟨gb119, _, none⟩) NB116_119.out _).trans (((cell_far (p := ⟨gb119, _, none⟩) NB116_119.out _).trans (((cell_far (p := ⟨gb119, _, none⟩) NB116_119.out _).trans (((cell_far (p := ⟨gb119, _, none⟩) NB116_119.out _).trans (((cell_far (p := ⟨gb119, _, none⟩) NB116_119.out _).trans (((cell_far (p := ⟨gb119, _, none⟩) NB116_119.out _).trans (((cell_far (p := ⟨gb119, _, none⟩) NB116_119.out _).trans (hHeld.2.2.2.2.1)))))))))))))))), ((cell_far (p := ⟨gb119, _, none⟩) NB116_119.out _).trans (((cell_far (p := ⟨gb119, _, none⟩) NB116_119.out _).trans (((cell_far (p := ⟨gb119, _, none⟩) NB116_119.out _).trans (((cell_far (p := ⟨gb119, _, none⟩) NB116_119.out _).trans (((cell_far (p := ⟨gb119, _, none⟩) NB116_119.out _).trans (((cell_far (p := ⟨gb119, _, none⟩) NB116_119.out _).trans (((cell_far (p := ⟨gb119, _, none⟩) NB116_119.out _).trans (((cell_far (p := ⟨gb119, _, none⟩) NB116_119.out _).trans (hHeld.2.2.2.2.2.1)))))))))))))))), ((cell_far (p := ⟨gb119, _, none⟩) NB116_119.out _).trans (((cell_far (p := ⟨gb119, _, none⟩) NB116_119.out _).trans (((cell_far (p := ⟨gb119, _, none⟩) NB116_119.out _).trans (((cell_far (p := ⟨gb119, _, none⟩) NB116_119.out _).trans (((cell_far (p := ⟨gb119, _, none⟩) NB116_119.out _).trans (((cell_far (p := ⟨gb119, _, none⟩) NB116_119.out _).trans (((cell_far (p := ⟨gb119, _, none⟩) NB116_119.out _).trans (((cell_far (p := ⟨gb119, _, none⟩) NB116_119.out _).trans (hHeld.2.2.2.2.2.2.1)))))))))))))))), ((cell_far (p := ⟨gb119, _, none⟩) NB116_119.out _).trans (((cell_far (p := ⟨gb119, _, none⟩) NB116_119.out _).trans (((cell_far (p := ⟨gb119, _, none⟩) NB116_119.out _).trans (((cell_far (p := ⟨gb119, _, none⟩) NB116_119.out _).trans (((cell_far (p := ⟨gb119, _, none⟩) NB116_119.out _).trans (((cell_far (p := ⟨gb119, _, none⟩) NB116_119.out _).trans (((cell_far (p := ⟨gb119, _, none⟩) NB116_119.out _).trans (((cell_far (p := ⟨gb119, _, none⟩) NB116_119.out _).trans (hHeld.2.2.2.2.2.2.2.1)))))))))))))))), ((cell_far (p := ⟨gb119, _, none⟩) NB116_119.out _).trans (((cell_far (p := ⟨gb119, _, none⟩) NB116_119.out _).trans (((cell_far (p := ⟨gb119, _, none⟩) NB116_119.out _).trans (((cell_far (p := ⟨gb119, _, none⟩) NB116_119.out _).trans (((cell_far (p := ⟨gb119, _, none⟩) NB116_119.out _).trans (((cell_far (p := ⟨gb119, _, none⟩) NB116_119.out _).trans (((cell_far (p := ⟨gb119, _, none⟩) NB116_119.out _).trans (((cell_far (p := ⟨gb119, _, none⟩) NB116_119.out _).trans (hHeld.2.2.2.2.2.2.2.2.1)))))))))))))))), ((cell_far (p := ⟨gb119, _, none⟩) NB116_119.out _).trans (((cell_far (p := ⟨gb119, _, none⟩) NB116_119.out _).trans (((cell_far (p := ⟨gb119, _, none⟩) NB116_119.out _).trans (((cell_far (p := ⟨gb119, _, none⟩) NB116_119.out _).trans (((cell_far (p := ⟨gb119, _, none⟩) NB116_119.out _).trans (((cell_far (p := ⟨gb119, _, none⟩) NB116_119.out _).trans (((cell_far (p := ⟨gb119, _, none⟩) NB116_119.out _).trans (((cell_far (p := ⟨gb119, _, none⟩) NB116_119.out _).trans (hHeld.2.2.2.2.2.2.2.2.2.1)))))))))))))))), ((cell_far (p := ⟨gb119, _, none⟩) NB116_119.out _).trans (((cell_far (p := ⟨gb119, _, none⟩) NB116_119.out _).trans (((cell_far (p := ⟨gb119, _, none⟩) NB116_119.out _).trans (((cell_far (p := ⟨gb119, _, none⟩) NB116_119.out _).trans (((cell_far (p := ⟨gb119, _, none⟩) NB116_119.out _).trans (((cell_far (p := ⟨gb119, _, none⟩) NB116_119.out _).trans (((cell_far (p := ⟨gb119, _, none⟩) NB116_119.out _).trans (((cell_far (p := ⟨gb119, _, none⟩) NB116_119.out _).trans (hHeld.2.2.2.2.2.2.2.2.2.2.1)))))))))))))))), ((cell_far (p := ⟨gb119, _, none⟩) NB116_119.out _).trans (((cell_far (p := ⟨gb119, _, none⟩) NB116_119.out _).trans (((cell_far (p := ⟨gb119, _, none⟩) NB116_119.out _).trans (((cell_far (p := ⟨gb119, _, none⟩) NB116_119.out _).trans (((cell_far (p := ⟨gb119, _, none⟩) NB116_119.out _).trans (((cell_far (p := ⟨gb119, _, none⟩) NB116_119.out _).trans (((cell_far (p := ⟨gb119, _, none⟩) NB116_119.out _).trans (((cell_far (p := ⟨gb119, _, none⟩) NB116_119.out _).trans (hHeld.2.2.2.2.2.2.2.2.2.2.2))))))))))))))))⟩ (fun hHeld => ?_)
                        clear hK K
                        refine done_ (done_of HT_.out (by kernel_rfl)) ?_
                        have hnb38 := NB115_119.out
                        have hnc38 := NB119_115.out
                        have hcz39_0 : w29.cell? ⟨gb115, 0, none⟩ = some (.int .u64 ((rd_T30 l1 x7_2).f0)) := (blk_cell BK115.out 0).trans rfl
                        have hcz39_1 : w29.cell? ⟨gb115, 1, none⟩ = some (.int .u64 ((rd_T30 l1 x7_2).f1)) := (blk_cell BK115.out 1).trans rfl
                        have hcz39_2 : w29.cell? ⟨gb115, 2, none⟩ = some (.int .u64 ((rd_T30 l1 x7_2).f2)) := (blk_cell BK115.out 2).trans rfl
                        have hcz39_3 : w29.cell? ⟨gb115, 3, none⟩ = some (.bool ((rd_T30 l1 x7_2).f3)) := (blk_cell BK115.out 3).trans rfl
                        have hfz39_0 := blk_frozen BK115.out 0
                        have hfz39_1 := blk_frozen BK115.out 1
                        have hfz39_2 := blk_frozen BK115.out 2
                        have hfz39_3 := blk_frozen BK115.out 3
                        go_upto_if 54 with (fail)
                        go_cut [] (fun wc => ∃ (kq : Nat) (x120006_18 : Int), Aside0 (bureautop_WholeChains.j3 kq a0 l1 x5_2 x6_2 x7_2 ((rd_T30 l1 x7_2).f0) ((rd_T30 l1 x7_2).f1) ((rd_T30 l1 x7_2).f2) ((rd_T30 l1 x7_2).f3) false false ((rd_T30 l1 x7_2).f0) ((rd_T30 l1 x7_2).f1) t118 ((rd_T30 l1 x7_2).f2) x120006_18 15 = some r) ∧ Aside0 (kq ≤ kj10) ∧ Aside0 (wc.heap[gb115]? = some (.cells #[.int .u64 ((rd_T30 l1 x7_2).f0), .int .u64 ((rd_T30 l1 x7_2).f1), .int .u64 ((rd_T30 l1 x7_2).f2), .bool ((rd_T30 l1 x7_2).f3)] 30 (0, 0))) ∧ Aside0 (wc.heap[gb116]? = some (.cells #[.bool false, .bool false, .int .u64 ((rd_T30 l1 x7_2).f0), .int .u64 ((rd_T30 l1 x7_2).f1), .int .u64 0, .int .u64 x5_2, .int .i64 1, .int .i64 15] 28 (0, 0))) ∧ Aside0 (wc.heap[gb119]? = some (.cells #[.bool false, .bool false, .int .u64 ((rd_T30 l1 x7_2).f0), .int .u64 ((rd_T30 l1 x7_2).f1), .int .u64 t118, .int .u64 ((rd_T30 l1 x7_2).f2), .int .i64 x120006_18, .int .i64 15] 28 (0, 0))) ∧ Aside0 (Below w.heap.size w wc))
                        case first =>
                          have H := HC19.out
                          clear HC19
                          obtain ⟨bq40, hbq40⟩ : ∃ b_ : Bool, b_ = ((rd_T30 l1 x7_2).f3) := ⟨_, rfl⟩
                          replace H : (if bq40 = true then (bureautop_WholeChains.j3 kj10 a0 l1 x5_2 x6_2 x7_2 ((rd_T30 l1 x7_2).f0) ((rd_T30 l1 x7_2).f1) ((rd_T30 l1 x7_2).f2) bq40 false false ((rd_T30 l1 x7_2).f0) ((rd_T30 l1 x7_2).f1) t118 ((rd_T30 l1 x7_2).f2) 4 15) else (bureautop_WholeChains.j3 kj10 a0 l1 x5_2 x6_2 x7_2 ((rd_T30 l1 x7_2).f0) ((rd_T30 l1 x7_2).f1) ((rd_T30 l1 x7_2).f2) bq40 false false ((rd_T30 l1 x7_2).f0) ((rd_T30 l1 x7_2).f1) t118 ((rd_T30 l1 x7_2).f2) 2 15)) = some r := by rw [← hbq40] at H; exact H
                          have Nbq40 := Aside0.mk hbq40
                          clear hbq40
                          (try rw [← Nbq40.out])
                          by_cases c41 : bq40 = true
                          · subst c41
                            have H1 : (bureautop_WholeChains.j3 kj10 a0 l1 x5_2 x6_2 x7_2 ((rd_T30 l1 x7_2).f0) ((rd_T30 l1 x7_2).f1) ((rd_T30 l1 x7_2).f2) true false false ((rd_T30 l1 x7_2).f0) ((rd_T30 l1 x7_2).f1) t118 ((rd_T30 l1 x7_2).f2) 4 15) = some r := by rw [if_pos rfl] at H; exact H
                            clear H
                            have H := H1
                            clear H1
                            have H' := Aside0.mk H
                            clear H
                            have hnb42 := NB119_115.out
                            have hnc42 := NB115_119.out
                            have hnb43 := NB119_116.out
                            have hnc43 := NB116_119.out
                            have hcz44_0 : w29.cell? ⟨gb119, 0, none⟩ = some (.bool false) := (blk_cell BK119.out 0).trans rfl
                            have hcz44_1 : w29.cell? ⟨gb119, 1, none⟩ = some (.bool false) := (blk_cell BK119.out 1).trans rfl
                            have hcz44_2 : w29.cell? ⟨gb119, 2, none⟩ = some (.int .u64 0) := (blk_cell BK119.out 2).trans rfl
                            have hcz44_3 : w29.cell? ⟨gb119, 3, none⟩ = some (.int .u64 0) := (blk_cell BK119.out 3).trans rfl
                            have hcz44_4 : w29.cell? ⟨gb119, 4, none⟩ = some (.int .u64 0) := (blk_cell BK119.out 4).trans rfl
                            have hcz44_5 : w29.cell? ⟨gb119, 5, none⟩ = some (.int .u64 0) := (blk_cell BK119.out 5).trans rfl
                            have hcz44_6 : w29.cell? ⟨gb119, 6, none⟩ = some (.int .i64 0) := (blk_cell BK119.out 6).trans rfl
                            have hcz44_7 : w29.cell? ⟨gb119, 7, none⟩ = some (.int .i64 0) := (blk_cell BK119.out 7).trans rfl
                            have hfz44_0 := blk_frozen BK119.out 0
                            have hfz44_1 := blk_frozen BK119.out 1
                            have hfz44_2 := blk_frozen BK119.out 2
                            have hfz44_3 := blk_frozen BK119.out 3
                            have hfz44_4 := blk_frozen BK119.out 4
                            have hfz44_5 := blk_frozen BK119.out 5
                            have hfz44_6 := blk_frozen BK119.out 6
                            have hfz44_7 := blk_frozen BK119.out 7
                            go_wp2
                            go_meet
                            case rel => exact ⟨_, (4), (by first | exact H' | ((try rw [← Nbq40.out]); exact H')), ⟨by have := HJ2.out; have := HK2.out; have := HJ10.out; first | omega | exact Nat.le_refl _⟩, ⟨by (with_reducible repeat (first | refine blk_drewN ?_ _ | refine blk_drew ?_ | refine blk_alloc ?_ _)); refine blk_far ?_ NB115_119.out _; (with_reducible repeat (first | refine blk_drewN ?_ _ | refine blk_drew ?_ | refine blk_alloc ?_ _)); refine blk_far ?_ NB115_119.out _; (with_reducible repeat (first | refine blk_drewN ?_ _ | refine blk_drew ?_ | refine blk_alloc ?_ _)); refine blk_far ?_ NB115_119.out _; (with_reducible repeat (first | refine blk_drewN ?_ _ | refine blk_drew ?_ | refine blk_alloc ?_ _)); refine blk_far ?_ NB115_119.out _; (with_reducible repeat (first | refine blk_drewN ?_ _ | refine blk_drew ?_ | refine blk_alloc ?_ _)); refine blk_far ?_ NB115_119.out _; (with_reducible repeat (first | refine blk_drewN ?_ _ | refine blk_drew ?_ | refine blk_alloc ?_ _)); refine blk_far ?_ NB115_119.out _; (with_reducible repeat (first | refine blk_drewN ?_ _ | refine blk_drew ?_ | refine blk_alloc ?_ _)); refine blk_far ?_ NB115_119.out _; (with_reducible repeat (first | refine blk_drewN ?_ _ | refine blk_drew ?_ | refine blk_alloc ?_ _)); refine blk_far ?_ NB115_119.out _; (with_reducible repeat (first | refine blk_drewN ?_ _ | refine blk_drew ?_ | refine blk_alloc ?_ _)); refine blk_far ?_ NB115_119.out _; (with_reducible repeat (first | refine blk_drewN ?_ _ | refine blk_drew ?_ | refine blk_alloc ?_ _)); exact BK115.out⟩, ⟨by (with_reducible repeat (first | refine blk_drewN ?_ _ | refine blk_drew ?_ | refine blk_alloc ?_ _)); refine blk_far ?_ NB116_119.out _; (with_reducible repeat (first | refine blk_drewN ?_ _ | refine blk_drew ?_ | refine blk_alloc ?_ _)); refine blk_far ?_ NB116_119.out _; (with_reducible repeat (first | refine blk_drewN ?_ _ | refine blk_drew ?_ | refine blk_alloc ?_ _)); refine blk_far ?_ NB116_119.out _; (with_reducible repeat (first | refine blk_drewN ?_ _ | refine blk_drew ?_ | refine blk_alloc ?_ _)); refine blk_far ?_ NB116_119.out _; (with_reducible repeat (first | refine blk_drewN ?_ _ | refine blk_drew ?_ | refine blk_alloc ?_ _)); refine blk_far ?_ NB116_119.out _; (with_reducible repeat (first | refine blk_drewN ?_ _ | refine blk_drew ?_ | refine blk_alloc ?_ _)); refine blk_far ?_ NB116_119.out _; (with_reducible repeat (first | refine blk_drewN ?_ _ | refine blk_drew ?_ | refine blk_alloc ?_ _)); refine blk_far ?_ NB116_119.out _; (with_reducible repeat (first | refine blk_drewN ?_ _ | refine blk_drew ?_ | refine blk_alloc ?_ _)); refine blk_far ?_ NB116_119.out _; (with_reducible repeat (first | refine blk_drewN ?_ _ | refine blk_drew ?_ | refine blk_alloc ?_ _)); refine blk_far ?_ NB116_119.out _; (with_reducible repeat (first | refine blk_drewN ?_ _ | refine blk_drew ?_ | refine blk_alloc ?_ _)); exact BK116.out⟩, ⟨by (with_reducible repeat (first | refine blk_drewN ?_ _ | refine blk_drew ?_ | refine blk_alloc ?_ _)); refine blk_put (cs := #[.bool false, .bool false, .int .u64 ((rd_T30 l1 x7_2).f0), .int .u64 ((rd_T30 l1 x7_2).f1), .int .u64 t118, .int .u64 ((rd_T30 l1 x7_2).f2), .int .i64 2, .int .i64 15]) ?_ 6 _ rfl; (with_reducible repeat (first | refine blk_drewN ?_ _ | refine blk_drew ?_ | refine blk_alloc ?_ _)); refine blk_put (cs := #[.bool false, .bool false, .int .u64 ((rd_T30 l1 x7_2).f0), .int .u64 ((rd_T30 l1 x7_2).f1), .int .u64 t118, .int .u64 ((rd_T30 l1 x7_2).f2), .int .i64 2, .int .i64 0]) ?_ 7 _ rfl; (with_reducible repeat (first | refine blk_drewN ?_ _ | refine blk_drew ?_ | refine blk_alloc ?_ _)); refine blk_put (cs := #[.bool false, .bool false, .int .u64 ((rd_T30 l1 x7_2).f0), .int .u64 ((rd_T30 l1 x7_2).f1), .int .u64 t118, .int .u64 ((rd_T30 l1 x7_2).f2), .int .i64 0, .int .i64 0]) ?_ 6 _ rfl; (with_reducible repeat (first | refine blk_drewN ?_ _ | refine blk_drew ?_ | refine blk_alloc ?_ _)); refine blk_put (cs := #[.bool false, .bool false, .int .u64 ((rd_T30 l1 x7_2).f0), .int .u64 ((rd_T30 l1 x7_2).f1), .int .u64 t118, .int .u64 0, .int .i64 0, .int .i64 0]) ?_ 5 _ rfl; (with_reducible repeat (first | refine blk_drewN ?_ _ | refine blk_drew ?_ | refine blk_alloc ?_ _)); refine blk_put (cs := #[.bool false, .bool false, .int .u64 ((rd_T30 l1 x7_2).f0), .int .u64 ((rd_T30 l1 x7_2).f1), .int .u64 0, .int .u64 0, .int .i64 0, .int .i64 0]) ?_ 4 _ rfl; (with_reducible repeat (first | refine blk_drewN ?_ _ | refine blk_drew ?_ | refine blk_alloc ?_ _)); refine blk_put (cs := #[.bool false, .bool false, .int .u64 ((rd_T30 l1 x7_2).f0), .int .u64 0, .int .u64 0, .int .u64 0, .int .i64 0, .int .i64 0]) ?_ 3 _ rfl; (with_reducible repeat (first | refine blk_drewN ?_ _ | refine blk_drew ?_ | refine blk_alloc ?_ _)); refine blk_put (cs := #[.bool false, .bool false, .int .u64 0, .int .u64 0, .int .u64 0, .int .u64 0, .int .i64 0, .int .i64 0]) ?_ 2 _ rfl; (with_reducible repeat (first | refine blk_drewN ?_ _ | refine blk_drew ?_ | refine blk_alloc ?_ _)); refine blk_put (cs := #[.bool false, .bool false, .int .u64 0, .int .u64 0, .int .u64 0, .int .u64 0, .int .i64 0, .int .i64 0]) ?_ 1 _ rfl; (with_reducible repeat (first | refine blk_drewN ?_ _ | refine blk_drew ?_ | refine blk_alloc ?_ _)); refine blk_put (cs := #[.bool false, .bool false, .int .u64 0, .int .u64 0, .int .u64 0, .int .u64 0, .int .i64 0, .int .i64 0]) ?_ 0 _ rfl; (with_reducible repeat (first | refine blk_drewN ?_ _ | refine blk_drew ?_ | refine blk_alloc ?_ _)); exact BK119.out⟩, ⟨by repeat (first | (with_reducible first | exact HB.out | apply below_alloc | apply pw_below_drewN | apply below_drew1 | refine below_set ?_ GE115.out | refine below_set ?_ GE116.out | refine below_set ?_ GE119.out) | exact HB.out)⟩⟩
                          · replace c41 := Bool.eq_false_iff.mpr c41
                            subst c41
                            have H1 : (bureautop_WholeChains.j3 kj10 a0 l1 x5_2 x6_2 x7_2 ((rd_T30 l1 x7_2).f0) ((rd_T30 l1 x7_2).f1) ((rd_T30 l1 x7_2).f2) false false false ((rd_T30 l1 x7_2).f0) ((rd_T30 l1 x7_2).f1) t118 ((rd_T30 l1 x7_2).f2) 2 15) = some r := by rw [if_neg (show ¬ (false = true) by decide)] at H; exact H
                            clear H
                            have H := H1
                            clear H1
                            have H' := Aside0.mk H
                            clear H
                            go_wp2
                            go_meet
                            case rel => exact ⟨_, (2), (by first | exact H' | ((try rw [← Nbq40.out]); exact H')), ⟨by have := HJ2.out; have := HK2.out; have := HJ10.out; first | omega | exact Nat.le_refl _⟩, ⟨by (with_reducible repeat (first | refine blk_drewN ?_ _ | refine blk_drew ?_ | refine blk_alloc ?_ _)); refine blk_far ?_ NB115_119.out _; (with_reducible repeat (first | refine blk_drewN ?_ _ | refine blk_drew ?_ | refine blk_alloc ?_ _)); refine blk_far ?_ NB115_119.out _; (with_reducible repeat (first | refine blk_drewN ?_ _ | refine blk_drew ?_ | refine blk_alloc ?_ _)); refine blk_far ?_ NB115_119.out _; (with_reducible repeat (first | refine blk_drewN ?_ _ | refine blk_drew ?_ | refine blk_alloc ?_ _)); refine blk_far ?_ NB115_119.out _; (with_reducible repeat (first | refine blk_drewN ?_ _ | refine blk_drew ?_ | refine blk_alloc ?_ _)); refine blk_far ?_ NB115_119.out _; (with_reducible repeat (first | refine blk_drewN ?_ _ | refine blk_drew ?_ | refine blk_alloc ?_ _)); refine blk_far ?_ NB115_119.out _; (with_reducible repeat (first | refine blk_drewN ?_ _ | refine blk_drew ?_ | refine blk_alloc ?_ _)); refine blk_far ?_ NB115_119.out _; (with_reducible repeat (first | refine blk_drewN ?_ _ | refine blk_drew ?_ | refine blk_alloc ?_ _)); refine blk_far ?_ NB115_119.out _; (with_reducible repeat (first | refine blk_drewN ?_ _ | refine blk_drew ?_ | refine blk_alloc ?_ _)); exact BK115.out⟩, ⟨by (with_reducible repeat (first | refine blk_drewN ?_ _ | refine blk_drew ?_ | refine blk_alloc ?_ _)); refine blk_far ?_ NB116_119.out _; (with_reducible repeat (first | refine blk_drewN ?_ _ | refine blk_drew ?_ | refine blk_alloc ?_ _)); refine blk_far ?_ NB116_119.out _; (with_reducible repeat (first | refine blk_drewN ?_ _ | refine blk_drew ?_ | refine blk_alloc ?_ _)); refine blk_far ?_ NB116_119.out _; (with_reducible repeat (first | refine blk_drewN ?_ _ | refine blk_drew ?_ | refine blk_alloc ?_ _)); refine blk_far ?_ NB116_119.out _; (with_reducible repeat (first | refine blk_drewN ?_ _ | refine blk_drew ?_ | refine blk_alloc ?_ _)); refine blk_far ?_ NB116_119.out _; (with_reducible repeat (first | refine blk_drewN ?_ _ | refine blk_drew ?_ | refine blk_alloc ?_ _)); refine blk_far ?_ NB116_119.out _; (with_reducible repeat (first | refine blk_drewN ?_ _ | refine blk_drew ?_ | refine blk_alloc ?_ _)); refine blk_far ?_ NB116_119.out _; (with_reducible repeat (first | refine blk_drewN ?_ _ | refine blk_drew ?_ | refine blk_alloc ?_ _)); refine blk_far ?_ NB116_119.out _; (with_reducible repeat (first | refine blk_drewN ?_ _ | refine blk_drew ?_ | refine blk_alloc ?_ _)); exact BK116.out⟩, ⟨by (with_reducible repeat (first | refine blk_drewN ?_ _ | refine blk_drew ?_ | refine blk_alloc ?_ _)); refine blk_put (cs := #[.bool false, .bool false, .int .u64 ((rd_T30 l1 x7_2).f0), .int .u64 ((rd_T30 l1 x7_2).f1), .int .u64 t118, .int .u64 ((rd_T30 l1 x7_2).f2), .int .i64 2, .int .i64 0]) ?_ 7 _ rfl; (with_reducible repeat (first | refine blk_drewN ?_ _ | refine blk_drew ?_ | refine blk_alloc ?_ _)); refine blk_put (cs := #[.bool false, .bool false, .int .u64 ((rd_T30 l1 x7_2).f0), .int .u64 ((rd_T30 l1 x7_2).f1), .int .u64 t118, .int .u64 ((rd_T30 l1 x7_2).f2), .int .i64 0, .int .i64 0]) ?_ 6 _ rfl; (with_reducible repeat (first | refine blk_drewN ?_ _ | refine blk_drew ?_ | refine blk_alloc ?_ _)); refine blk_put (cs := #[.bool false, .bool false, .int .u64 ((rd_T30 l1 x7_2).f0), .int .u64 ((rd_T30 l1 x7_2).f1), .int .u64 t118, .int .u64 0, .int .i64 0, .int .i64 0]) ?_ 5 _ rfl; (with_reducible repeat (first | refine blk_drewN ?_ _ | refine blk_drew ?_ | refine blk_alloc ?_ _)); refine blk_put (cs := #[.bool false, .bool false, .int .u64 ((rd_T30 l1 x7_2).f0), .int .u64 ((rd_T30 l1 x7_2).f1), .int .u64 0, .int .u64 0, .int .i64 0, .int .i64 0]) ?_ 4 _ rfl; (with_reducible repeat (first | refine blk_drewN ?_ _ | refine blk_drew ?_ | refine blk_alloc ?_ _)); refine blk_put (cs := #[.bool false, .bool false, .int .u64 ((rd_T30 l1 x7_2).f0), .int .u64 0, .int .u64 0, .int .u64 0, .int .i64 0, .int .i64 0]) ?_ 3 _ rfl; (with_reducible repeat (first | refine blk_drewN ?_ _ | refine blk_drew ?_ | refine blk_alloc ?_ _)); refine blk_put (cs := #[.bool false, .bool false, .int .u64 0, .int .u64 0, .int .u64 0, .int .u64 0, .int .i64 0, .int .i64 0]) ?_ 2 _ rfl; (with_reducible repeat (first | refine blk_drewN ?_ _ | refine blk_drew ?_ | refine blk_alloc ?_ _)); refine blk_put (cs := #[.bool false, .bool false, .int .u64 0, .int .u64 0, .int .u64 0, .int .u64 0, .int .i64 0, .int .i64 0]) ?_ 1 _ rfl; (with_reducible repeat (first | refine blk_drewN ?_ _ | refine blk_drew ?_ | refine blk_alloc ?_ _)); refine blk_put (cs := #[.bool false, .bool false, .int .u64 0, .int .u64 0, .int .u64 0, .int .u64 0, .int .i64 0, .int .i64 0]) ?_ 0 _ rfl; (with_reducible repeat (first | refine blk_drewN ?_ _ | refine blk_drew ?_ | refine blk_alloc ?_ _)); exact BK119.out⟩, ⟨by repeat (first | (with_reducible first | exact HB.out | apply below_alloc | apply pw_below_drewN | apply below_drew1 | refine below_set ?_ GE115.out | refine below_set ?_ GE116.out | refine below_set ?_ GE119.out) | exact HB.out)⟩⟩
                        case rest =>
                          clear HC19
                          try clear c1
                          try clear p1
                          try clear q1
                          try clear hx1
                          try clear c2
                          try clear p2
                          try clear c3
                          try clear c4
                          try clear q4
                          try clear c5
                          try clear c5b0
                          try clear c5b1
                          try clear p6
                          try clear c10
                          try clear p11
                          try clear q11
                          try clear hx11
                          try clear c12
                          try clear c12b0
                          try clear c13
                          try clear c14
                          try clear c14b0
                          try clear c15
                          try clear c15b0
                          try clear c17
                          try clear c17b0
                          try clear c17b1
                          try clear c23
                          try clear c38
                          try clear q40
                          try clear c41
                          try clear c42
                          try clear c43
                          try clear hcz21_0
                          try clear hcz21_1
                          try clear hcz21_2
                          try clear hcz21_3
                          try clear hcz24_0
                          try clear hcz24_1
                          try clear hcz24_2
                          try clear hcz24_3
                          try clear hcz24_4
                          try clear hcz24_5
                          try clear hcz24_6
                          try clear hcz24_7
                          try clear hcz39_0
                          try clear hcz39_1
                          try clear hcz39_2
                          try clear hcz39_3
                          try clear hcz44_0
                          try clear hcz44_1
                          try clear hcz44_2
                          try clear hcz44_3
                          try clear hcz44_4
                          try clear hcz44_5
                          try clear hcz44_6
                          try clear hcz44_7
                          try clear hfz21_0
                          try clear hfz21_1
                          try clear hfz21_2
                          try clear hfz21_3
                          try clear hfz24_0
                          try clear hfz24_1
                          try clear hfz24_2
                          try clear hfz24_3
                          try clear hfz24_4
                          try clear hfz24_5
                          try clear hfz24_6
                          try clear hfz24_7
                          try clear hfz39_0
                          try clear hfz39_1
                          try clear hfz39_2
                          try clear hfz39_3
                          try clear hfz44_0
                          try clear hfz44_1
                          try clear hfz44_2
                          try clear hfz44_3
                          try clear hfz44_4
                          try clear hfz44_5
                          try clear hfz44_6
                          try clear hfz44_7
                          try clear hx114_0
                          try clear hx114_1
                          try clear hx114_2
                          try clear hx114_3
                          try clear p114
                          try clear p2
                          try clear q114
                          obtain ⟨kq, x120006_18, HA, HJ18, BK115, BK116, BK119, HB⟩ := hcut
                          cases kq with
                          | zero => exact absurd HA.out (by simp [bureautop_WholeChains.j3])
                          | succ kj18 =>
                            have H := HA.out
                            clear HA
                            simp only [bureautop_WholeChains.j3] at H
                            replace H := Option.bind_eq_some_iff.mp H
                            obtain ⟨t120, A450, H⟩ := H
                            replace H : (if t120 = 0 then ((bureauref01_Join.f x6_2 ((rd_T30 l1 x7_2).f0)).bind fun t121 => ((bureauref01_Below.f a0 ((rd_T30 l1 x7_2).f2)).bind fun t122 => (if t122 = true then ((bureauref01_Below.f t121 ((rd_T30 l1 x7_2).f2)).bind fun t123 => (if t123 = true then (bureautop_WholeChains.l0 kj18 a0 l1 ((rd_T30 l1 x7_2).f2) t121 (wrap64 (x7_2 + 1))) else (some false))) else (some false)))) else (bureautop_WholeChains.l0 kj18 a0 l1 x5_2 x6_2 (wrap64 (x7_2 + 1)))) = some r := H
                            have A45 := Aside0.mk A450
                            clear A450
                            by_cases c46 : t120 = 0
                            · rw [if_pos c46] at H
                              have c46b0 : (t120 == 0) = true := beq_iff_eq.mpr c46
                              have c46b1 : (t120 != 0) = false := bne_eq_false_iff_eq.mpr c46
                              clear c46
                              replace H := Option.bind_eq_some_iff.mp H
                              obtain ⟨t121, A470, H⟩ := H
                              replace H : ((bureauref01_Below.f a0 ((rd_T30 l1 x7_2).f2)).bind fun t122 => (if t122 = true then ((bureauref01_Below.f t121 ((rd_T30 l1 x7_2).f2)).bind fun t123 => (if t123 = true then (bureautop_WholeChains.l0 kj18 a0 l1 ((rd_T30 l1 x7_2).f2) t121 (wrap64 (x7_2 + 1))) else (some false))) else (some false))) = some r := H
                              have A47 := Aside0.mk A470
                              clear A470
                              replace H := Option.bind_eq_some_iff.mp H
                              obtain ⟨t122, A480, H⟩ := H
                              replace H : (if t122 = true then ((bureauref01_Below.f t121 ((rd_T30 l1 x7_2).f2)).bind fun t123 => (if t123 = true then (bureautop_WholeChains.l0 kj18 a0 l1 ((rd_T30 l1 x7_2).f2) t121 (wrap64 (x7_2 + 1))) else (some false))) else (some false)) = some r := H
                              have A48 := Aside0.mk A480
                              clear A480
                              by_cases c49 : t122 = true
                              · subst c49
                                have H1 : ((bureauref01_Below.f t121 ((rd_T30 l1 x7_2).f2)).bind fun t123 => (if t123 = true then (bureautop_WholeChains.l0 kj18 a0 l1 ((rd_T30 l1 x7_2).f2) t121 (wrap64 (x7_2 + 1))) else (some false))) = some r := by rw [if_pos rfl] at H; exact H
                                clear H
                                have H := H1
                                clear H1
                                replace H := Option.bind_eq_some_iff.mp H
                                obtain ⟨t123, A500, H⟩ := H
                                replace H : (if t123 = true then (bureautop_WholeChains.l0 kj18 a0 l1 ((rd_T30 l1 x7_2).f2) t121 (wrap64 (x7_2 + 1))) else (some false)) = some r := H
                                have A50 := Aside0.mk A500
                                clear A500
                                by_cases c51 : t123 = true
                                · subst c51
                                  have H1 : (bureautop_WholeChains.l0 kj18 a0 l1 ((rd_T30 l1 x7_2).f2) t121 (wrap64 (x7_2 + 1))) = some r := by rw [if_pos rfl] at H; exact H
                                  clear H
                                  have H := H1
                                  clear H1
                                  have H' := Aside0.mk H
                                  clear H
                                  have hnb52 := NB119_115.out
                                  have hnc52 := NB115_119.out
                                  have hnb53 := NB119_116.out
                                  have hnc53 := NB116_119.out
                                  have hcz54_0 : wc.cell? ⟨gb119, 0, none⟩ = some (.bool false) := (blk_cell BK119.out 0).trans rfl
                                  have hcz54_1 : wc.cell? ⟨gb119, 1, none⟩ = some (.bool false) := (blk_cell BK119.out 1).trans rfl
                                  have hcz54_2 : wc.cell? ⟨gb119, 2, none⟩ = some (.int .u64 ((rd_T30 l1 x7_2).f0)) := (blk_cell BK119.out 2).trans rfl
                                  have hcz54_3 : wc.cell? ⟨gb119, 3, none⟩ = some (.int .u64 ((rd_T30 l1 x7_2).f1)) := (blk_cell BK119.out 3).trans rfl
                                  have hcz54_4 : wc.cell? ⟨gb119, 4, none⟩ = some (.int .u64 t118) := (blk_cell BK119.out 4).trans rfl
                                  have hcz54_5 : wc.cell? ⟨gb119, 5, none⟩ = some (.int .u64 ((rd_T30 l1 x7_2).f2)) := (blk_cell BK119.out 5).trans rfl
                                  have hcz54_6 : wc.cell? ⟨gb119, 6, none⟩ = some (.int .i64 x120006_18) := (blk_cell BK119.out 6).trans rfl
                                  have hcz54_7 : wc.cell? ⟨gb119, 7, none⟩ = some (.int .i64 15) := (blk_cell BK119.out 7).trans rfl
                                  have hfz54_0 := blk_frozen BK119.out 0
                                  have hfz54_1 := blk_frozen BK119.out 1
                                  have hfz54_2 := blk_frozen BK119.out 2
                                  have hfz54_3 := blk_frozen BK119.out 3
                                  have hfz54_4 := blk_frozen BK119.out 4
                                  have hfz54_5 := blk_frozen BK119.out 5
                                  have hfz54_6 := blk_frozen BK119.out 6
                                  have hfz54_7 := blk_frozen BK119.out 7
                                  try go_wp2_with (first | ((with_reducible refine gate_callee (f := 4) rfl ?_); refine goesL_ (some 57) rfl rfl Try.func4 (by kernel_rfl) rfl #[.agg #[.bool false, .bool false, .int .u64 ((rd_T30 l1 x7_2).f0), .int .u64 ((rd_T30 l1 x7_2).f1), .int .u64 t118, .int .u64 ((rd_T30 l1 x7_2).f2), .int .i64 x120006_18, .int .i64 15]] rfl (by (try simp only [List.map_toArray, List.map_cons, List.map_nil]); first | done | rfl | (simp only [List.length_drop, List.length_take]; rfl)) ?_; (with_reducible refine (gate_Decide.calls kj18 false false ((rd_T30 l1 x7_2).f0) ((rd_T30 l1 x7_2).f1) t118 ((rd_T30 l1 x7_2).f2) x120006_18 15 t120 _ A45.out).mono ?_); rintro e w55 ⟨rfl, hb⟩; refine ⟨_, rfl, ?_⟩; have n0_ := Aside0.mk (blk_below (g := gb115) (o := .cells #[.int .u64 ((rd_T30 l1 x7_2).f0), .int .u64 ((rd_T30 l1 x7_2).f1), .int .u64 ((rd_T30 l1 x7_2).f2), .bool ((rd_T30 l1 x7_2).f3)] 30 (0, 0)) (by (with_reducible repeat (first | refine blk_drewN ?_ _ | refine blk_drew ?_ | refine blk_alloc ?_ _)); exact BK115.out) hb); have n1_ := Aside0.mk (blk_below (g := gb116) (o := .cells #[.bool false, .bool false, .int .u64 ((rd_T30 l1 x7_2).f0), .int .u64 ((rd_T30 l1 x7_2).f1), .int .u64 0, .int .u64 x5_2, .int .i64 1, .int .i64 15] 28 (0, 0)) (by (with_reducible repeat (first | refine blk_drewN ?_ _ | refine blk_drew ?_ | refine blk_alloc ?_ _)); exact BK116.out) hb); have n2_ := Aside0.mk (blk_below (g := gb119) (o := .cells #[.bool false, .bool false, .int .u64 ((rd_T30 l1 x7_2).f0), .int .u64 ((rd_T30 l1 x7_2).f1), .int .u64 t118, .int .u64 ((rd_T30 l1 x7_2).f2), .int .i64 x120006_18, .int .i64 15] 28 (0, 0)) (by (with_reducible repeat (first | refine blk_drewN ?_ _ | refine blk_drew ?_ | refine blk_alloc ?_ _)); exact BK119.out) hb); have n3_ := Aside0.mk (below_step (by repeat (first | (with_reducible first | exact HB.out | apply below_alloc | apply pw_below_drewN | apply below_drew1 | refine below_set ?_ GE115.out | refine below_set ?_ GE116.out | refine below_set ?_ GE119.out) | exact HB.out)) hb); clear BK115; clear BK116; clear BK119; clear HB; have BK115 := n0_; have BK116 := n1_; have BK119 := n2_; have HB := n3_; clear n0_ n1_ n2_ n3_; (try clear hb); (try clear hb2); (try clear hk); (try clear hi)))
                                  have n0_ := Aside0.mk (blk_drew BK115.out)
                                  have n1_ := Aside0.mk (blk_drew BK116.out)
                                  have n2_ := Aside0.mk (blk_drew BK119.out)
                                  have n3_ := Aside0.mk (below_drew1 HB.out)
                                  clear BK115
                                  clear BK116
                                  clear BK119
                                  clear HB
                                  have BK115 := n0_
                                  have BK116 := n1_
                                  have BK119 := n2_
                                  have HB := n3_
                                  clear n0_ n1_ n2_ n3_
                                  refine start_ (n := 8) (S := fun w' => w'.cell? ⟨gb115, 0, none⟩ = some (.int .u64 ((rd_T30 l1 x7_2).f0)) ∧ w'.cell? ⟨gb115, 1, none⟩ = some (.int .u64 ((rd_T30 l1 x7_2).f1)) ∧ w'.cell? ⟨gb115, 2, none⟩ = some (.int .u64 ((rd_T30 l1 x7_2).f2)) ∧ w'.cell? ⟨gb115, 3, none⟩ = some (.bool ((rd_T30 l1 x7_2).f3))) (ds := []) #[false, false, false, false, false, false, false, false] (by kernel_rfl) rfl rfl ⟨(blk_cell BK115.out 0).trans rfl, (blk_cell BK115.out 1).trans rfl, (blk_cell BK115.out 2).trans rfl, (blk_cell BK115.out 3).trans rfl⟩ (fun hHeld => ?_); refine with_tabW bureautop_WholeChains.tab14 bureautop_WholeChains.bits14 (fun HT_ HW_ => ?_)
                                  generalize w55.drew = w56 at BK115 BK116 BK119 HB hHeld ⊢
                                  refine pure_ (i := 0) (N := some 59) (v := ?_) (a' := ?_) #[true, false, false, false, false, false, false, false] rfl rfl (any_of HT_.out (by kernel_rfl)) (fun _ _ _ h => h) (Or.inl ⟨by rfl, ?_⟩) ?_ ?_
                                  rotate_left
                                  · intro w'
                                    go_simp
                                    with_reducible rfl
                                  rotate_left
                                  · simp only [Act.put, List.setIfInBounds_toArray, List.set_cons_zero, List.set_cons_succ, i64_w, i32_w]
                                    rfl
                                  refine pure_ (i := 2) (N := some 61) (v := ?_) (a' := ?_) #[true, false, true, false, false, false, false, false] rfl rfl (any_of HT_.out (by kernel_rfl)) (fun _ _ _ h => h) (Or.inl ⟨by rfl, ?_⟩) ?_ ?_
                                  rotate_left
                                  · intro w'
                                    go_simp
                                    with_reducible rfl
                                  rotate_left
                                  · simp only [Act.put, List.setIfInBounds_toArray, List.set_cons_zero, List.set_cons_succ, i64_w, i32_w]
                                    rfl
                                  refine pure_ (i := 3) (N := some 62) (v := ?_) (a' := ?_) #[true, false, true, true, false, false, false, false] rfl rfl (any_of HT_.out (by kernel_rfl)) (fun _ _ _ h => h) (Or.inl ⟨by rfl, ?_⟩) ?_ ?_
                                  rotate_left
                                  · intro w'
                                    go_simp
                                    with_reducible rfl
                                  rotate_left
                                  · simp only [Act.put, List.setIfInBounds_toArray, List.set_cons_zero, List.set_cons_succ, i64_w, i32_w]
                                    rfl
                                  refine take_ (i := 1) (N := some 60) (v := ?_) (a' := ?_) #[true, true, true, true, false, false, false, false] rfl rfl (take_ofW HT_.out HW_.out (by kernel_rfl)) (fun _ _ _ h => h) (Or.inl ⟨by rfl, ?_⟩) hHeld ?_ ?_
                                  rotate_left
                                  · rintro w' ⟨s0, s1, s2, s3⟩
                                    go_simp
                                    with_reducible rfl
                                  rotate_left
                                  · simp only [Act.put, List.setIfInBounds_toArray, List.set_cons_zero, List.set_cons_succ, i64_w, i32_w]
                                    rfl
                                  refine take_ (i := 4) (N := some 63) (v := ?_) (a' := ?_) #[true, true, true, true, true, false, false, false] rfl rfl (take_ofW HT_.out HW_.out (by kernel_rfl)) (fun _ _ _ h => h) (Or.inl ⟨by rfl, ?_⟩) hHeld ?_ ?_
                                  rotate_left
                                  · rintro w' ⟨s0, s1, s2, s3⟩
                                    go_simp
                                    with_reducible rfl
                                  rotate_left
                                  · simp only [Act.put, List.setIfInBounds_toArray, List.set_cons_zero, List.set_cons_succ, i64_w, i32_w]
                                    rfl
                                  refine one_ (i := 5) (N := some 64) #[true, true, true, true, true, true, false, false] rfl rfl (one_of HT_.out (by kernel_rfl)) (by decide) (fun K hK => ?_)
                                  refine goes_ Try.func6 (by kernel_rfl) rfl #[.int .u64 x6_2, .int .u64 ((rd_T30 l1 x7_2).f0)] (by rfl) rfl rfl (by (try simp only [List.map_toArray, List.map_cons, List.map_nil]); first | done | rfl | (simp only [List.length_drop, List.length_take]; rfl)) ?_
                                  with_reducible refine (bureauref01_Join.calls x6_2 ((rd_T30 l1 x7_2).f0) t121 _ A47.out).mono ?_
                                  rintro e w57 ⟨rfl, hb⟩
                                  refine ⟨_, rfl, ?_⟩
                                  have n0_ := Aside0.mk (blk_below (g := gb115) (o := .cells #[.int .u64 ((rd_T30 l1 x7_2).f0), .int .u64 ((rd_T30 l1 x7_2).f1), .int .u64 ((rd_T30 l1 x7_2).f2), .bool ((rd_T30 l1 x7_2).f3)] 30 (0, 0)) (by (with_reducible repeat (first | refine blk_drewN ?_ _ | refine blk_drew ?_ | refine blk_alloc ?_ _)); exact BK115.out) hb)
                                  have n1_ := Aside0.mk (blk_below (g := gb116) (o := .cells #[.bool false, .bool false, .int .u64 ((rd_T30 l1 x7_2).f0), .int .u64 ((rd_T30 l1 x7_2).f1), .int .u64 0, .int .u64 x5_2, .int .i64 1, .int .i64 15] 28 (0, 0)) (by (with_reducible repeat (first | refine blk_drewN ?_ _ | refine blk_drew ?_ | refine blk_alloc ?_ _)); exact BK116.out) hb)
                                  have n2_ := Aside0.mk (blk_below (g := gb119) (o := .cells #[.bool false, .bool false, .int .u64 ((rd_T30 l1 x7_2).f0), .int .u64 ((rd_T30 l1 x7_2).f1), .int .u64 t118, .int .u64 ((rd_T30 l1 x7_2).f2), .int .i64 x120006_18, .int .i64 15] 28 (0, 0)) (by (with_reducible repeat (first | refine blk_drewN ?_ _ | refine blk_drew ?_ | refine blk_alloc ?_ _)); exact BK119.out) hb)
                                  have n3_ := Aside0.mk (below_step (by repeat (first | (with_reducible first | exact HB.out | apply below_alloc | apply pw_below_drewN | apply below_drew1 | refine below_set ?_ GE115.out | refine below_set ?_ GE116.out | refine below_set ?_ GE119.out) | exact HB.out)) hb)
                                  clear BK115
                                  clear BK116
                                  clear BK119
                                  clear HB
                                  have BK115 := n0_
                                  have BK116 := n1_
                                  have BK119 := n2_
                                  have HB := n3_
                                  clear n0_ n1_ n2_ n3_
                                  (try clear hb)
                                  (try clear hb2)
                                  (try clear hk)
                                  (try clear hi)
                                  refine hK.out _ _ ⟨(blk_cell BK115.out 0).trans rfl, (blk_cell BK115.out 1).trans rfl, (blk_cell BK115.out 2).trans rfl, (blk_cell BK115.out 3).trans rfl⟩ (fun hHeld => ?_)
                                  clear hK K
                                  refine norm_ (a' := ?_) ?_ ?_
                                  rotate_left
                                  · show Act.put _ (some 64) _ = _
                                    simp only [Act.put, List.setIfInBounds_toArray, List.set_cons_zero, List.set_cons_succ, i64_w, i32_w]
                                    rfl
                                  refine pure_ (i := 6) (N := some 5) (v := ?_) (a' := ?_) #[true, true, true, true, true, true, true, false] rfl rfl (any_of HT_.out (by kernel_rfl)) (fun _ _ _ h => h) (Or.inl ⟨by rfl, ?_⟩) ?_ ?_
                                  rotate_left
                                  · intro w'
                                    go_simp
                                    with_reducible rfl
                                  rotate_left
                                  · simp only [Act.put, List.setIfInBounds_toArray, List.set_cons_zero, List.set_cons_succ, i64_w, i32_w]
                                    rfl
                                  refine pure_ (i := 7) (N := some 6) (v := ?_) (a' := ?_) #[true, true, true, true, true, true, true, true] rfl rfl (any_of HT_.out (by kernel_rfl)) (fun _ _ _ h => h) (Or.inl ⟨by rfl, ?_⟩) ?_ ?_
                                  rotate_left
                                  · intro w'
                                    go_simp
                                    with_reducible rfl
                                  rotate_left
                                  · simp only [Act.put, List.setIfInBounds_toArray, List.set_cons_zero, List.set_cons_succ, i64_w, i32_w]
                                    rfl
                                  refine done_ (done_of HT_.out (by kernel_rfl)) ?_
                                  try go_wp2_with (first | ((with_reducible refine gate_callee (f := 7) rfl ?_); refine goesL_ (some 67) rfl rfl Try.func7 (by kernel_rfl) rfl #[.int .u64 a0, .int .u64 ((rd_T30 l1 x7_2).f2)] rfl (by (try simp only [List.map_toArray, List.map_cons, List.map_nil]); first | done | rfl | (simp only [List.length_drop, List.length_take]; rfl)) ?_; (with_reducible refine (bureauref01_Below.calls a0 ((rd_T30 l1 x7_2).f2) true _ A48.out).mono ?_); rintro e w58 ⟨rfl, hb⟩; refine ⟨_, rfl, ?_⟩; have n0_ := Aside0.mk (blk_below (g := gb115) (o := .cells #[.int .u64 ((rd_T30 l1 x7_2).f0), .int .u64 ((rd_T30 l1 x7_2).f1), .int .u64 ((rd_T30 l1 x7_2).f2), .bool ((rd_T30 l1 x7_2).f3)] 30 (0, 0)) (by (with_reducible repeat (first | refine blk_drewN ?_ _ | refine blk_drew ?_ | refine blk_alloc ?_ _)); exact BK115.out) hb); have n1_ := Aside0.mk (blk_below (g := gb116) (o := .cells #[.bool false, .bool false, .int .u64 ((rd_T30 l1 x7_2).f0), .int .u64 ((rd_T30 l1 x7_2).f1), .int .u64 0, .int .u64 x5_2, .int .i64 1, .int .i64 15] 28 (0, 0)) (by (with_reducible repeat (first | refine blk_drewN ?_ _ | refine blk_drew ?_ | refine blk_alloc ?_ _)); exact BK116.out) hb); have n2_ := Aside0.mk (blk_below (g := gb119) (o := .cells #[.bool false, .bool false, .int .u64 ((rd_T30 l1 x7_2).f0), .int .u64 ((rd_T30 l1 x7_2).f1), .int .u64 t118, .int .u64 ((rd_T30 l1 x7_2).f2), .int .i64 x120006_18, .int .i64 15] 28 (0, 0)) (by (with_reducible repeat (first | refine blk_drewN ?_ _ | refine blk_drew ?_ | refine blk_alloc ?_ _)); exact BK119.out) hb); have n3_ := Aside0.mk (below_step (by repeat (first | (with_reducible first | exact HB.out | apply below_alloc | apply pw_below_drewN | apply below_drew1 | refine below_set ?_ GE115.out | refine below_set ?_ GE116.out | refine below_set ?_ GE119.out) | exact HB.out)) hb); clear BK115; clear BK116; clear BK119; clear HB; have BK115 := n0_; have BK116 := n1_; have BK119 := n2_; have HB := n3_; clear n0_ n1_ n2_ n3_; (try clear hb); (try clear hb2); (try clear hk); (try clear hi)) | (go_at_call 7; (with_reducible refine (bureauref01_Below.calls t121 ((rd_T30 l1 x7_2).f2) true _ A50.out).mono ?_); rintro e w59 ⟨rfl, hb⟩; have n0_ := Aside0.mk (blk_below (g := gb115) (o := .cells #[.int .u64 ((rd_T30 l1 x7_2).f0), .int .u64 ((rd_T30 l1 x7_2).f1), .int .u64 ((rd_T30 l1 x7_2).f2), .bool ((rd_T30 l1 x7_2).f3)] 30 (0, 0)) (by (with_reducible repeat (first | refine blk_drewN ?_ _ | refine blk_drew ?_ | refine blk_alloc ?_ _)); exact BK115.out) hb); have n1_ := Aside0.mk (blk_below (g := gb116) (o := .cells #[.bool false, .bool false, .int .u64 ((rd_T30 l1 x7_2).f0), .int .u64 ((rd_T30 l1 x7_2).f1), .int .u64 0, .int .u64 x5_2, .int .i64 1, .int .i64 15] 28 (0, 0)) (by (with_reducible repeat (first | refine blk_drewN ?_ _ | refine blk_drew ?_ | refine blk_alloc ?_ _)); exact BK116.out) hb); have n2_ := Aside0.mk (blk_below (g := gb119) (o := .cells #[.bool false, .bool false, .int .u64 ((rd_T30 l1 x7_2).f0), .int .u64 ((rd_T30 l1 x7_2).f1), .int .u64 t118, .int .u64 ((rd_T30 l1 x7_2).f2), .int .i64 x120006_18, .int .i64 15] 28 (0, 0)) (by (with_reducible repeat (first | refine blk_drewN ?_ _ | refine blk_drew ?_ | refine blk_alloc ?_ _)); exact BK119.out) hb); have n3_ := Aside0.mk (below_step (by repeat (first | (with_reducible first | exact HB.out | apply below_alloc | apply pw_below_drewN | apply below_drew1 | refine below_set ?_ GE115.out | refine below_set ?_ GE116.out | refine below_set ?_ GE119.out) | exact HB.out)) hb); clear BK115; clear BK116; clear BK119; clear HB; have BK115 := n0_; have BK116 := n1_; have BK119 := n2_; have HB := n3_; clear n0_ n1_ n2_ n3_; (try clear hb); (try clear hb2); (try clear hk); (try clear hi)))
                                  go_roundg kj18
                                  case measure => have := HJ2.out; have := HK2.out; have := HJ10.out; have := HJ18.out; omega
                                  case rel => exact ⟨(((rd_T30 l1 x7_2).f2)), (t121), (wrap64 (x7_2 + 1)), (by first | rfl | (simp; done) | (simp [*]; done)), (by first | rfl | (simp; done) | (simp [*]; done)), (by first | rfl | (simp; done) | (simp [*]; done)), H', ⟨by have := HJ2.out; have := HK2.out; have := HJ10.out; have := HJ18.out; omega⟩, ⟨by repeat (first | (with_reducible first | exact HB.out | apply below_alloc | apply pw_below_drewN | apply below_drew1 | refine below_set ?_ GE115.out | refine below_set ?_ GE116.out | refine below_set ?_ GE119.out) | exact HB.out)⟩⟩
                                · replace c51 := Bool.eq_false_iff.mpr c51
                                  subst c51
                                  have H1 : (some false) = some r := by rw [if_neg (show ¬ (false = true) by decide)] at H; exact H
                                  clear H
                                  have H := H1
                                  clear H1
                                  obtain rfl := Option.some.inj H
                                  have hnb60 := NB119_115.out
                                  have hnc60 := NB115_119.out
                                  have hnb61 := NB119_116.out
                                  have hnc61 := NB116_119.out
                                  have hcz62_0 : wc.cell? ⟨gb119, 0, none⟩ = some (.bool false) := (blk_cell BK119.out 0).trans rfl
                                  have hcz62_1 : wc.cell? ⟨gb119, 1, none⟩ = some (.bool false) := (blk_cell BK119.out 1).trans rfl
                                  have hcz62_2 : wc.cell? ⟨gb119, 2, none⟩ = some (.int .u64 ((rd_T30 l1 x7_2).f0)) := (blk_cell BK119.out 2).trans rfl
                                  have hcz62_3 : wc.cell? ⟨gb119, 3, none⟩ = some (.int .u64 ((rd_T30 l1 x7_2).f1)) := (blk_cell BK119.out 3).trans rfl
                                  have hcz62_4 : wc.cell? ⟨gb119, 4, none⟩ = some (.int .u64 t118) := (blk_cell BK119.out 4).trans rfl
                                  have hcz62_5 : wc.cell? ⟨gb119, 5, none⟩ = some (.int .u64 ((rd_T30 l1 x7_2).f2)) := (blk_cell BK119.out 5).trans rfl
                                  have hcz62_6 : wc.cell? ⟨gb119, 6, none⟩ = some (.int .i64 x120006_18) := (blk_cell BK119.out 6).trans rfl
                                  have hcz62_7 : wc.cell? ⟨gb119, 7, none⟩ = some (.int .i64 15) := (blk_cell BK119.out 7).trans rfl
                                  have hfz62_0 := blk_frozen BK119.out 0
                                  have hfz62_1 := blk_frozen BK119.out 1
                                  have hfz62_2 := blk_frozen BK119.out 2
                                  have hfz62_3 := blk_frozen BK119.out 3
                                  have hfz62_4 := blk_frozen BK119.out 4
                                  have hfz62_5 := blk_frozen BK119.out 5
                                  have hfz62_6 := blk_frozen BK119.out 6
                                  have hfz62_7 := blk_frozen BK119.out 7
                                  try go_wp2_with (first | ((with_reducible refine gate_callee (f := 4) rfl ?_); refine goesL_ (some 57) rfl rfl Try.func4 (by kernel_rfl) rfl #[.agg #[.bool false, .bool false, .int .u64 ((rd_T30 l1 x7_2).f0), .int .u64 ((rd_T30 l1 x7_2).f1), .int .u64 t118, .int .u64 ((rd_T30 l1 x7_2).f2), .int .i64 x120006_18, .int .i64 15]] rfl (by (try simp only [List.map_toArray, List.map_cons, List.map_nil]); first | done | rfl | (simp only [List.length_drop, List.length_take]; rfl)) ?_; (with_reducible refine (gate_Decide.calls kj18 false false ((rd_T30 l1 x7_2).f0) ((rd_T30 l1 x7_2).f1) t118 ((rd_T30 l1 x7_2).f2) x120006_18 15 t120 _ A45.out).mono ?_); rintro e w63 ⟨rfl, hb⟩; refine ⟨_, rfl, ?_⟩; have n0_ := Aside0.mk (blk_below (g := gb115) (o := .cells #[.int .u64 ((rd_T30 l1 x7_2).f0), .int .u64 ((rd_T30 l1 x7_2).f1), .int .u64 ((rd_T30 l1 x7_2).f2), .bool ((rd_T30 l1 x7_2).f3)] 30 (0, 0)) (by (with_reducible repeat (first | refine blk_drewN ?_ _ | refine blk_drew ?_ | refine blk_alloc ?_ _)); exact BK115.out) hb); have n1_ := Aside0.mk (blk_below (g := gb116) (o := .cells #[.bool false, .bool false, .int .u64 ((rd_T30 l1 x7_2).f0), .int .u64 ((rd_T30 l1 x7_2).f1), .int .u64 0, .int .u64 x5_2, .int .i64 1, .int .i64 15] 28 (0, 0)) (by (with_reducible repeat (first | refine blk_drewN ?_ _ | refine blk_drew ?_ | refine blk_alloc ?_ _)); exact BK116.out) hb); have n2_ := Aside0.mk (blk_below (g := gb119) (o := .cells #[.bool false, .bool false, .int .u64 ((rd_T30 l1 x7_2).f0), .int .u64 ((rd_T30 l1 x7_2).f1), .int .u64 t118, .int .u64 ((rd_T30 l1 x7_2).f2), .int .i64 x120006_18, .int .i64 15] 28 (0, 0)) (by (with_reducible repeat (first | refine blk_drewN ?_ _ | refine blk_drew ?_ | refine blk_alloc ?_ _)); exact BK119.out) hb); have n3_ := Aside0.mk (below_step (by repeat (first | (with_reducible first | exact HB.out | apply below_alloc | apply pw_below_drewN | apply below_drew1 | refine below_set ?_ GE115.out | refine below_set ?_ GE116.out | refine below_set ?_ GE119.out) | exact HB.out)) hb); clear BK115; clear BK116; clear BK119; clear HB; have BK115 := n0_; have BK116 := n1_; have BK119 := n2_; have HB := n3_; clear n0_ n1_ n2_ n3_; (try clear hb); (try clear hb2); (try clear hk); (try clear hi)))
                                  have n0_ := Aside0.mk (blk_drew BK115.out)
                                  have n1_ := Aside0.mk (blk_drew BK116.out)
                                  have n2_ := Aside0.mk (blk_drew BK119.out)
                                  have n3_ := Aside0.mk (below_drew1 HB.out)
                                  clear BK115
                                  clear BK116
                                  clear BK119
                                  clear HB
                                  have BK115 := n0_
                                  have BK116 := n1_
                                  have BK119 := n2_
                                  have HB := n3_
                                  clear n0_ n1_ n2_ n3_
                                  refine start_ (n := 8) (S := fun w' => w'.cell? ⟨gb115, 0, none⟩ = some (.int .u64 ((rd_T30 l1 x7_2).f0)) ∧ w'.cell? ⟨gb115, 1, none⟩ = some (.int .u64 ((rd_T30 l1 x7_2).f1)) ∧ w'.cell? ⟨gb115, 2, none⟩ = some (.int .u64 ((rd_T30 l1 x7_2).f2)) ∧ w'.cell? ⟨gb115, 3, none⟩ = some (.bool ((rd_T30 l1 x7_2).f3))) (ds := []) #[false, false, false, false, false, false, false, false] (by kernel_rfl) rfl rfl ⟨(blk_cell BK115.out 0).trans rfl, (blk_cell BK115.out 1).trans rfl, (blk_cell BK115.out 2).trans rfl, (blk_cell BK115.out 3).trans rfl⟩ (fun hHeld => ?_); refine with_tabW bureautop_WholeChains.tab14 bureautop_WholeChains.bits14 (fun HT_ HW_ => ?_)
                                  generalize w63.drew = w64 at BK115 BK116 BK119 HB hHeld ⊢
                                  refine pure_ (i := 0) (N := some 59) (v := ?_) (a' := ?_) #[true, false, false, false, false, false, false, false] rfl rfl (any_of HT_.out (by kernel_rfl)) (fun _ _ _ h => h) (Or.inl ⟨by rfl, ?_⟩) ?_ ?_
                                  rotate_left
                                  · intro w'
                                    go_simp
                                    with_reducible rfl
                                  rotate_left
                                  · simp only [Act.put, List.setIfInBounds_toArray, List.set_cons_zero, List.set_cons_succ, i64_w, i32_w]
                                    rfl
                                  refine pure_ (i := 2) (N := some 61) (v := ?_) (a' := ?_) #[true, false, true, false, false, false, false, false] rfl rfl (any_of HT_.out (by kernel_rfl)) (fun _ _ _ h => h) (Or.inl ⟨by rfl, ?_⟩) ?_ ?_
                                  rotate_left
                                  · intro w'
                                    go_simp
                                    with_reducible rfl
                                  rotate_left
                                  · simp only [Act.put, List.setIfInBounds_toArray, List.set_cons_zero, List.set_cons_succ, i64_w, i32_w]
                                    rfl
                                  refine pure_ (i := 3) (N := some 62) (v := ?_) (a' := ?_) #[true, false, true, true, false, false, false, false] rfl rfl (any_of HT_.out (by kernel_rfl)) (fun _ _ _ h => h) (Or.inl ⟨by rfl, ?_⟩) ?_ ?_
                                  rotate_left
                                  · intro w'
                                    go_simp
                                    with_reducible rfl
                                  rotate_left
                                  · simp only [Act.put, List.setIfInBounds_toArray, List.set_cons_zero, List.set_cons_succ, i64_w, i32_w]
                                    rfl
                                  refine take_ (i := 1) (N := some 60) (v := ?_) (a' := ?_) #[true, true, true, true, false, false, false, false] rfl rfl (take_ofW HT_.out HW_.out (by kernel_rfl)) (fun _ _ _ h => h) (Or.inl ⟨by rfl, ?_⟩) hHeld ?_ ?_
                                  rotate_left
                                  · rintro w' ⟨s0, s1, s2, s3⟩
                                    go_simp
                                    with_reducible rfl
                                  rotate_left
                                  · simp only [Act.put, List.setIfInBounds_toArray, List.set_cons_zero, List.set_cons_succ, i64_w, i32_w]
                                    rfl
                                  refine take_ (i := 4) (N := some 63) (v := ?_) (a' := ?_) #[true, true, true, true, true, false, false, false] rfl rfl (take_ofW HT_.out HW_.out (by kernel_rfl)) (fun _ _ _ h => h) (Or.inl ⟨by rfl, ?_⟩) hHeld ?_ ?_
                                  rotate_left
                                  · rintro w' ⟨s0, s1, s2, s3⟩
                                    go_simp
                                    with_reducible rfl
                                  rotate_left
                                  · simp only [Act.put, List.setIfInBounds_toArray, List.set_cons_zero, List.set_cons_succ, i64_w, i32_w]
                                    rfl
                                  refine one_ (i := 5) (N := some 64) #[true, true, true, true, true, true, false, false] rfl rfl (one_of HT_.out (by kernel_rfl)) (by decide) (fun K hK => ?_)
                                  refine goes_ Try.func6 (by kernel_rfl) rfl #[.int .u64 x6_2, .int .u64 ((rd_T30 l1 x7_2).f0)] (by rfl) rfl rfl (by (try simp only [List.map_toArray, List.map_cons, List.map_nil]); first | done | rfl | (simp only [List.length_drop, List.length_take]; rfl)) ?_
                                  with_reducible refine (bureauref01_Join.calls x6_2 ((rd_T30 l1 x7_2).f0) t121 _ A47.out).mono ?_
                                  rintro e w65 ⟨rfl, hb⟩
                                  refine ⟨_, rfl, ?_⟩
                                  have n0_ := Aside0.mk (blk_below (g := gb115) (o := .cells #[.int .u64 ((rd_T30 l1 x7_2).f0), .int .u64 ((rd_T30 l1 x7_2).f1), .int .u64 ((rd_T30 l1 x7_2).f2), .bool ((rd_T30 l1 x7_2).f3)] 30 (0, 0)) (by (with_reducible repeat (first | refine blk_drewN ?_ _ | refine blk_drew ?_ | refine blk_alloc ?_ _)); exact BK115.out) hb)
                                  have n1_ := Aside0.mk (blk_below (g := gb116) (o := .cells #[.bool false, .bool false, .int .u64 ((rd_T30 l1 x7_2).f0), .int .u64 ((rd_T30 l1 x7_2).f1), .int .u64 0, .int .u64 x5_2, .int .i64 1, .int .i64 15] 28 (0, 0)) (by (with_reducible repeat (first | refine blk_drewN ?_ _ | refine blk_drew ?_ | refine blk_alloc ?_ _)); exact BK116.out) hb)
                                  have n2_ := Aside0.mk (blk_below (g := gb119) (o := .cells #[.bool false, .bool false, .int .u64 ((rd_T30 l1 x7_2).f0), .int .u64 ((rd_T30 l1 x7_2).f1), .int .u64 t118, .int .u64 ((rd_T30 l1 x7_2).f2), .int .i64 x120006_18, .int .i64 15] 28 (0, 0)) (by (with_reducible repeat (first | refine blk_drewN ?_ _ | refine blk_drew ?_ | refine blk_alloc ?_ _)); exact BK119.out) hb)
                                  have n3_ := Aside0.mk (below_step (by repeat (first | (with_reducible first | exact HB.out | apply below_alloc | apply pw_below_drewN | apply below_drew1 | refine below_set ?_ GE115.out | refine below_set ?_ GE116.out | refine below_set ?_ GE119.out) | exact HB.out)) hb)
                                  clear BK115
                                  clear BK116
                                  clear BK119
                                  clear HB
                                  have BK115 := n0_
                                  have BK116 := n1_
                                  have BK119 := n2_
                                  have HB := n3_
                                  clear n0_ n1_ n2_ n3_
                                  (try clear hb)
                                  (try clear hb2)
                                  (try clear hk)
                                  (try clear hi)
                                  refine hK.out _ _ ⟨(blk_cell BK115.out 0).trans rfl, (blk_cell BK115.out 1).trans rfl, (blk_cell BK115.out 2).trans rfl, (blk_cell BK115.out 3).trans rfl⟩ (fun hHeld => ?_)
                                  clear hK K
                                  refine norm_ (a' := ?_) ?_ ?_
                                  rotate_left
                                  · show Act.put _ (some 64) _ = _
                                    simp only [Act.put, List.setIfInBounds_toArray, List.set_cons_zero, List.set_cons_succ, i64_w, i32_w]
                                    rfl
                                  refine pure_ (i := 6) (N := some 5) (v := ?_) (a' := ?_) #[true, true, true, true, true, true, true, false] rfl rfl (any_of HT_.out (by kernel_rfl)) (fun _ _ _ h => h) (Or.inl ⟨by rfl, ?_⟩) ?_ ?_
                                  rotate_left
                                  · intro w'
                                    go_simp
                                    with_reducible rfl
                                  rotate_left
                                  · simp only [Act.put, List.setIfInBounds_toArray, List.set_cons_zero, List.set_cons_succ, i64_w, i32_w]
                                    rfl
                                  refine pure_ (i := 7) (N := some 6) (v := ?_) (a' := ?_) #[true, true, true, true, true, true, true, true] rfl rfl (any_of HT_.out (by kernel_rfl)) (fun _ _ _ h => h) (Or.inl ⟨by rfl, ?_⟩) ?_ ?_
                                  rotate_left
                                  · intro w'
                                    go_simp
                                    with_reducible rfl
                                  rotate_left
                                  · simp only [Act.put, List.setIfInBounds_toArray, List.set_cons_zero, List.set_cons_succ, i64_w, i32_w]
                                    rfl
                                  refine done_ (done_of HT_.out (by kernel_rfl)) ?_
                                  try go_wp2_with (first | ((with_reducible refine gate_callee (f := 7) rfl ?_); refine goesL_ (some 67) rfl rfl Try.func7 (by kernel_rfl) rfl #[.int .u64 a0, .int .u64 ((rd_T30 l1 x7_2).f2)] rfl (by (try simp only [List.map_toArray, List.map_cons, List.map_nil]); first | done | rfl | (simp only [List.length_drop, List.length_take]; rfl)) ?_; (with_reducible refine (bureauref01_Below.calls a0 ((rd_T30 l1 x7_2).f2) true _ A48.out).mono ?_); rintro e w66 ⟨rfl, hb⟩; refine ⟨_, rfl, ?_⟩; have n0_ := Aside0.mk (blk_below (g := gb115) (o := .cells #[.int .u64 ((rd_T30 l1 x7_2).f0), .int .u64 ((rd_T30 l1 x7_2).f1), .int .u64 ((rd_T30 l1 x7_2).f2), .bool ((rd_T30 l1 x7_2).f3)] 30 (0, 0)) (by (with_reducible repeat (first | refine blk_drewN ?_ _ | refine blk_drew ?_ | refine blk_alloc ?_ _)); exact BK115.out) hb); have n1_ := Aside0.mk (blk_below (g := gb116) (o := .cells #[.bool false, .bool false, .int .u64 ((rd_T30 l1 x7_2).f0), .int .u64 ((rd_T30 l1 x7_2).f1), .int .u64 0, .int .u64 x5_2, .int .i64 1, .int .i64 15] 28 (0, 0)) (by (with_reducible repeat (first | refine blk_drewN ?_ _ | refine blk_drew ?_ | refine blk_alloc ?_ _)); exact BK116.out) hb); have n2_ := Aside0.mk (blk_below (g := gb119) (o := .cells #[.bool false, .bool false, .int .u64 ((rd_T30 l1 x7_2).f0), .int .u64 ((rd_T30 l1 x7_2).f1), .int .u64 t118, .int .u64 ((rd_T30 l1 x7_2).f2), .int .i64 x120006_18, .int .i64 15] 28 (0, 0)) (by (with_reducible repeat (first | refine blk_drewN ?_ _ | refine blk_drew ?_ | refine blk_alloc ?_ _)); exact BK119.out) hb); have n3_ := Aside0.mk (below_step (by repeat (first | (with_reducible first | exact HB.out | apply below_alloc | apply pw_below_drewN | apply below_drew1 | refine below_set ?_ GE115.out | refine below_set ?_ GE116.out | refine below_set ?_ GE119.out) | exact HB.out)) hb); clear BK115; clear BK116; clear BK119; clear HB; have BK115 := n0_; have BK116 := n1_; have BK119 := n2_; have HB := n3_; clear n0_ n1_ n2_ n3_; (try clear hb); (try clear hb2); (try clear hk); (try clear hi)) | (go_at_call 7; (with_reducible refine (bureauref01_Below.calls t121 ((rd_T30 l1 x7_2).f2) false _ A50.out).mono ?_); rintro e w67 ⟨rfl, hb⟩; have n0_ := Aside0.mk (blk_below (g := gb115) (o := .cells #[.int .u64 ((rd_T30 l1 x7_2).f0), .int .u64 ((rd_T30 l1 x7_2).f1), .int .u64 ((rd_T30 l1 x7_2).f2), .bool ((rd_T30 l1 x7_2).f3)] 30 (0, 0)) (by (with_reducible repeat (first | refine blk_drewN ?_ _ | refine blk_drew ?_ | refine blk_alloc ?_ _)); exact BK115.out) hb); have n1_ := Aside0.mk (blk_below (g := gb116) (o := .cells #[.bool false, .bool false, .int .u64 ((rd_T30 l1 x7_2).f0), .int .u64 ((rd_T30 l1 x7_2).f1), .int .u64 0, .int .u64 x5_2, .int .i64 1, .int .i64 15] 28 (0, 0)) (by (with_reducible repeat (first | refine blk_drewN ?_ _ | refine blk_drew ?_ | refine blk_alloc ?_ _)); exact BK116.out) hb); have n2_ := Aside0.mk (blk_below (g := gb119) (o := .cells #[.bool false, .bool false, .int .u64 ((rd_T30 l1 x7_2).f0), .int .u64 ((rd_T30 l1 x7_2).f1), .int .u64 t118, .int .u64 ((rd_T30 l1 x7_2).f2), .int .i64 x120006_18, .int .i64 15] 28 (0, 0)) (by (with_reducible repeat (first | refine blk_drewN ?_ _ | refine blk_drew ?_ | refine blk_alloc ?_ _)); exact BK119.out) hb); have n3_ := Aside0.mk (below_step (by repeat (first | (with_reducible first | exact HB.out | apply below_alloc | apply pw_below_drewN | apply below_drew1 | refine below_set ?_ GE115.out | refine below_set ?_ GE116.out | refine below_set ?_ GE119.out) | exact HB.out)) hb); clear BK115; clear BK116; clear BK119; clear HB; have BK115 := n0_; have BK116 := n1_; have BK119 := n2_; have HB := n3_; clear n0_ n1_ n2_ n3_; (try clear hb); (try clear hb2); (try clear hk); (try clear hi)))
                                  go_ret
                                  exact ⟨by first | rfl | (simp [errW_none, errW_some] <;> rfl) | (simp [*, errW_none, errW_some] <;> rfl), by repeat (first | (with_reducible first | exact HB.out | apply below_alloc | apply pw_below_drewN | apply below_drew1 | refine below_set ?_ GE115.out | refine below_set ?_ GE116.out | refine below_set ?_ GE119.out) | exact HB.out)⟩
                              · replace c49 := Bool.eq_false_iff.mpr c49
                                subst c49
                                have H1 : (some false) = some r := by rw [if_neg (show ¬ (false = true) by decide)] at H; exact H
                                clear H
                                have H := H1
                                clear H1
                                obtain rfl := Option.some.inj H
                                have hnb68 := NB119_115.out
                                have hnc68 := NB115_119.out
                                have hnb69 := NB119_116.out
                                have hnc69 := NB116_119.out
                                have hcz70_0 : wc.cell? ⟨gb119, 0, none⟩ = some (.bool false) := (blk_cell BK119.out 0).trans rfl
                                have hcz70_1 : wc.cell? ⟨gb119, 1, none⟩ = some (.bool false) := (blk_cell BK119.out 1).trans rfl
                                have hcz70_2 : wc.cell? ⟨gb119, 2, none⟩ = some (.int .u64 ((rd_T30 l1 x7_2).f0)) := (blk_cell BK119.out 2).trans rfl
                                have hcz70_3 : wc.cell? ⟨gb119, 3, none⟩ = some (.int .u64 ((rd_T30 l1 x7_2).f1)) := (blk_cell BK119.out 3).trans rfl
                                have hcz70_4 : wc.cell? ⟨gb119, 4, none⟩ = some (.int .u64 t118) := (blk_cell BK119.out 4).trans rfl
                                have hcz70_5 : wc.cell? ⟨gb119, 5, none⟩ = some (.int .u64 ((rd_T30 l1 x7_2).f2)) := (blk_cell BK119.out 5).trans rfl
                                have hcz70_6 : wc.cell? ⟨gb119, 6, none⟩ = some (.int .i64 x120006_18) := (blk_cell BK119.out 6).trans rfl
                                have hcz70_7 : wc.cell? ⟨gb119, 7, none⟩ = some (.int .i64 15) := (blk_cell BK119.out 7).trans rfl
                                have hfz70_0 := blk_frozen BK119.out 0
                                have hfz70_1 := blk_frozen BK119.out 1
                                have hfz70_2 := blk_frozen BK119.out 2
                                have hfz70_3 := blk_frozen BK119.out 3
                                have hfz70_4 := blk_frozen BK119.out 4
                                have hfz70_5 := blk_frozen BK119.out 5
                                have hfz70_6 := blk_frozen BK119.out 6
                                have hfz70_7 := blk_frozen BK119.out 7
                                try go_wp2_with (first | ((with_reducible refine gate_callee (f := 4) rfl ?_); refine goesL_ (some 57) rfl rfl Try.func4 (by kernel_rfl) rfl #[.agg #[.bool false, .bool false, .int .u64 ((rd_T30 l1 x7_2).f0), .int .u64 ((rd_T30 l1 x7_2).f1), .int .u64 t118, .int .u64 ((rd_T30 l1 x7_2).f2), .int .i64 x120006_18, .int .i64 15]] rfl (by (try simp only [List.map_toArray, List.map_cons, List.map_nil]); first | done | rfl | (simp only [List.length_drop, List.length_take]; rfl)) ?_; (with_reducible refine (gate_Decide.calls kj18 false false ((rd_T30 l1 x7_2).f0) ((rd_T30 l1 x7_2).f1) t118 ((rd_T30 l1 x7_2).f2) x120006_18 15 t120 _ A45.out).mono ?_); rintro e w71 ⟨rfl, hb⟩; refine ⟨_, rfl, ?_⟩; have n0_ := Aside0.mk (blk_below (g := gb115) (o := .cells #[.int .u64 ((rd_T30 l1 x7_2).f0), .int .u64 ((rd_T30 l1 x7_2).f1), .int .u64 ((rd_T30 l1 x7_2).f2), .bool ((rd_T30 l1 x7_2).f3)] 30 (0, 0)) (by (with_reducible repeat (first | refine blk_drewN ?_ _ | refine blk_drew ?_ | refine blk_alloc ?_ _)); exact BK115.out) hb); have n1_ := Aside0.mk (blk_below (g := gb116) (o := .cells #[.bool false, .bool false, .int .u64 ((rd_T30 l1 x7_2).f0), .int .u64 ((rd_T30 l1 x7_2).f1), .int .u64 0, .int .u64 x5_2, .int .i64 1, .int .i64 15] 28 (0, 0)) (by (with_reducible repeat (first | refine blk_drewN ?_ _ | refine blk_drew ?_ | refine blk_alloc ?_ _)); exact BK116.out) hb); have n2_ := Aside0.mk (blk_below (g := gb119) (o := .cells #[.bool false, .bool false, .int .u64 ((rd_T30 l1 x7_2).f0), .int .u64 ((rd_T30 l1 x7_2).f1), .int .u64 t118, .int .u64 ((rd_T30 l1 x7_2).f2), .int .i64 x120006_18, .int .i64 15] 28 (0, 0)) (by (with_reducible repeat (first | refine blk_drewN ?_ _ | refine blk_drew ?_ | refine blk_alloc ?_ _)); exact BK119.out) hb); have n3_ := Aside0.mk (below_step (by repeat (first | (with_reducible first | exact HB.out | apply below_alloc | apply pw_below_drewN | apply below_drew1 | refine below_set ?_ GE115.out | refine below_set ?_ GE116.out | refine below_set ?_ GE119.out) | exact HB.out)) hb); clear BK115; clear BK116; clear BK119; clear HB; have BK115 := n0_; have BK116 := n1_; have BK119 := n2_; have HB := n3_; clear n0_ n1_ n2_ n3_; (try clear hb); (try clear hb2); (try clear hk); (try clear hi)))
                                have n0_ := Aside0.mk (blk_drew BK115.out)
                                have n1_ := Aside0.mk (blk_drew BK116.out)
                                have n2_ := Aside0.mk (blk_drew BK119.out)
                                have n3_ := Aside0.mk (below_drew1 HB.out)
                                clear BK115
                                clear BK116
                                clear BK119
                                clear HB
                                have BK115 := n0_
                                have BK116 := n1_
                                have BK119 := n2_
                                have HB := n3_
                                clear n0_ n1_ n2_ n3_
                                refine start_ (n := 8) (S := fun w' => w'.cell? ⟨gb115, 0, none⟩ = some (.int .u64 ((rd_T30 l1 x7_2).f0)) ∧ w'.cell? ⟨gb115, 1, none⟩ = some (.int .u64 ((rd_T30 l1 x7_2).f1)) ∧ w'.cell? ⟨gb115, 2, none⟩ = some (.int .u64 ((rd_T30 l1 x7_2).f2)) ∧ w'.cell? ⟨gb115, 3, none⟩ = some (.bool ((rd_T30 l1 x7_2).f3))) (ds := []) #[false, false, false, false, false, false, false, false] (by kernel_rfl) rfl rfl ⟨(blk_cell BK115.out 0).trans rfl, (blk_cell BK115.out 1).trans rfl, (blk_cell BK115.out 2).trans rfl, (blk_cell BK115.out 3).trans rfl⟩ (fun hHeld => ?_); refine with_tabW bureautop_WholeChains.tab14 bureautop_WholeChains.bits14 (fun HT_ HW_ => ?_)
                                generalize w71.drew = w72 at BK115 BK116 BK119 HB hHeld ⊢
                                refine pure_ (i := 0) (N := some 59) (v := ?_) (a' := ?_) #[true, false, false, false, false, false, false, false] rfl rfl (any_of HT_.out (by kernel_rfl)) (fun _ _ _ h => h) (Or.inl ⟨by rfl, ?_⟩) ?_ ?_
                                rotate_left
                                · intro w'
                                  go_simp
                                  with_reducible rfl
                                rotate_left
                                · simp only [Act.put, List.setIfInBounds_toArray, List.set_cons_zero, List.set_cons_succ, i64_w, i32_w]
                                  rfl
                                refine pure_ (i := 2) (N := some 61) (v := ?_) (a' := ?_) #[true, false, true, false, false, false, false, false] rfl rfl (any_of HT_.out (by kernel_rfl)) (fun _ _ _ h => h) (Or.inl ⟨by rfl, ?_⟩) ?_ ?_
                                rotate_left
                                · intro w'
                                  go_simp
                                  with_reducible rfl
                                rotate_left
                                · simp only [Act.put, List.setIfInBounds_toArray, List.set_cons_zero, List.set_cons_succ, i64_w, i32_w]
                                  rfl
                                refine pure_ (i := 3) (N := some 62) (v := ?_) (a' := ?_) #[true, false, true, true, false, false, false, false] rfl rfl (any_of HT_.out (by kernel_rfl)) (fun _ _ _ h => h) (Or.inl ⟨by rfl, ?_⟩) ?_ ?_
                                rotate_left
                                · intro w'
                                  go_simp
                                  with_reducible rfl
                                rotate_left
                                · simp only [Act.put, List.setIfInBounds_toArray, List.set_cons_zero, List.set_cons_succ, i64_w, i32_w]
                                  rfl
                                refine take_ (i := 1) (N := some 60) (v := ?_) (a' := ?_) #[true, true, true, true, false, false, false, false] rfl rfl (take_ofW HT_.out HW_.out (by kernel_rfl)) (fun _ _ _ h => h) (Or.inl ⟨by rfl, ?_⟩) hHeld ?_ ?_
                                rotate_left
                                · rintro w' ⟨s0, s1, s2, s3⟩
                                  go_simp
                                  with_reducible rfl
                                rotate_left
                                · simp only [Act.put, List.setIfInBounds_toArray, List.set_cons_zero, List.set_cons_succ, i64_w, i32_w]
                                  rfl
                                refine take_ (i := 4) (N := some 63) (v := ?_) (a' := ?_) #[true, true, true, true, true, false, false, false] rfl rfl (take_ofW HT_.out HW_.out (by kernel_rfl)) (fun _ _ _ h => h) (Or.inl ⟨by rfl, ?_⟩) hHeld ?_ ?_
                                rotate_left
                                · rintro w' ⟨s0, s1, s2, s3⟩
                                  go_simp
                                  with_reducible rfl
                                rotate_left
                                · simp only [Act.put, List.setIfInBounds_toArray, List.set_cons_zero, List.set_cons_succ, i64_w, i32_w]
                                  rfl
                                refine one_ (i := 5) (N := some 64) #[true, true, true, true, true, true, false, false] rfl rfl (one_of HT_.out (by kernel_rfl)) (by decide) (fun K hK => ?_)
                                refine goes_ Try.func6 (by kernel_rfl) rfl #[.int .u64 x6_2, .int .u64 ((rd_T30 l1 x7_2).f0)] (by rfl) rfl rfl (by (try simp only [List.map_toArray, List.map_cons, List.map_nil]); first | done | rfl | (simp only [List.length_drop, List.length_take]; rfl)) ?_
                                with_reducible refine (bureauref01_Join.calls x6_2 ((rd_T30 l1 x7_2).f0) t121 _ A47.out).mono ?_
                                rintro e w73 ⟨rfl, hb⟩
                                refine ⟨_, rfl, ?_⟩
                                have n0_ := Aside0.mk (blk_below (g := gb115) (o := .cells #[.int .u64 ((rd_T30 l1 x7_2).f0), .int .u64 ((rd_T30 l1 x7_2).f1), .int .u64 ((rd_T30 l1 x7_2).f2), .bool ((rd_T30 l1 x7_2).f3)] 30 (0, 0)) (by (with_reducible repeat (first | refine blk_drewN ?_ _ | refine blk_drew ?_ | refine blk_alloc ?_ _)); exact BK115.out) hb)
                                have n1_ := Aside0.mk (blk_below (g := gb116) (o := .cells #[.bool false, .bool false, .int .u64 ((rd_T30 l1 x7_2).f0), .int .u64 ((rd_T30 l1 x7_2).f1), .int .u64 0, .int .u64 x5_2, .int .i64 1, .int .i64 15] 28 (0, 0)) (by (with_reducible repeat (first | refine blk_drewN ?_ _ | refine blk_drew ?_ | refine blk_alloc ?_ _)); exact BK116.out) hb)
                                have n2_ := Aside0.mk (blk_below (g := gb119) (o := .cells #[.bool false, .bool false, .int .u64 ((rd_T30 l1 x7_2).f0), .int .u64 ((rd_T30 l1 x7_2).f1), .int .u64 t118, .int .u64 ((rd_T30 l1 x7_2).f2), .int .i64 x120006_18, .int .i64 15] 28 (0, 0)) (by (with_reducible repeat (first | refine blk_drewN ?_ _ | refine blk_drew ?_ | refine blk_alloc ?_ _)); exact BK119.out) hb)
                                have n3_ := Aside0.mk (below_step (by repeat (first | (with_reducible first | exact HB.out | apply below_alloc | apply pw_below_drewN | apply below_drew1 | refine below_set ?_ GE115.out | refine below_set ?_ GE116.out | refine below_set ?_ GE119.out) | exact HB.out)) hb)
                                clear BK115
                                clear BK116
                                clear BK119
                                clear HB
                                have BK115 := n0_
                                have BK116 := n1_
                                have BK119 := n2_
                                have HB := n3_
                                clear n0_ n1_ n2_ n3_
                                (try clear hb)
                                (try clear hb2)
                                (try clear hk)
                                (try clear hi)
                                refine hK.out _ _ ⟨(blk_cell BK115.out 0).trans rfl, (blk_cell BK115.out 1).trans rfl, (blk_cell BK115.out 2).trans rfl, (blk_cell BK115.out 3).trans rfl⟩ (fun hHeld => ?_)
                                clear hK K
                                refine norm_ (a' := ?_) ?_ ?_
                                rotate_left
                                · show Act.put _ (some 64) _ = _
                                  simp only [Act.put, List.setIfInBounds_toArray, List.set_cons_zero, List.set_cons_succ, i64_w, i32_w]
                                  rfl
                                refine pure_ (i := 6) (N := some 5) (v := ?_) (a' := ?_) #[true, true, true, true, true, true, true, false] rfl rfl (any_of HT_.out (by kernel_rfl)) (fun _ _ _ h => h) (Or.inl ⟨by rfl, ?_⟩) ?_ ?_
                                rotate_left
                                · intro w'
                                  go_simp
                                  with_reducible rfl
                                rotate_left
                                · simp only [Act.put, List.setIfInBounds_toArray, List.set_cons_zero, List.set_cons_succ, i64_w, i32_w]
                                  rfl
                                refine pure_ (i := 7) (N := some 6) (v := ?_) (a' := ?_) #[true, true, true, true, true, true, true, true] rfl rfl (any_of HT_.out (by kernel_rfl)) (fun _ _ _ h => h) (Or.inl ⟨by rfl, ?_⟩) ?_ ?_
                                rotate_left
                                · intro w'
                                  go_simp
                                  with_reducible rfl
                                rotate_left
                                · simp only [Act.put, List.setIfInBounds_toArray, List.set_cons_zero, List.set_cons_succ, i64_w, i32_w]
                                  rfl
                                refine done_ (done_of HT_.out (by kernel_rfl)) ?_
                                try go_wp2_with (first | ((with_reducible refine gate_callee (f := 7) rfl ?_); refine goesL_ (some 67) rfl rfl Try.func7 (by kernel_rfl) rfl #[.int .u64 a0, .int .u64 ((rd_T30 l1 x7_2).f2)] rfl (by (try simp only [List.map_toArray, List.map_cons, List.map_nil]); first | done | rfl | (simp only [List.length_drop, List.length_take]; rfl)) ?_; (with_reducible refine (bureauref01_Below.calls a0 ((rd_T30 l1 x7_2).f2) false _ A48.out).mono ?_); rintro e w74 ⟨rfl, hb⟩; refine ⟨_, rfl, ?_⟩; have n0_ := Aside0.mk (blk_below (g := gb115) (o := .cells #[.int .u64 ((rd_T30 l1 x7_2).f0), .int .u64 ((rd_T30 l1 x7_2).f1), .int .u64 ((rd_T30 l1 x7_2).f2), .bool ((rd_T30 l1 x7_2).f3)] 30 (0, 0)) (by (with_reducible repeat (first | refine blk_drewN ?_ _ | refine blk_drew ?_ | refine blk_alloc ?_ _)); exact BK115.out) hb); have n1_ := Aside0.mk (blk_below (g := gb116) (o := .cells #[.bool false, .bool false, .int .u64 ((rd_T30 l1 x7_2).f0), .int .u64 ((rd_T30 l1 x7_2).f1), .int .u64 0, .int .u64 x5_2, .int .i64 1, .int .i64 15] 28 (0, 0)) (by (with_reducible repeat (first | refine blk_drewN ?_ _ | refine blk_drew ?_ | refine blk_alloc ?_ _)); exact BK116.out) hb); have n2_ := Aside0.mk (blk_below (g := gb119) (o := .cells #[.bool false, .bool false, .int .u64 ((rd_T30 l1 x7_2).f0), .int .u64 ((rd_T30 l1 x7_2).f1), .int .u64 t118, .int .u64 ((rd_T30 l1 x7_2).f2), .int .i64 x120006_18, .int .i64 15] 28 (0, 0)) (by (with_reducible repeat (first | refine blk_drewN ?_ _ | refine blk_drew ?_ | refine blk_alloc ?_ _)); exact BK119.out) hb); have n3_ := Aside0.mk (below_step (by repeat (first | (with_reducible first | exact HB.out | apply below_alloc | apply pw_below_drewN | apply below_drew1 | refine below_set ?_ GE115.out | refine below_set ?_ GE116.out | refine below_set ?_ GE119.out) | exact HB.out)) hb); clear BK115; clear BK116; clear BK119; clear HB; have BK115 := n0_; have BK116 := n1_; have BK119 := n2_; have HB := n3_; clear n0_ n1_ n2_ n3_; (try clear hb); (try clear hb2); (try clear hk); (try clear hi)))
                                go_ret
                                exact ⟨by first | rfl | (simp [errW_none, errW_some] <;> rfl) | (simp [*, errW_none, errW_some] <;> rfl), by repeat (first | (with_reducible first | exact HB.out | apply below_alloc | apply pw_below_drewN | apply below_drew1 | refine below_set ?_ GE115.out | refine below_set ?_ GE116.out | refine below_set ?_ GE119.out) | exact HB.out)⟩
                            · rw [if_neg c46] at H
                              have c46b0 : (t120 == 0) = false := beq_eq_false_iff_ne.mpr c46
                              have c46b1 : (t120 != 0) = true := bne_iff_ne.mpr c46
                              have H' := Aside0.mk H
                              clear H
                              have hnb75 := NB119_115.out
                              have hnc75 := NB115_119.out
                              have hnb76 := NB119_116.out
                              have hnc76 := NB116_119.out
                              have hcz77_0 : wc.cell? ⟨gb119, 0, none⟩ = some (.bool false) := (blk_cell BK119.out 0).trans rfl
                              have hcz77_1 : wc.cell? ⟨gb119, 1, none⟩ = some (.bool false) := (blk_cell BK119.out 1).trans rfl
                              have hcz77_2 : wc.cell? ⟨gb119, 2, none⟩ = some (.int .u64 ((rd_T30 l1 x7_2).f0)) := (blk_cell BK119.out 2).trans rfl
                              have hcz77_3 : wc.cell? ⟨gb119, 3, none⟩ = some (.int .u64 ((rd_T30 l1 x7_2).f1)) := (blk_cell BK119.out 3).trans rfl
                              have hcz77_4 : wc.cell? ⟨gb119, 4, none⟩ = some (.int .u64 t118) := (blk_cell BK119.out 4).trans rfl
                              have hcz77_5 : wc.cell? ⟨gb119, 5, none⟩ = some (.int .u64 ((rd_T30 l1 x7_2).f2)) := (blk_cell BK119.out 5).trans rfl
                              have hcz77_6 : wc.cell? ⟨gb119, 6, none⟩ = some (.int .i64 x120006_18) := (blk_cell BK119.out 6).trans rfl
                              have hcz77_7 : wc.cell? ⟨gb119, 7, none⟩ = some (.int .i64 15) := (blk_cell BK119.out 7).trans rfl
                              have hfz77_0 := blk_frozen BK119.out 0
                              have hfz77_1 := blk_frozen BK119.out 1
                              have hfz77_2 := blk_frozen BK119.out 2
                              have hfz77_3 := blk_frozen BK119.out 3
                              have hfz77_4 := blk_frozen BK119.out 4
                              have hfz77_5 := blk_frozen BK119.out 5
                              have hfz77_6 := blk_frozen BK119.out 6
                              have hfz77_7 := blk_frozen BK119.out 7
                              go_wp2_with (first | ((with_reducible refine gate_callee (f := 4) rfl ?_); refine goesL_ (some 57) rfl rfl Try.func4 (by kernel_rfl) rfl #[.agg #[.bool false, .bool false, .int .u64 ((rd_T30 l1 x7_2).f0), .int .u64 ((rd_T30 l1 x7_2).f1), .int .u64 t118, .int .u64 ((rd_T30 l1 x7_2).f2), .int .i64 x120006_18, .int .i64 15]] rfl (by (try simp only [List.map_toArray, List.map_cons, List.map_nil]); first | done | rfl | (simp only [List.length_drop, List.length_take]; rfl)) ?_; (with_reducible refine (gate_Decide.calls kj18 false false ((rd_T30 l1 x7_2).f0) ((rd_T30 l1 x7_2).f1) t118 ((rd_T30 l1 x7_2).f2) x120006_18 15 t120 _ A45.out).mono ?_); rintro e w78 ⟨rfl, hb⟩; refine ⟨_, rfl, ?_⟩; have n0_ := Aside0.mk (blk_below (g := gb115) (o := .cells #[.int .u64 ((rd_T30 l1 x7_2).f0), .int .u64 ((rd_T30 l1 x7_2).f1), .int .u64 ((rd_T30 l1 x7_2).f2), .bool ((rd_T30 l1 x7_2).f3)] 30 (0, 0)) (by (with_reducible repeat (first | refine blk_drewN ?_ _ | refine blk_drew ?_ | refine blk_alloc ?_ _)); exact BK115.out) hb); have n1_ := Aside0.mk (blk_below (g := gb116) (o := .cells #[.bool false, .bool false, .int .u64 ((rd_T30 l1 x7_2).f0), .int .u64 ((rd_T30 l1 x7_2).f1), .int .u64 0, .int .u64 x5_2, .int .i64 1, .int .i64 15] 28 (0, 0)) (by (with_reducible repeat (first | refine blk_drewN ?_ _ | refine blk_drew ?_ | refine blk_alloc ?_ _)); exact BK116.out) hb); have n2_ := Aside0.mk (blk_below (g := gb119) (o := .cells #[.bool false, .bool false, .int .u64 ((rd_T30 l1 x7_2).f0), .int .u64 ((rd_T30 l1 x7_2).f1), .int .u64 t118, .int .u64 ((rd_T30 l1 x7_2).f2), .int .i64 x120006_18, .int .i64 15] 28 (0, 0)) (by (with_reducible repeat (first | refine blk_drewN ?_ _ | refine blk_drew ?_ | refine blk_alloc ?_ _)); exact BK119.out) hb); have n3_ := Aside0.mk (below_step (by repeat (first | (with_reducible first | exact HB.out | apply below_alloc | apply pw_below_drewN | apply below_drew1 | refine below_set ?_ GE115.out | refine below_set ?_ GE116.out | refine below_set ?_ GE119.out) | exact HB.out)) hb); clear BK115; clear BK116; clear BK119; clear HB; have BK115 := n0_; have BK116 := n1_; have BK119 := n2_; have HB := n3_; clear n0_ n1_ n2_ n3_; (try clear hb); (try clear hb2); (try clear hk); (try clear hi)))
                              go_roundg kj18
                              case measure => have := HJ2.out; have := HK2.out; have := HJ10.out; have := HJ18.out; omega
                              case rel => exact ⟨(x5_2), (x6_2), (wrap64 (x7_2 + 1)), (by first | rfl | (simp; done) | (simp [*]; done)), (by first | rfl | (simp; done) | (simp [*]; done)), (by first | rfl | (simp; done) | (simp [*]; done)), H', ⟨by have := HJ2.out; have := HK2.out; have := HJ10.out; have := HJ18.out; omega⟩, ⟨by repeat (first | (with_reducible first | exact HB.out | apply below_alloc | apply pw_below_drewN | apply below_drew1 | refine below_set ?_ GE115.out | refine below_set ?_ GE116.out | refine below_set ?_ GE119.out) | exact HB.out)⟩⟩
                      · rw [if_neg c17] at H
                        have c17b0 : (t117 == 0) = false := beq_eq_false_iff_ne.mpr c17
                        have c17b1 : (t117 != 0) = true := bne_iff_ne.mpr c17
                        have H' := Aside0.mk H
                        clear H
                        have p114 : 0 ≤ (x7_2 : Int) := of_decide_eq_true (by first | (with_reducible assumption) | assumption)
                        have q114 : x7_2 < (l1.length : Int) := of_decide_eq_true (by first | (with_reducible assumption) | assumption)
                        obtain ⟨ad114, e114, hx114_0, hx114_1, hx114_2, hx114_3⟩ := at_T30 HR1.out x7_2 p114 q114
                        cases e114
                        replace hx114_0 := (HB.out.cell (World.block_lt_of_cell? w _ hx114_0)).trans hx114_0
                        replace hx114_1 := (HB.out.cell (World.block_lt_of_cell? w _ hx114_1)).trans hx114_1
                        replace hx114_2 := (HB.out.cell (World.block_lt_of_cell? w _ hx114_2)).trans hx114_2
                        replace hx114_3 := (HB.out.cell (World.block_lt_of_cell? w _ hx114_3)).trans hx114_3
                        replace p114 := eq_true p114
                        replace q114 := eq_true q114
                        go_wp2_with (first | ((with_reducible refine gate_dst (N := 8) rfl ?_); refine box_event ?hg (N := 8) ?hd (cs := #[.int .u64 0, .int .u64 0, .int .u64 0, .bool false]) (t := 30) ?hr ?_; (case hd => rfl); (case hg => rfl); (case hr => first | (go_simp; done) | (go_simp; rfl)); intro gb115 hg w79 hbox hb; have n0_ := Aside0.mk (below_step (by repeat (first | (with_reducible first | exact HB.out | apply below_alloc | apply pw_below_drewN | apply below_drew1) | exact HB.out)) hb); have n1_ := Aside0.mk (hbox); have n2_ := Aside0.mk ((by rw [hg]; exact (below_size (by repeat (first | (with_reducible first | exact HB.out | apply below_alloc | apply pw_below_drewN | apply below_drew1) | exact HB.out))) : w.heap.size ≤ gb115)); have n3_ := Aside0.mk ((by rw [hg]; exact (below_size (by repeat (first | (with_reducible first | exact HB.out | apply below_alloc | apply pw_below_drewN | apply below_drew1) | exact HB.out))) : w.heap.size ≤ gb115)); clear HB; have HB := n0_; have BK115 := n1_; have GW115 := n2_; have GE115 := n3_; clear n0_ n1_ n2_ n3_; clear hb hbox hg; have hcz80_0 : w79.cell? ⟨gb115, 0, none⟩ = some (.int .u64 0) := (blk_cell BK115.out 0).trans rfl; have hcz80_1 : w79.cell? ⟨gb115, 1, none⟩ = some (.int .u64 0) := (blk_cell BK115.out 1).trans rfl; have hcz80_2 : w79.cell? ⟨gb115, 2, none⟩ = some (.int .u64 0) := (blk_cell BK115.out 2).trans rfl; have hcz80_3 : w79.cell? ⟨gb115, 3, none⟩ = some (.bool false) := (blk_cell BK115.out 3).trans rfl; have hfz80_0 := blk_frozen BK115.out 0; have hfz80_1 := blk_frozen BK115.out 1; have hfz80_2 := blk_frozen BK115.out 2; have hfz80_3 := blk_frozen BK115.out 3) | ((with_reducible refine gate_dst (N := 9) rfl ?_); refine box_event ?hg (N := 9) ?hd (cs := #[.bool false, .bool false, .int .u64 0, .int .u64 0, .int .u64 0, .int .u64 0, .int .i64 0, .int .i64 0]) (t := 28) ?hr ?_; (case hd => rfl); (case hg => rfl); (case hr => first | (go_simp; done) | (go_simp; rfl)); intro gb116 hg w81 hbox hb; have n0_ := Aside0.mk (blk_below (g := gb115) (o := .cells #[.int .u64 ((rd_T30 l1 x7_2).f0), .int .u64 ((rd_T30 l1 x7_2).f1), .int .u64 ((rd_T30 l1 x7_2).f2), .bool ((rd_T30 l1 x7_2).f3)] 30 (0, 0)) (by (with_reducible repeat (first | refine blk_drewN ?_ _ | refine blk_drew ?_ | refine blk_alloc ?_ _)); refine blk_put (cs := #[.int .u64 ((rd_T30 l1 x7_2).f0), .int .u64 ((rd_T30 l1 x7_2).f1), .int .u64 ((rd_T30 l1 x7_2).f2), .bool false]) ?_ 3 _ rfl; (with_reducible repeat (first | refine blk_drewN ?_ _ | refine blk_drew ?_ | refine blk_alloc ?_ _)); refine blk_put (cs := #[.int .u64 ((rd_T30 l1 x7_2).f0), .int .u64 ((rd_T30 l1 x7_2).f1), .int .u64 0, .bool false]) ?_ 2 _ rfl; (with_reducible repeat (first | refine blk_drewN ?_ _ | refine blk_drew ?_ | refine blk_alloc ?_ _)); refine blk_put (cs := #[.int .u64 ((rd_T30 l1 x7_2).f0), .int .u64 0, .int .u64 0, .bool false]) ?_ 1 _ rfl; (with_reducible repeat (first | refine blk_drewN ?_ _ | refine blk_drew ?_ | refine blk_alloc ?_ _)); refine blk_put (cs := #[.int .u64 0, .int .u64 0, .int .u64 0, .bool false]) ?_ 0 _ rfl; (with_reducible repeat (first | refine blk_drewN ?_ _ | refine blk_drew ?_ | refine blk_alloc ?_ _)); exact BK115.out) hb); have n1_ := Aside0.mk (below_step (by repeat (first | (with_reducible first | exact HB.out | apply below_alloc | apply pw_below_drewN | apply below_drew1 | refine below_set ?_ GE115.out) | exact HB.out)) hb); have n2_ := Aside0.mk (hbox); have n3_ := Aside0.mk ((by rw [hg]; exact (below_size (by repeat (first | (with_reducible first | exact HB.out | apply below_alloc | apply pw_below_drewN | apply below_drew1 | refine below_set ?_ GE115.out) | exact HB.out))) : w.heap.size ≤ gb116)); have n4_ := Aside0.mk ((by rw [hg]; exact (below_size (by repeat (first | (with_reducible first | exact HB.out | apply below_alloc | apply pw_below_drewN | apply below_drew1 | refine below_set ?_ GE115.out) | exact HB.out))) : w.heap.size ≤ gb116)); have n5_ := Aside0.mk ((by rw [hg]; exact Nat.ne_of_lt (blk_lt (g := gb115) (o := .cells #[.int .u64 ((rd_T30 l1 x7_2).f0), .int .u64 ((rd_T30 l1 x7_2).f1), .int .u64 ((rd_T30 l1 x7_2).f2), .bool ((rd_T30 l1 x7_2).f3)] 30 (0, 0)) (by (with_reducible repeat (first | refine blk_drewN ?_ _ | refine blk_drew ?_ | refine blk_alloc ?_ _)); refine blk_put (cs := #[.int .u64 ((rd_T30 l1 x7_2).f0), .int .u64 ((rd_T30 l1 x7_2).f1), .int .u64 ((rd_T30 l1 x7_2).f2), .bool false]) ?_ 3 _ rfl; (with_reducible repeat (first | refine blk_drewN ?_ _ | refine blk_drew ?_ | refine blk_alloc ?_ _)); refine blk_put (cs := #[.int .u64 ((rd_T30 l1 x7_2).f0), .int .u64 ((rd_T30 l1 x7_2).f1), .int .u64 0, .bool false]) ?_ 2 _ rfl; (with_reducible repeat (first | refine blk_drewN ?_ _ | refine blk_drew ?_ | refine blk_alloc ?_ _)); refine blk_put (cs := #[.int .u64 ((rd_T30 l1 x7_2).f0), .int .u64 0, .int .u64 0, .bool false]) ?_ 1 _ rfl; (with_reducible repeat (first | refine blk_drewN ?_ _ | refine blk_drew ?_ | refine blk_alloc ?_ _)); refine blk_put (cs := #[.int .u64 0, .int .u64 0, .int .u64 0, .bool false]) ?_ 0 _ rfl; (with_reducible repeat (first | refine blk_drewN ?_ _ | refine blk_drew ?_ | refine blk_alloc ?_ _)); exact BK115.out)) : gb115 ≠ gb116)); have n6_ := Aside0.mk ((by rw [hg]; exact Nat.ne_of_gt (blk_lt (g := gb115) (o := .cells #[.int .u64 ((rd_T30 l1 x7_2).f0), .int .u64 ((rd_T30 l1 x7_2).f1), .int .u64 ((rd_T30 l1 x7_2).f2), .bool ((rd_T30 l1 x7_2).f3)] 30 (0, 0)) (by (with_reducible repeat (first | refine blk_drewN ?_ _ | refine blk_drew ?_ | refine blk_alloc ?_ _)); refine blk_put (cs := #[.int .u64 ((rd_T30 l1 x7_2).f0), .int .u64 ((rd_T30 l1 x7_2).f1), .int .u64 ((rd_T30 l1 x7_2).f2), .bool false]) ?_ 3 _ rfl; (with_reducible repeat (first | refine blk_drewN ?_ _ | refine blk_drew ?_ | refine blk_alloc ?_ _)); refine blk_put (cs := #[.int .u64 ((rd_T30 l1 x7_2).f0), .int .u64 ((rd_T30 l1 x7_2).f1), .int .u64 0, .bool false]) ?_ 2 _ rfl; (with_reducible repeat (first | refine blk_drewN ?_ _ | refine blk_drew ?_ | refine blk_alloc ?_ _)); refine blk_put (cs := #[.int .u64 ((rd_T30 l1 x7_2).f0), .int .u64 0, .int .u64 0, .bool false]) ?_ 1 _ rfl; (with_reducible repeat (first | refine blk_drewN ?_ _ | refine blk_drew ?_ | refine blk_alloc ?_ _)); refine blk_put (cs := #[.int .u64 0, .int .u64 0, .int .u64 0, .bool false]) ?_ 0 _ rfl; (with_reducible repeat (first | refine blk_drewN ?_ _ | refine blk_drew ?_ | refine blk_alloc ?_ _)); exact BK115.out)) : gb116 ≠ gb115)); clear BK115; clear HB; have BK115 := n0_; have HB := n1_; have BK116 := n2_; have GW116 := n3_; have GE116 := n4_; have NB115_116 := n5_; have NB116_115 := n6_; clear n0_ n1_ n2_ n3_ n4_ n5_ n6_; clear hb hbox hg; have hnb82 := NB116_115.out; have hnc82 := NB115_116.out; have hcz83_0 : w81.cell? ⟨gb116, 0, none⟩ = some (.bool false) := (blk_cell BK116.out 0).trans rfl; have hcz83_1 : w81.cell? ⟨gb116, 1, none⟩ = some (.bool false) := (blk_cell BK116.out 1).trans rfl; have hcz83_2 : w81.cell? ⟨gb116, 2, none⟩ = some (.int .u64 0) := (blk_cell BK116.out 2).trans rfl; have hcz83_3 : w81.cell? ⟨gb116, 3, none⟩ = some (.int .u64 0) := (blk_cell BK116.out 3).trans rfl; have hcz83_4 : w81.cell? ⟨gb116, 4, none⟩ = some (.int .u64 0) := (blk_cell BK116.out 4).trans rfl; have hcz83_5 : w81.cell? ⟨gb116, 5, none⟩ = some (.int .u64 0) := (blk_cell BK116.out 5).trans rfl; have hcz83_6 : w81.cell? ⟨gb116, 6, none⟩ = some (.int .i64 0) := (blk_cell BK116.out 6).trans rfl; have hcz83_7 : w81.cell? ⟨gb116, 7, none⟩ = some (.int .i64 0) := (blk_cell BK116.out 7).trans rfl; have hfz83_0 := blk_frozen BK116.out 0; have hfz83_1 := blk_frozen BK116.out 1; have hfz83_2 := blk_frozen BK116.out 2; have hfz83_3 := blk_frozen BK116.out 3; have hfz83_4 := blk_frozen BK116.out 4; have hfz83_5 := blk_frozen BK116.out 5; have hfz83_6 := blk_frozen BK116.out 6; have hfz83_7 := blk_frozen BK116.out 7) | ((with_reducible refine gate_callee (f := 4) rfl ?_); refine goesL_ (some 42) rfl rfl Try.func4 (by kernel_rfl) rfl #[.agg #[.bool false, .bool false, .int .u64 ((rd_T30 l1 x7_2).f0), .int .u64 ((rd_T30 l1 x7_2).f1), .int .u64 0, .int .u64 x5_2, .int .i64 1, .int .i64 15]] rfl (by (try simp only [List.map_toArray, List.map_cons, List.map_nil]); first | done | rfl | (simp only [List.length_drop, List.length_take]; rfl)) ?_; (with_reducible refine (gate_Decide.calls kj10 false false ((rd_T30 l1 x7_2).f0) ((rd_T30 l1 x7_2).f1) 0 x5_2 1 15 t117 _ A16.out).mono ?_); rintro e w84 ⟨rfl, hb⟩; refine ⟨_, rfl, ?_⟩; have n0_ := Aside0.mk (blk_below (g := gb115) (o := .cells #[.int .u64 ((rd_T30 l1 x7_2).f0), .int .u64 ((rd_T30 l1 x7_2).f1), .int .u64 ((rd_T30 l1 x7_2).f2), .bool ((rd_T30 l1 x7_2).f3)] 30 (0, 0)) (by (with_reducible repeat (first | refine blk_drewN ?_ _ | refine blk_drew ?_ | refine blk_alloc ?_ _)); refine blk_far ?_ NB115_116.out _; (with_reducible repeat (first | refine blk_drewN ?_ _ | refine blk_drew ?_ | refine blk_alloc ?_ _)); refine blk_far ?_ NB115_116.out _; (with_reducible repeat (first | refine blk_drewN ?_ _ | refine blk_drew ?_ | refine blk_alloc ?_ _)); refine blk_far ?_ NB115_116.out _; (with_reducible repeat (first | refine blk_drewN ?_ _ | refine blk_drew ?_ | refine blk_alloc ?_ _)); refine blk_far ?_ NB115_116.out _; (with_reducible repeat (first | refine blk_drewN ?_ _ | refine blk_drew ?_ | refine blk_alloc ?_ _)); refine blk_far ?_ NB115_116.out _; (with_reducible repeat (first | refine blk_drewN ?_ _ | refine blk_drew ?_ | refine blk_alloc ?_ _)); refine blk_far ?_ NB115_116.out _; (with_reducible repeat (first | refine blk_drewN ?_ _ | refine blk_drew ?_ | refine blk_alloc ?_ _)); refine blk_far ?_ NB115_116.out _; (with_reducible repeat (first | refine blk_drewN ?_ _ | refine blk_drew ?_ | refine blk_alloc ?_ _)); refine blk_far ?_ NB115_116.out _; (with_reducible repeat (first | refine blk_drewN ?_ _ | refine blk_drew ?_ | refine blk_alloc ?_ _)); exact BK115.out) hb); have n1_ := Aside0.mk (blk_below (g := gb116) (o := .cells #[.bool false, .bool false, .int .u64 ((rd_T30 l1 x7_2).f0), .int .u64 ((rd_T30 l1 x7_2).f1), .int .u64 0, .int .u64 x5_2, .int .i64 1, .int .i64 15] 28 (0, 0)) (by (with_reducible repeat (first | refine blk_drewN ?_ _ | refine blk_drew ?_ | refine blk_alloc ?_ _)); refine blk_put (cs := #[.bool false, .bool false, .int .u64 ((rd_T30 l1 x7_2).f0), .int .u64 ((rd_T30 l1 x7_2).f1), .int .u64 0, .int .u64 x5_2, .int .i64 1, .int .i64 0]) ?_ 7 _ rfl; (with_reducible repeat (first | refine blk_drewN ?_ _ | refine blk_drew ?_ | refine blk_alloc ?_ _)); refine blk_put (cs := #[.bool false, .bool false, .int .u64 ((rd_T30 l1 x7_2).f0), .int .u64 ((rd_T30 l1 x7_2).f1), .int .u64 0, .int .u64 x5_2, .int .i64 0, .int .i64 0]) ?_ 6 _ rfl; (with_reducible repeat (first | refine blk_drewN ?_ _ | refine blk_drew ?_ | refine blk_alloc ?_ _)); refine blk_put (cs := #[.bool false, .bool false, .int .u64 ((rd_T30 l1 x7_2).f0), .int .u64 ((rd_T30 l1 x7_2).f1), .int .u64 0, .int .u64 0, .int .i64 0, .int .i64 0]) ?_ 5 _ rfl; (with_reducible repeat (first | refine blk_drewN ?_ _ | refine blk_drew ?_ | refine blk_alloc ?_ _)); refine blk_put (cs := #[.bool false, .bool false, .int .u64 ((rd_T30 l1 x7_2).f0), .int .u64 ((rd_T30 l1 x7_2).f1), .int .u64 0, .int .u64 0, .int .i64 0, .int .i64 0]) ?_ 4 _ rfl; (with_reducible repeat (first | refine blk_drewN ?_ _ | refine blk_drew ?_ | refine blk_alloc ?_ _)); refine blk_put (cs := #[.bool false, .bool false, .int .u64 ((rd_T30 l1 x7_2).f0), .int .u64 0, .int .u64 0, .int .u64 0, .int .i64 0, .int .i64 0]) ?_ 3 _ rfl; (with_reducible repeat (first | refine blk_drewN ?_ _ | refine blk_drew ?_ | refine blk_alloc ?_ _)); refine blk_put (cs := #[.bool false, .bool false, .int .u64 0, .int .u64 0, .int .u64 0, .int .u64 0, .int .i64 0, .int .i64 0]) ?_ 2 _ rfl; (with_reducible repeat (first | refine blk_drewN ?_ _ | refine blk_drew ?_ | refine blk_alloc ?_ _)); refine blk_put (cs := #[.bool false, .bool false, .int .u64 0, .int .u64 0, .int .u64 0, .int .u64 0, .int .i64 0, .int .i64 0]) ?_ 1 _ rfl; (with_reducible repeat (first | refine blk_drewN ?_ _ | refine blk_drew ?_ | refine blk_alloc ?_ _)); refine blk_put (cs := #[.bool false, .bool false, .int .u64 0, .int .u64 0, .int .u64 0, .int .u64 0, .int .i64 0, .int .i64 0]) ?_ 0 _ rfl; (with_reducible repeat (first | refine blk_drewN ?_ _ | refine blk_drew ?_ | refine blk_alloc ?_ _)); exact BK116.out) hb); have n2_ := Aside0.mk (below_step (by repeat (first | (with_reducible first | exact HB.out | apply below_alloc | apply pw_below_drewN | apply below_drew1 | refine below_set ?_ GE115.out | refine below_set ?_ GE116.out) | exact HB.out)) hb); clear BK115; clear BK116; clear HB; have BK115 := n0_; have BK116 := n1_; have HB := n2_; clear n0_ n1_ n2_; (try clear hb); (try clear hb2); (try clear hk); (try clear hi)))
                        go_roundg kj10
                        case measure => have := HJ2.out; have := HK2.out; have := HJ10.out; omega
                        case rel => exact ⟨(x5_2), (x6_2), (wrap64 (x7_2 + 1)), (by first | rfl | (simp; done) | (simp [*]; done)), (by first | rfl | (simp; done) | (simp [*]; done)), (by first | rfl | (simp; done) | (simp [*]; done)), H', ⟨by have := HJ2.out; have := HK2.out; have := HJ10.out; omega⟩, ⟨by repeat (first | (with_reducible first | exact HB.out | apply below_alloc | apply pw_below_drewN | apply below_drew1 | refine below_set ?_ GE115.out | refine below_set ?_ GE116.out) | exact HB.out)⟩⟩
                    · rw [if_neg c15] at H
                      exact absurd H (by simp)
                  · rw [if_neg c14] at H
                    exact absurd H (by simp)
                · replace c13 := Bool.eq_false_iff.mpr c13
                  subst c13
                  have H1 : (some true) = some r := by rw [if_neg (show ¬ (false = true) by decide)] at H; exact H
                  clear H
                  have H := H1
                  clear H1
                  obtain rfl := Option.some.inj H
                  go_wp2
                  go_ret
                  exact ⟨by first | rfl | (simp [errW_none, errW_some] <;> rfl) | (simp [*, errW_none, errW_some] <;> rfl), by repeat (first | (with_reducible first | exact HB.out | apply below_alloc | apply pw_below_drewN | apply below_drew1) | exact HB.out)⟩

/-- What is to be proved of bureautop_WholeChains: no program in it. -/
def bureautop_WholeChains.Pure : Prop := ∀ (a0 : Int) (l1 : List (S30)), (Lit.int .u64 a0).wf = true → l1.length ≤ maxLen → (∀ x ∈ l1, (Lit.int .u64 x.f0).wf = true ∧ (Lit.int .u64 x.f1).wf = true ∧ (Lit.int .u64 x.f2).wf = true) → ∃ k, bureautop_WholeChains.f k a0 l1 = some true

end Go.Proofs.Ytmbnambicnhdoaa.XWholeChains
