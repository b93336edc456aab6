-- Written by this session's program (wip/xprint.py) with the kit's print, for this claim.
import Derived.Test.YtlpiknclbgogbaaXCodeDepthsx0
import Derived.Test.YtlpiknclbgogbaaXCodeDepthsx5
import Derived.Test.YtlpiknclbgogbaaXCodeDepthsx6
namespace Go.Proofs.Ytlpiknclbgogbaa.XCodeDepths
open Go.RowKit Go.Proofs.YtlpiknclbgogbaaW.PrintWords Go.Proofs.YtlpiknclbgogbaaW.PrintLast Go.Proofs.YtlpiknclbgogbaaW.PrintMore Go.Proofs.Ytlpiknclbgogbaa.Ext
attribute [local go_sem] max2_int min2_int max_two min_two max_three min_three max_four min_four   -- for this text's walks alone
set_option linter.unusedVariables false
set_option linter.unusedSimpArgs false

/-! ### bureauref21_spread: function 27 -/
mutual
def bureauref21_spread.l0 : Nat → List (S36) → List Int → Bool → Int → Option (List Int × Bool × Bool)
  | 0, _, _, _, _ => none
  | k + 1, x0, x1, x7, x8 => if x8 < (x0.length : Int) then (if 0 ≤ x8 then (if x8 < (x1.length : Int) then (if (rd x1 x8) < 0 then (bureauref21_spread.l0 k x0 x1 x7 (wrap64 (x8 + 1))) else ((bureauref21_Takes.f k ((rd_T36 x0 x8).f0) ((rd_T36 x0 x8).f1)).bind fun t237 => ((bureauref21_Gives.f k ((rd_T36 x0 x8).f0) ((rd_T36 x0 x8).f1)).bind fun t239 => ((bureauref21_Takes.f k ((rd_T36 x0 x8).f0) ((rd_T36 x0 x8).f1)).bind fun t242 => (if (rd x1 x8) < t242 then (bureauref21_spread.j1 k x0 x1 x7 x8 (wrap64 ((wrap64 ((rd x1 x8) - t237)) + t239)) true) else (bureauref21_spread.j1 k x0 x1 x7 x8 (wrap64 ((wrap64 ((rd x1 x8) - t237)) + t239)) (decide ((wrap64 ((wrap64 ((rd x1 x8) - t237)) + t239)) > 16)))))))) else (none)) else (none)) else (some (x1, x7, true))
def bureauref21_spread.j1 : Nat → List (S36) → List Int → Bool → Int → Int → Bool → Option (List Int × Bool × Bool)
  | 0, _, _, _, _, _, _ => none
  | k + 1, x0, x1, x7, x8, x9, x53 => if x53 = true then (some (x1, false, false)) else ((bureauref21_Behind.f x0 x8).bind fun t243 => (bureauref21_spread.l1 k x0 x1 x7 x8 x9 t243 0))
def bureauref21_spread.l1 : Nat → List (S36) → List Int → Bool → Int → Int → List Int → Int → Option (List Int × Bool × Bool)
  | 0, _, _, _, _, _, _, _ => none
  | k + 1, x0, x1, x7, x8, x9, x10, x11 => if x11 < (x10.length : Int) then (if 0 ≤ x11 then (if (rd x10 x11) ≥ (x0.length : Int) then (some (x1, false, false)) else (if 0 ≤ (rd x10 x11) then (if (rd x10 x11) < (x1.length : Int) then (if (rd x1 (rd x10 x11)) ≥ 0 then (if (rd x1 (rd x10 x11)) = x9 then (if x7 = true then (bureauref21_spread.l1 k x0 (x1.set ((rd x10 x11) : Int).toNat x9) true x8 x9 x10 (wrap64 (x11 + 1))) else (bureauref21_spread.l1 k x0 (x1.set ((rd x10 x11) : Int).toNat x9) (decide ((rd x1 (rd x10 x11)) < 0)) x8 x9 x10 (wrap64 (x11 + 1)))) else (some (x1, false, false))) else (if x7 = true then (bureauref21_spread.l1 k x0 (x1.set ((rd x10 x11) : Int).toNat x9) true x8 x9 x10 (wrap64 (x11 + 1))) else (bureauref21_spread.l1 k x0 (x1.set ((rd x10 x11) : Int).toNat x9) (decide ((rd x1 (rd x10 x11)) < 0)) x8 x9 x10 (wrap64 (x11 + 1))))) else (none)) else (none))) else (none)) else (bureauref21_spread.l0 k x0 x1 x7 (wrap64 (x8 + 1)))
end
def bureauref21_spread.f (k : Nat) (l0 : List (S36)) (l1 : List Int) : Option (List Int × Bool × Bool) := bureauref21_spread.l0 k l0 l1 false 0
theorem bureauref21_spread.mono_l : ∀ k, (∀ y0 y1 y2 y3, LeO (bureauref21_spread.l0 k y0 y1 y2 y3) (bureauref21_spread.l0 (k + 1) y0 y1 y2 y3)) ∧ (∀ y0 y1 y2 y3 y4 y5, LeO (bureauref21_spread.j1 k y0 y1 y2 y3 y4 y5) (bureauref21_spread.j1 (k + 1) y0 y1 y2 y3 y4 y5)) ∧ (∀ y0 y1 y2 y3 y4 y5 y6, LeO (bureauref21_spread.l1 k y0 y1 y2 y3 y4 y5 y6) (bureauref21_spread.l1 (k + 1) y0 y1 y2 y3 y4 y5 y6))
  | 0 => ⟨fun _ _ _ _ r h => by simp [bureauref21_spread.l0] at h, fun _ _ _ _ _ _ r h => by simp [bureauref21_spread.j1] at h, fun _ _ _ _ _ _ _ r h => by simp [bureauref21_spread.l1] at h⟩
  | k + 1 => by
    obtain ⟨ih0, ih1, ih2⟩ := bureauref21_spread.mono_l k
    refine ⟨?_, ?_, ?_⟩
    · intro y0 y1 y2 y3
      unfold bureauref21_spread.l0
      repeat' first
      | (with_reducible exact ih0 _ _ _ _)
      | (with_reducible exact ih1 _ _ _ _ _ _)
      | (with_reducible exact ih2 _ _ _ _ _ _ _)
      | (with_reducible exact bureauref21_Gives.mono _ _ _)
      | (with_reducible exact bureauref21_Takes.mono _ _ _)
      | (with_reducible exact LeO.refl _)
      | (with_reducible exact LeO.none _)
      | (with_reducible refine LeO.ite ?_ ?_)
      | (with_reducible refine LeO.bind ?_ (fun _ => ?_))
      | exact ih0 _ _ _ _
      | exact ih1 _ _ _ _ _ _
      | exact ih2 _ _ _ _ _ _ _
      | exact bureauref21_Gives.mono _ _ _
      | exact bureauref21_Takes.mono _ _ _
      | exact LeO.none _
      | refine LeO.ite ?_ ?_
      | refine LeO.bind ?_ (fun _ => ?_)
    · intro y0 y1 y2 y3 y4 y5
      unfold bureauref21_spread.j1
      repeat' first
      | (with_reducible exact ih0 _ _ _ _)
      | (with_reducible exact ih1 _ _ _ _ _ _)
      | (with_reducible exact ih2 _ _ _ _ _ _ _)
      | (with_reducible exact bureauref21_Gives.mono _ _ _)
      | (with_reducible exact bureauref21_Takes.mono _ _ _)
      | (with_reducible exact LeO.refl _)
      | (with_reducible exact LeO.none _)
      | (with_reducible refine LeO.ite ?_ ?_)
      | (with_reducible refine LeO.bind ?_ (fun _ => ?_))
      | exact ih0 _ _ _ _
      | exact ih1 _ _ _ _ _ _
      | exact ih2 _ _ _ _ _ _ _
      | exact bureauref21_Gives.mono _ _ _
      | exact bureauref21_Takes.mono _ _ _
      | exact LeO.none _
      | refine LeO.ite ?_ ?_
      | refine LeO.bind ?_ (fun _ => ?_)
    · intro y0 y1 y2 y3 y4 y5 y6
      unfold bureauref21_spread.l1
      repeat' first
      | (with_reducible exact ih0 _ _ _ _)
      | (with_reducible exact ih1 _ _ _ _ _ _)
      | (with_reducible exact ih2 _ _ _ _ _ _ _)
      | (with_reducible exact bureauref21_Gives.mono _ _ _)
      | (with_reducible exact bureauref21_Takes.mono _ _ _)
      | (with_reducible exact LeO.refl _)
      | (with_reducible exact LeO.none _)
      | (with_reducible refine LeO.ite ?_ ?_)
      | (with_reducible refine LeO.bind ?_ (fun _ => ?_))
      | exact ih0 _ _ _ _
      | exact ih1 _ _ _ _ _ _
      | exact ih2 _ _ _ _ _ _ _
      | exact bureauref21_Gives.mono _ _ _
      | exact bureauref21_Takes.mono _ _ _
      | exact LeO.none _
      | refine LeO.ite ?_ ?_
      | refine LeO.bind ?_ (fun _ => ?_)
theorem bureauref21_spread.mono : ∀ a0 a1 k, LeO (bureauref21_spread.f k a0 a1) (bureauref21_spread.f (k + 1) a0 a1) := by
  intro a0 a1 k
  obtain ⟨ih0, ih1, ih2⟩ := bureauref21_spread.mono_l k
  unfold bureauref21_spread.f
  repeat' first
      | (with_reducible exact ih0 _ _ _ _)
      | (with_reducible exact ih1 _ _ _ _ _ _)
      | (with_reducible exact ih2 _ _ _ _ _ _ _)
      | (with_reducible exact bureauref21_Gives.mono _ _ _)
      | (with_reducible exact bureauref21_Takes.mono _ _ _)
      | (with_reducible exact LeO.refl _)
      | (with_reducible exact LeO.none _)
      | (with_reducible refine LeO.ite ?_ ?_)
      | (with_reducible refine LeO.bind ?_ (fun _ => ?_))
      | exact ih0 _ _ _ _
      | exact ih1 _ _ _ _ _ _
      | exact ih2 _ _ _ _ _ _ _
      | exact bureauref21_Gives.mono _ _ _
      | exact bureauref21_Takes.mono _ _ _
      | exact LeO.none _
      | refine LeO.ite ?_ ?_
      | refine LeO.bind ?_ (fun _ => ?_)
def bureauref21_spread.T6 : Bool × List (List Nat × List Nat) := (true, [([], []), ([], []), ([0, 1], [0, 1]), ([2], [2]), ([], []), ([], []), ([4, 5], [4, 5]), ([6], [6]), ([7], [7]), ([3, 8], [3, 8]), ([], []), ([], []), ([10, 11], [10, 11]), ([12], [12]), ([13, 8], [13]), ([9, 14], [9, 14]), ([15, 14, 0, 1, 2, 3, 4, 5, 6, 7, 8, 9, 10, 11, 12, 13, 14, 15], [15])])
def bureauref21_spread.B6 : List Nat := [0, 0, 3, 7, 0, 0, 48, 112, 240, 511, 0, 0, 3072, 7168, 15856, 32767, 65535]
theorem bureauref21_spread.tab6 : rtab .any (opsOf Try.f27 6) = bureauref21_spread.T6 := by kernel_rfl
theorem bureauref21_spread.bits6 : waitsOk bureauref21_spread.T6.2 bureauref21_spread.B6 = true := by kernel_rfl
def bureauref21_spread.T7 : Bool × List (List Nat × List Nat) := (true, [([], []), ([], []), ([0, 1], [0, 1]), ([2], [2]), ([], []), ([], []), ([4, 5], [4, 5]), ([6], [6]), ([7], [7]), ([3, 8], [3, 8]), ([9, 8], [9]), ([10], [10]), ([11, 10], [10, 11]), ([10, 12], [10, 12])])
def bureauref21_spread.B7 : List Nat := [0, 0, 3, 7, 0, 0, 48, 112, 240, 511, 1023, 2047, 4095, 8191]
theorem bureauref21_spread.tab7 : rtab .any (opsOf Try.f27 7) = bureauref21_spread.T7 := by kernel_rfl
theorem bureauref21_spread.bits7 : waitsOk bureauref21_spread.T7.2 bureauref21_spread.B7 = true := by kernel_rfl
set_option maxHeartbeats 8000000 in
set_option maxRecDepth 100000 in
theorem bureauref21_spread.calls (k : Nat) (A0 : Option Addr) (c0 : Nat) (l0 : List (S36)) (P1_ : Nat → Prop) (u9000_ : Value) (l1 : List Int) (r1 : List Int) (r2 : Bool) (r3 : Bool) (w0 w : World) (hB : Below w0.heap.size w0 w) (hr0 : ∀ W_, Kept w W_ (fun k_ => P1_ k_) → Kd.C k36 W_ A0 l0.length l0) (hc0 : l0.length ≤ c0) (ho1 : Kd.R (Kd.int .i64) 3 w w0.heap.size P1_ u9000_ l1) (h : bureauref21_spread.f k l0 l1 = some (r1, r2, r3)) :
    Calls Try.prog 27 #[.slice A0 l0.length c0, u9000_] w fun e w' => ∃ v0_ : Value, e = .returned (.tuple #[v0_, .bool r2, .bool r3]) ∧ Kd.R (Kd.int .i64) 3 w' w0.heap.size (fun k_ => (P1_ k_ ∨ w.heap.size ≤ k_)) v0_ r1 ∧ Below w0.heap.size w0 w' ∧ Kept w w' (fun k_ => P1_ k_) := by
  have hu36 := Try.underlying36
  have HR0 := Aside0.mk hr0
  have HC0 := Aside0.mk hc0
  clear hr0 hc0
  have HO1 := Aside0.mk (show Kd.R (Kd.int .i64) 3 w w0.heap.size (fun k_ => (P1_ k_ ∨ w.heap.size ≤ k_)) u9000_ l1 from Kd.R_mono ho1 (fun k_ hk => (.inl hk)))
  have HK := Aside0.mk (Kept.refl w (fun k_ => P1_ k_))
  have HW0 := Aside0.mk hB.size
  have HB := Aside0.mk hB
  clear hB
  have H : (bureauref21_spread.l0 k l0 l1 false 0) = some (r1, r2, r3) := h
  clear h
  have H' := Aside0.mk H
  clear H
  go_enter Try.func27, Try.ntmps27
  go_wp2
  go_loopg [7, 8] k (fun kq v7 v8 w' => ∃ (x1_1 : List Int) (x7_1 : Bool) (x8_1 : Int), v7 = .bool x7_1 ∧ v8 = .int .i64 x8_1 ∧ Aside0 (bureauref21_spread.l0 kq l0 x1_1 x7_1 x8_1 = some (r1, r2, r3)) ∧ Aside0 (kq ≤ k) ∧ Aside0 (Kd.R (Kd.int .i64) 3 w' w0.heap.size (fun k_ => (P1_ k_ ∨ w.heap.size ≤ k_)) u9000_ x1_1) ∧ Aside0 (Kept w w' (fun k_ => P1_ k_)) ∧ Aside0 (Below w0.heap.size w0 w'))
  case atStart => exact ⟨(l1), (false), (0), (by first | rfl | (simp; done) | (simp [*]; done)), (by first | rfl | (simp; done) | (simp [*]; done)), H', ⟨Nat.le_refl _⟩, ⟨by (with_reducible repeat (first | apply Kd.R_alloc | apply Kd.R_drewN | apply Kd.R_drew)); exact HO1.out⟩, ⟨by repeat (first | (with_reducible first | exact HK.out | apply Kept.alloc | apply Kept.drewN | apply Kept.drew) | exact HK.out)⟩, ⟨by repeat (first | (with_reducible first | exact HB.out | apply below_alloc | apply pw_below_drewN | apply below_drew1) | exact HB.out)⟩⟩
  case round =>
    clear H'
    try clear c2
    try clear p2
    obtain ⟨x1_1, x7_1, x8_1, rfl, rfl, HA, HK1, HO_1, HK, HB⟩ := hrel
    cases gk with
    | zero => exact absurd HA.out (by simp [bureauref21_spread.l0])
    | succ k1 =>
      have H := HA.out
      clear HA
      simp only [bureauref21_spread.l0] at H
      by_cases c3 : x8_1 < (l0.length : Int)
      · rw [if_pos c3] at H
        have c3b0 : decide (x8_1 < (l0.length : Int)) = true := decide_eq_true c3
        clear c3
        by_cases c4 : 0 ≤ x8_1
        · rw [if_pos c4] at H
          have c4b0 : decide (0 ≤ x8_1) = true := decide_eq_true c4
          clear c4
          by_cases c5 : x8_1 < (x1_1.length : Int)
          · rw [if_pos c5] at H
            have c5b0 : decide (x8_1 < (x1_1.length : Int)) = true := decide_eq_true c5
            clear c5
            by_cases c6 : (rd x1_1 x8_1) < 0
            · rw [if_pos c6] at H
              have c6b0 : decide ((rd x1_1 x8_1) < 0) = true := decide_eq_true c6
              clear c6
              have H' := Aside0.mk H
              clear H
              obtain ⟨Ao7, co7, eo7⟩ := Kd.R_slice HO_1.out
              subst eo7
              have p234 : 0 ≤ (x8_1 : Int) := of_decide_eq_true (by first | (with_reducible assumption) | assumption)
              have q234 : x8_1 < (x1_1.length : Int) := of_decide_eq_true (by first | (with_reducible assumption) | assumption)
              obtain ⟨ad234, e234, hx234_0⟩ := Kd.at_int (Kd.R_reads' HO_1.out).2.2 x8_1 p234 q234
              cases e234
              replace p234 := eq_true p234
              replace q234 := eq_true q234
              go_wp2
              go_roundg k1
              case measure => have := HK1.out; omega
              case rel => exact ⟨(x1_1), (x7_1), (wrap64 (x8_1 + 1)), (by first | rfl | (simp; done) | (simp [*]; done)), (by first | rfl | (simp; done) | (simp [*]; done)), H', ⟨by have := HK1.out; omega⟩, ⟨by (with_reducible repeat (first | apply Kd.R_alloc | apply Kd.R_drewN | apply Kd.R_drew)); exact HO_1.out⟩, ⟨by repeat (first | (with_reducible first | exact HK.out | apply Kept.alloc | apply Kept.drewN | apply Kept.drew) | exact HK.out)⟩, ⟨by repeat (first | (with_reducible first | exact HB.out | apply below_alloc | apply pw_below_drewN | apply below_drew1) | exact HB.out)⟩⟩
            · rw [if_neg c6] at H
              have c6b0 : decide ((rd x1_1 x8_1) < 0) = false := decide_eq_false c6
              clear c6
              replace H := Option.bind_eq_some_iff.mp H
              obtain ⟨t237, A80, H⟩ := H
              replace H : ((bureauref21_Gives.f k1 ((rd_T36 l0 x8_1).f0) ((rd_T36 l0 x8_1).f1)).bind fun t239 => ((bureauref21_Takes.f k1 ((rd_T36 l0 x8_1).f0) ((rd_T36 l0 x8_1).f1)).bind fun t242 => (if (rd x1_1 x8_1) < t242 then (bureauref21_spread.j1 k1 l0 x1_1 x7_1 x8_1 (wrap64 ((wrap64 ((rd x1_1 x8_1) - t237)) + t239)) true) else (bureauref21_spread.j1 k1 l0 x1_1 x7_1 x8_1 (wrap64 ((wrap64 ((rd x1_1 x8_1) - t237)) + t239)) (decide ((wrap64 ((wrap64 ((rd x1_1 x8_1) - t237)) + t239)) > 16)))))) = some (r1, r2, r3) := H
              have A8 := Aside0.mk A80
              clear A80
              replace H := Option.bind_eq_some_iff.mp H
              obtain ⟨t239, A90, H⟩ := H
              replace H : ((bureauref21_Takes.f k1 ((rd_T36 l0 x8_1).f0) ((rd_T36 l0 x8_1).f1)).bind fun t242 => (if (rd x1_1 x8_1) < t242 then (bureauref21_spread.j1 k1 l0 x1_1 x7_1 x8_1 (wrap64 ((wrap64 ((rd x1_1 x8_1) - t237)) + t239)) true) else (bureauref21_spread.j1 k1 l0 x1_1 x7_1 x8_1 (wrap64 ((wrap64 ((rd x1_1 x8_1) - t237)) + t239)) (decide ((wrap64 ((wrap64 ((rd x1_1 x8_1) - t237)) + t239)) > 16))))) = some (r1, r2, r3) := H
              have A9 := Aside0.mk A90
              clear A90
              have HC10 := Aside0.mk H
              clear H
              obtain ⟨Ao11, co11, eo11⟩ := Kd.R_slice HO_1.out
              subst eo11
              have p234 : 0 ≤ (x8_1 : Int) := of_decide_eq_true (by first | (with_reducible assumption) | assumption)
              have q234 : x8_1 < (x1_1.length : Int) := of_decide_eq_true (by first | (with_reducible assumption) | assumption)
              obtain ⟨ad234, e234, hx234_0⟩ := Kd.at_int (Kd.R_reads' HO_1.out).2.2 x8_1 p234 q234
              cases e234
              replace p234 := eq_true p234
              replace q234 := eq_true q234
              try go_wp2
              have n0_ := Aside0.mk (Kd.R_drew HO_1.out)
              have n1_ := Aside0.mk (Kept.drew HK.out)
              have n2_ := Aside0.mk (below_drew1 HB.out)
              clear HO_1
              clear HK
              clear HB
              have HO_1 := n0_
              have HK := n1_
              have HB := n2_
              clear n0_ n1_ n2_
              have p235 : 0 ≤ (x8_1 : Int) := of_decide_eq_true (by first | (with_reducible assumption) | assumption)
              have q235 : x8_1 < (x1_1.length : Int) := of_decide_eq_true (by first | (with_reducible assumption) | assumption)
              obtain ⟨ad235, e235, hx235_0⟩ := Kd.at_int (Kd.R_reads' HO_1.out).2.2 x8_1 p235 q235
              obtain rfl : ad234 = ad235 := (by injection e235)
              replace p235 := eq_true p235
              replace q235 := eq_true q235
              have p236 : 0 ≤ (x8_1 : Int) := of_decide_eq_true (by first | (with_reducible assumption) | assumption)
              have q236 : x8_1 < (l0.length : Int) := of_decide_eq_true (by first | (with_reducible assumption) | assumption)
              obtain ⟨ad236, e236, hx236_0, hx236_1⟩ := at_T36 (Kd.C_kept_now HR0.out HK.out) x8_1 p236 q236
              have hw236_1 := hx236_1
              have hw236_0 := hx236_0
              cases e236
              replace p236 := eq_true p236
              replace q236 := eq_true q236
              have p238 : 0 ≤ (x8_1 : Int) := of_decide_eq_true (by first | (with_reducible assumption) | assumption)
              have q238 : x8_1 < (l0.length : Int) := of_decide_eq_true (by first | (with_reducible assumption) | assumption)
              obtain ⟨ad238, e238, hx238_0, hx238_1⟩ := at_T36 (Kd.C_kept_now HR0.out HK.out) x8_1 p238 q238
              have hw238_1 := hx238_1
              have hw238_0 := hx238_0
              obtain rfl : ad236 = ad238 := (by injection e238)
              replace p238 := eq_true p238
              replace q238 := eq_true q238
              refine start_ (n := 17) (S := fun w' => w'.cell? (ad234.add (x8_1).toNat) = some (.int .i64 (rd x1_1 x8_1)) ∧ w'.cell? (ad236.add ((x8_1).toNat * 2)) = some (.int .i64 ((rd_T36 l0 x8_1).f0)) ∧ w'.cell? ⟨(ad236.add ((x8_1).toNat * 2)).block, (ad236.add ((x8_1).toNat * 2)).off + 1, none⟩ = some (.int .i64 ((rd_T36 l0 x8_1).f1)) ∧ w'.cell? (ad236.add ((x8_1).toNat * 2)) = some (.int .i64 ((rd_T36 l0 x8_1).f0)) ∧ w'.cell? ⟨(ad236.add ((x8_1).toNat * 2)).block, (ad236.add ((x8_1).toNat * 2)).off + 1, none⟩ = some (.int .i64 ((rd_T36 l0 x8_1).f1))) (ds := []) #[false, false, false, false, false, false, false, false, false, false, false, false, false, false, false, false, false] (by kernel_rfl) rfl rfl ⟨hx235_0, hx236_0, hx236_1, hx238_0, hx238_1⟩ (fun hHeld => ?_); refine with_tabW bureauref21_spread.tab6 bureauref21_spread.bits6 (fun HT_ HW_ => ?_)
              generalize wr.drew = w12 at HO_1 HK HB hx235_0 hx236_0 hx236_1 hx238_0 hx238_1 hHeld ⊢
              refine pure_ (i := 0) (N := some 24) (v := ?_) (a' := ?_) #[true, false, false, false, false, false, false, false, false, false, false, false, false, false, false, false, false] rfl rfl (any_of HT_.out (by kernel_rfl)) (fun _ _ _ h => h) (Or.inl ⟨by rfl, ?_⟩) ?_ ?_
              rotate_left
              · intro w'
                go_simp
                with_reducible rfl
              rotate_left
              · simp only [Act.put, List.setIfInBounds_toArray, List.set_cons_zero, List.set_cons_succ, i64_w, i32_w]
                rfl
              refine pure_ (i := 1) (N := some 25) (v := ?_) (a' := ?_) #[true, true, false, false, false, false, false, false, false, false, false, false, false, false, false, false, false] rfl rfl (any_of HT_.out (by kernel_rfl)) (fun _ _ _ h => h) (Or.inl ⟨by rfl, ?_⟩) ?_ ?_
              rotate_left
              · intro w'
                go_simp
                with_reducible rfl
              rotate_left
              · simp only [Act.put, List.setIfInBounds_toArray, List.set_cons_zero, List.set_cons_succ, i64_w, i32_w]
                rfl
              refine pure_ (i := 2) (N := some 26) (v := ?_) (a' := ?_) #[true, true, true, false, false, false, false, false, false, false, false, false, false, false, false, false, false] rfl rfl (any_of HT_.out (by kernel_rfl)) (fun _ _ _ h => h) (Or.inl ⟨by rfl, ?_⟩) ?_ ?_
              rotate_left
              · intro w'
                go_simp
                with_reducible rfl
              rotate_left
              · simp only [Act.put, List.setIfInBounds_toArray, List.set_cons_zero, List.set_cons_succ, i64_w, i32_w]
                rfl
              refine pure_ (i := 4) (N := some 28) (v := ?_) (a' := ?_) #[true, true, true, false, true, false, false, false, false, false, false, false, false, false, false, false, false] rfl rfl (any_of HT_.out (by kernel_rfl)) (fun _ _ _ h => h) (Or.inl ⟨by rfl, ?_⟩) ?_ ?_
              rotate_left
              · intro w'
                go_simp
                with_reducible rfl
              rotate_left
              · simp only [Act.put, List.setIfInBounds_toArray, List.set_cons_zero, List.set_cons_succ, i64_w, i32_w]
                rfl
              refine pure_ (i := 5) (N := some 29) (v := ?_) (a' := ?_) #[true, true, true, false, true, true, false, false, false, false, false, false, false, false, false, false, false] rfl rfl (any_of HT_.out (by kernel_rfl)) (fun _ _ _ h => h) (Or.inl ⟨by rfl, ?_⟩) ?_ ?_
              rotate_left
              · intro w'
                go_simp
                with_reducible rfl
              rotate_left
              · simp only [Act.put, List.setIfInBounds_toArray, List.set_cons_zero, List.set_cons_succ, i64_w, i32_w]
                rfl
              refine pure_ (i := 6) (N := some 30) (v := ?_) (a' := ?_) #[true, true, true, false, true, true, true, false, false, false, false, false, false, false, false, false, false] rfl rfl (any_of HT_.out (by kernel_rfl)) (fun _ _ _ h => h) (Or.inl ⟨by rfl, ?_⟩) ?_ ?_
              rotate_left
              · intro w'
                go_simp
                with_reducible rfl
              rotate_left
              · simp only [Act.put, List.setIfInBounds_toArray, List.set_cons_zero, List.set_cons_succ, i64_w, i32_w]
                rfl
              refine pure_ (i := 10) (N := some 34) (v := ?_) (a' := ?_) #[true, true, true, false, true, true, true, false, false, false, true, false, false, false, false, false, false] rfl rfl (any_of HT_.out (by kernel_rfl)) (fun _ _ _ h => h) (Or.inl ⟨by rfl, ?_⟩) ?_ ?_
              rotate_left
              · intro w'
                go_simp
                with_reducible rfl
              rotate_left
              · simp only [Act.put, List.setIfInBounds_toArray, List.set_cons_zero, List.set_cons_succ, i64_w, i32_w]
                rfl
              refine pure_ (i := 11) (N := some 35) (v := ?_) (a' := ?_) #[true, true, true, false, true, true, true, false, false, false, true, true, false, false, false, false, false] rfl rfl (any_of HT_.out (by kernel_rfl)) (fun _ _ _ h => h) (Or.inl ⟨by rfl, ?_⟩) ?_ ?_
              rotate_left
              · intro w'
                go_simp
                with_reducible rfl
              rotate_left
              · simp only [Act.put, List.setIfInBounds_toArray, List.set_cons_zero, List.set_cons_succ, i64_w, i32_w]
                rfl
              refine pure_ (i := 12) (N := some 36) (v := ?_) (a' := ?_) #[true, true, true, false, true, true, true, false, false, false, true, true, true, false, false, false, false] rfl rfl (any_of HT_.out (by kernel_rfl)) (fun _ _ _ h => h) (Or.inl ⟨by rfl, ?_⟩) ?_ ?_
              rotate_left
              · intro w'
                go_simp
                with_reducible rfl
              rotate_left
              · simp only [Act.put, List.setIfInBounds_toArray, List.set_cons_zero, List.set_cons_succ, i64_w, i32_w]
                rfl
              refine take_ (i := 3) (N := some 27) (v := ?_) (a' := ?_) #[true, true, true, true, true, true, true, false, false, false, true, true, true, false, false, false, false] rfl rfl (take_ofW HT_.out HW_.out (by kernel_rfl)) (fun _ _ _ h => h) (Or.inl ⟨by rfl, ?_⟩) hHeld ?_ ?_
              rotate_left
              · rintro w' ⟨s0, s1, s2, s3, s4⟩
                go_simp
                with_reducible rfl
              rotate_left
              · simp only [Act.put, List.setIfInBounds_toArray, List.set_cons_zero, List.set_cons_succ, i64_w, i32_w]
                rfl
              refine take_ (i := 7) (N := some 31) (v := ?_) (a' := ?_) #[true, true, true, true, true, true, true, true, false, false, true, true, true, false, false, false, false] rfl rfl (take_ofW HT_.out HW_.out (by kernel_rfl)) (fun _ _ _ h => h) (Or.inl ⟨by rfl, ?_⟩) hHeld ?_ ?_
              rotate_left
              · rintro w' ⟨s0, s1, s2, s3, s4⟩
                go_simp
                with_reducible rfl
              rotate_left
              · simp only [Act.put, List.setIfInBounds_toArray, List.set_cons_zero, List.set_cons_succ, i64_w, i32_w]
                rfl
              refine take_ (i := 13) (N := some 37) (v := ?_) (a' := ?_) #[true, true, true, true, true, true, true, true, false, false, true, true, true, true, false, false, false] rfl rfl (take_ofW HT_.out HW_.out (by kernel_rfl)) (fun _ _ _ h => h) (Or.inl ⟨by rfl, ?_⟩) hHeld ?_ ?_
              rotate_left
              · rintro w' ⟨s0, s1, s2, s3, s4⟩
                go_simp
                with_reducible rfl
              rotate_left
              · simp only [Act.put, List.setIfInBounds_toArray, List.set_cons_zero, List.set_cons_succ, i64_w, i32_w]
                rfl
              refine one_ (i := 8) (N := some 32) #[true, true, true, true, true, true, true, true, true, false, true, true, true, true, false, false, false] rfl rfl (one_of HT_.out (by kernel_rfl)) (by decide) (fun K hK => ?_)
              refine goes_ Try.func14 (by kernel_rfl) rfl #[.agg #[.int .i64 ((rd_T36 l0 x8_1).f0), .int .i64 ((rd_T36 l0 x8_1).f1)]] (by rfl) rfl rfl (by (try simp only [List.map_toArray, List.map_cons, List.map_nil]); first | done | rfl | (simp only [List.length_drop, List.length_take]; rfl)) ?_
              with_reducible refine (bureauref21_Takes.calls k1 ((rd_T36 l0 x8_1).f0) ((rd_T36 l0 x8_1).f1) t237 _ A8.out).mono ?_
              rintro e w13 ⟨rfl, hb⟩
              have HS0_ := (hb.cell (World.block_lt_of_cell? _ _ (hHeld.1))).trans (hHeld.1)
              have HS1_ := (hb.cell (World.block_lt_of_cell? _ _ (hHeld.2.1))).trans (hHeld.2.1)
              have HS2_ := (hb.cell (World.block_lt_of_cell? _ _ (hHeld.2.2.1))).trans (hHeld.2.2.1)
              have HS3_ := (hb.cell (World.block_lt_of_cell? _ _ (hHeld.2.2.2.1))).trans (hHeld.2.2.2.1)
              have HS4_ := (hb.cell (World.block_lt_of_cell? _ _ (hHeld.2.2.2.2))).trans (hHeld.2.2.2.2)
              refine ⟨_, rfl, ?_⟩
              have n0_ := Aside0.mk (Kd.R_below (by (with_reducible repeat (first | apply Kd.R_alloc | apply Kd.R_drewN | apply Kd.R_drew)); exact HO_1.out) hb)
              have n1_ := Aside0.mk (Kept.below (S := (fun k_ => P1_ k_)) (by repeat (first | (with_reducible first | exact HK.out | apply Kept.alloc | apply Kept.drewN | apply Kept.drew) | exact HK.out)) hb)
              have n2_ := Aside0.mk (below_step (by repeat (first | (with_reducible first | exact HB.out | apply below_alloc | apply pw_below_drewN | apply below_drew1) | exact HB.out)) hb)
              clear HO_1
              clear HK
              clear HB
              have HO_1 := n0_
              have HK := n1_
              have HB := n2_
              clear n0_ n1_ n2_
              (try clear hb)
              (try clear hb2)
              (try clear hk)
              (try clear hi)
              refine hK.out _ _ ⟨HS0_, HS1_, HS2_, HS3_, HS4_⟩ (fun hHeld => ?_)
              clear hK K
              refine norm_ (a' := ?_) ?_ ?_
              rotate_left
              · show Act.put _ (some 32) _ = _
                simp only [Act.put, List.setIfInBounds_toArray, List.set_cons_zero, List.set_cons_succ, i64_w, i32_w]
                rfl
              refine pure_ (i := 9) (N := some 33) (v := ?_) (a' := ?_) #[true, true, true, true, true, true, true, true, true, true, true, true, true, true, false, false, false] rfl rfl (any_of HT_.out (by kernel_rfl)) (fun _ _ _ h => h) (Or.inl ⟨by rfl, ?_⟩) ?_ ?_
              rotate_left
              · intro w'
                go_simp
                with_reducible rfl
              rotate_left
              · simp only [Act.put, List.setIfInBounds_toArray, List.set_cons_zero, List.set_cons_succ, i64_w, i32_w]
                rfl
              refine one_ (i := 14) (N := some 38) #[true, true, true, true, true, true, true, true, true, true, true, true, true, true, true, false, false] rfl rfl (one_of HT_.out (by kernel_rfl)) (by decide) (fun K hK => ?_)
              refine goes_ Try.func15 (by kernel_rfl) rfl #[.agg #[.int .i64 ((rd_T36 l0 x8_1).f0), .int .i64 ((rd_T36 l0 x8_1).f1)]] (by rfl) rfl rfl (by (try simp only [List.map_toArray, List.map_cons, List.map_nil]); first | done | rfl | (simp only [List.length_drop, List.length_take]; rfl)) ?_
              with_reducible refine (bureauref21_Gives.calls k1 ((rd_T36 l0 x8_1).f0) ((rd_T36 l0 x8_1).f1) t239 _ A9.out).mono ?_
              rintro e w14 ⟨rfl, hb⟩
              have HS0_ := (hb.cell (World.block_lt_of_cell? _ _ (hHeld.1))).trans (hHeld.1)
              have HS1_ := (hb.cell (World.block_lt_of_cell? _ _ (hHeld.2.1))).trans (hHeld.2.1)
              have HS2_ := (hb.cell (World.block_lt_of_cell? _ _ (hHeld.2.2.1))).trans (hHeld.2.2.1)
              have HS3_ := (hb.cell (World.block_lt_of_cell? _ _ (hHeld.2.2.2.1))).trans (hHeld.2.2.2.1)
              have HS4_ := (hb.cell (World.block_lt_of_cell? _ _ (hHeld.2.2.2.2))).trans (hHeld.2.2.2.2)
              refine ⟨_, rfl, ?_⟩
              have n0_ := Aside0.mk (Kd.R_below (by (with_reducible repeat (first | apply Kd.R_alloc | apply Kd.R_drewN | apply Kd.R_drew)); exact HO_1.out) hb)
              have n1_ := Aside0.mk (Kept.below (S := (fun k_ => P1_ k_)) (by repeat (first | (with_reducible first | exact HK.out | apply Kept.alloc | apply Kept.drewN | apply Kept.drew) | exact HK.out)) hb)
              have n2_ := Aside0.mk (below_step (by repeat (first | (with_reducible first | exact HB.out | apply below_alloc | apply pw_below_drewN | apply below_drew1) | exact HB.out)) hb)
              clear HO_1
              clear HK
              clear HB
              have HO_1 := n0_
              have HK := n1_
              have HB := n2_
              clear n0_ n1_ n2_
              (try clear hb)
              (try clear hb2)
              (try clear hk)
              (try clear hi)
              refine hK.out _ _ ⟨HS0_, HS1_, HS2_, HS3_, HS4_⟩ (fun hHeld => ?_)
              clear hK K
              refine norm_ (a' := ?_) ?_ ?_
              rotate_left
              · show Act.put _ (some 38) _ = _
                simp only [Act.put, List.setIfInBounds_toArray, List.set_cons_zero, List.set_cons_succ, i64_w, i32_w]
                rfl
              refine pure_ (i := 15) (N := some 39) (v := ?_) (a' := ?_) #[true, true, true, true, true, true, true, true, true, true, true, true, true, true, true, true, false] rfl rfl (any_of HT_.out (by kernel_rfl)) (fun _ _ _ h => h) (Or.inl ⟨by rfl, ?_⟩) ?_ ?_
              rotate_left
              · intro w'
                go_simp
                with_reducible rfl
              rotate_left
              · simp only [Act.put, List.setIfInBounds_toArray, List.set_cons_zero, List.set_cons_succ, i64_w, i32_w]
                rfl
              refine pure_ (i := 16) (N := some 9) (v := ?_) (a' := ?_) #[true, true, true, true, true, true, true, true, true, true, true, true, true, true, true, true, true] rfl rfl (any_of HT_.out (by kernel_rfl)) (fun _ _ _ h => h) (Or.inl ⟨by rfl, ?_⟩) ?_ ?_
              rotate_left
              · intro w'
                go_simp
                with_reducible rfl
              rotate_left
              · simp only [Act.put, List.setIfInBounds_toArray, List.set_cons_zero, List.set_cons_succ, i64_w, i32_w]
                rfl
              refine done_ (done_of HT_.out (by kernel_rfl)) ?_
              go_upto_region 7 with (fail)
              go_cut [53] (fun v53 wc => ∃ (kq : Nat) (x53_9 : Bool), v53 = .bool x53_9 ∧ Aside0 (bureauref21_spread.j1 kq l0 x1_1 x7_1 x8_1 (wrap64 ((wrap64 ((rd x1_1 x8_1) - t237)) + t239)) x53_9 = some (r1, r2, r3)) ∧ Aside0 (kq ≤ k1) ∧ Aside0 (Kd.R (Kd.int .i64) 3 wc w0.heap.size (fun k_ => (P1_ k_ ∨ w.heap.size ≤ k_)) (.slice (some ad234) x1_1.length co11) x1_1) ∧ Aside0 (Kept w wc (fun k_ => P1_ k_)) ∧ Aside0 (Below w0.heap.size w0 wc))
              case first =>
                have H := HC10.out
                clear HC10
                replace H := Option.bind_eq_some_iff.mp H
                obtain ⟨t242, A150, H⟩ := H
                replace H : (if (rd x1_1 x8_1) < t242 then (bureauref21_spread.j1 k1 l0 x1_1 x7_1 x8_1 (wrap64 ((wrap64 ((rd x1_1 x8_1) - t237)) + t239)) true) else (bureauref21_spread.j1 k1 l0 x1_1 x7_1 x8_1 (wrap64 ((wrap64 ((rd x1_1 x8_1) - t237)) + t239)) (decide ((wrap64 ((wrap64 ((rd x1_1 x8_1) - t237)) + t239)) > 16)))) = some (r1, r2, r3) := H
                have A15 := Aside0.mk A150
                clear A150
                by_cases c16 : (rd x1_1 x8_1) < t242
                · rw [if_pos c16] at H
                  have c16b0 : decide ((rd x1_1 x8_1) < t242) = true := decide_eq_true c16
                  clear c16
                  (first | rw [c16b0] | (simp only [i64_w, i32_w]; rw [c16b0]) | skip)
                  have H' := Aside0.mk H
                  clear H
                  try go_wp2
                  have n0_ := Aside0.mk (Kd.R_drew HO_1.out)
                  have n1_ := Aside0.mk (Kept.drew HK.out)
                  have n2_ := Aside0.mk (below_drew1 HB.out)
                  clear HO_1
                  clear HK
                  clear HB
                  have HO_1 := n0_
                  have HK := n1_
                  have HB := n2_
                  clear n0_ n1_ n2_
                  have p240 : 0 ≤ (x8_1 : Int) := of_decide_eq_true (by first | (with_reducible assumption) | assumption)
                  have q240 : x8_1 < (x1_1.length : Int) := of_decide_eq_true (by first | (with_reducible assumption) | assumption)
                  obtain ⟨ad240, e240, hx240_0⟩ := Kd.at_int (Kd.R_reads' HO_1.out).2.2 x8_1 p240 q240
                  obtain rfl : ad234 = ad240 := (by injection e240)
                  replace p240 := eq_true p240
                  replace q240 := eq_true q240
                  have p241 : 0 ≤ (x8_1 : Int) := of_decide_eq_true (by first | (with_reducible assumption) | assumption)
                  have q241 : x8_1 < (l0.length : Int) := of_decide_eq_true (by first | (with_reducible assumption) | assumption)
                  obtain ⟨ad241, e241, hx241_0, hx241_1⟩ := at_T36 (Kd.C_kept_now HR0.out HK.out) x8_1 p241 q241
                  have hw241_1 := hx241_1
                  have hw241_0 := hx241_0
                  obtain rfl : ad236 = ad241 := (by injection e241)
                  replace p241 := eq_true p241
                  replace q241 := eq_true q241
                  refine start_ (n := 14) (S := fun w' => w'.cell? (ad234.add (x8_1).toNat) = some (.int .i64 (rd x1_1 x8_1)) ∧ w'.cell? (ad236.add ((x8_1).toNat * 2)) = some (.int .i64 ((rd_T36 l0 x8_1).f0)) ∧ w'.cell? ⟨(ad236.add ((x8_1).toNat * 2)).block, (ad236.add ((x8_1).toNat * 2)).off + 1, none⟩ = some (.int .i64 ((rd_T36 l0 x8_1).f1))) (ds := []) #[false, false, false, false, false, false, false, false, false, false, false, false, false, false] (by kernel_rfl) rfl rfl ⟨hx240_0, hx241_0, hx241_1⟩ (fun hHeld => ?_); refine with_tabW bureauref21_spread.tab7 bureauref21_spread.bits7 (fun HT_ HW_ => ?_)
                  generalize w14.drew = w17 at HO_1 HK HB hx240_0 hx241_0 hx241_1 hHeld ⊢
                  refine pure_ (i := 0) (N := some 40) (v := ?_) (a' := ?_) #[true, false, false, false, false, false, false, false, false, false, false, false, false, false] rfl rfl (any_of HT_.out (by kernel_rfl)) (fun _ _ _ h => h) (Or.inl ⟨by rfl, ?_⟩) ?_ ?_
                  rotate_left
                  · intro w'
                    go_simp
                    with_reducible rfl
                  rotate_left
                  · simp only [Act.put, List.setIfInBounds_toArray, List.set_cons_zero, List.set_cons_succ, i64_w, i32_w]
                    rfl
                  refine pure_ (i := 1) (N := some 41) (v := ?_) (a' := ?_) #[true, true, false, false, false, false, false, false, false, false, false, false, false, false] rfl rfl (any_of HT_.out (by kernel_rfl)) (fun _ _ _ h => h) (Or.inl ⟨by rfl, ?_⟩) ?_ ?_
                  rotate_left
                  · intro w'
                    go_simp
                    with_reducible rfl
                  rotate_left
                  · simp only [Act.put, List.setIfInBounds_toArray, List.set_cons_zero, List.set_cons_succ, i64_w, i32_w]
                    rfl
                  refine pure_ (i := 2) (N := some 42) (v := ?_) (a' := ?_) #[true, true, true, false, false, false, false, false, false, false, false, false, false, false] rfl rfl (any_of HT_.out (by kernel_rfl)) (fun _ _ _ h => h) (Or.inl ⟨by rfl, ?_⟩) ?_ ?_
                  rotate_left
                  · intro w'
                    go_simp
                    with_reducible rfl
                  rotate_left
                  · simp only [Act.put, List.setIfInBounds_toArray, List.set_cons_zero, List.set_cons_succ, i64_w, i32_w]
                    rfl
                  refine pure_ (i := 4) (N := some 44) (v := ?_) (a' := ?_) #[true, true, true, false, true, false, false, false, false, false, false, false, false, false] rfl rfl (any_of HT_.out (by kernel_rfl)) (fun _ _ _ h => h) (Or.inl ⟨by rfl, ?_⟩) ?_ ?_
                  rotate_left
                  · intro w'
                    go_simp
                    with_reducible rfl
                  rotate_left
                  · simp only [Act.put, List.setIfInBounds_toArray, List.set_cons_zero, List.set_cons_succ, i64_w, i32_w]
                    rfl
                  refine pure_ (i := 5) (N := some 45) (v := ?_) (a' := ?_) #[true, true, true, false, true, true, false, false, false, false, false, false, false, false] rfl rfl (any_of HT_.out (by kernel_rfl)) (fun _ _ _ h => h) (Or.inl ⟨by rfl, ?_⟩) ?_ ?_
                  rotate_left
                  · intro w'
                    go_simp
                    with_reducible rfl
                  rotate_left
                  · simp only [Act.put, List.setIfInBounds_toArray, List.set_cons_zero, List.set_cons_succ, i64_w, i32_w]
                    rfl
                  refine pure_ (i := 6) (N := some 46) (v := ?_) (a' := ?_) #[true, true, true, false, true, true, true, false, false, false, false, false, false, false] rfl rfl (any_of HT_.out (by kernel_rfl)) (fun _ _ _ h => h) (Or.inl ⟨by rfl, ?_⟩) ?_ ?_
                  rotate_left
                  · intro w'
                    go_simp
                    with_reducible rfl
                  rotate_left
                  · simp only [Act.put, List.setIfInBounds_toArray, List.set_cons_zero, List.set_cons_succ, i64_w, i32_w]
                    rfl
                  refine take_ (i := 3) (N := some 43) (v := ?_) (a' := ?_) #[true, true, true, true, true, true, true, false, false, false, false, false, false, false] rfl rfl (take_ofW HT_.out HW_.out (by kernel_rfl)) (fun _ _ _ h => h) (Or.inl ⟨by rfl, ?_⟩) hHeld ?_ ?_
                  rotate_left
                  · rintro w' ⟨s0, s1, s2⟩
                    go_simp
                    with_reducible rfl
                  rotate_left
                  · simp only [Act.put, List.setIfInBounds_toArray, List.set_cons_zero, List.set_cons_succ, i64_w, i32_w]
                    rfl
                  refine take_ (i := 7) (N := some 47) (v := ?_) (a' := ?_) #[true, true, true, true, true, true, true, true, false, false, false, false, false, false] rfl rfl (take_ofW HT_.out HW_.out (by kernel_rfl)) (fun _ _ _ h => h) (Or.inl ⟨by rfl, ?_⟩) hHeld ?_ ?_
                  rotate_left
                  · rintro w' ⟨s0, s1, s2⟩
                    go_simp
                    with_reducible rfl
                  rotate_left
                  · simp only [Act.put, List.setIfInBounds_toArray, List.set_cons_zero, List.set_cons_succ, i64_w, i32_w]
                    rfl
                  refine one_ (i := 8) (N := some 48) #[true, true, true, true, true, true, true, true, true, false, false, false, false, false] rfl rfl (one_of HT_.out (by kernel_rfl)) (by decide) (fun K hK => ?_)
                  refine goes_ Try.func14 (by kernel_rfl) rfl #[.agg #[.int .i64 ((rd_T36 l0 x8_1).f0), .int .i64 ((rd_T36 l0 x8_1).f1)]] (by rfl) rfl rfl (by (try simp only [List.map_toArray, List.map_cons, List.map_nil]); first | done | rfl | (simp only [List.length_drop, List.length_take]; rfl)) ?_
                  with_reducible refine (bureauref21_Takes.calls k1 ((rd_T36 l0 x8_1).f0) ((rd_T36 l0 x8_1).f1) t242 _ A15.out).mono ?_
                  rintro e w18 ⟨rfl, hb⟩
                  have HS0_ := (hb.cell (World.block_lt_of_cell? _ _ (hHeld.1))).trans (hHeld.1)
                  have HS1_ := (hb.cell (World.block_lt_of_cell? _ _ (hHeld.2.1))).trans (hHeld.2.1)
                  have HS2_ := (hb.cell (World.block_lt_of_cell? _ _ (hHeld.2.2))).trans (hHeld.2.2)
                  refine ⟨_, rfl, ?_⟩
                  have n0_ := Aside0.mk (Kd.R_below (by (with_reducible repeat (first | apply Kd.R_alloc | apply Kd.R_drewN | apply Kd.R_drew)); exact HO_1.out) hb)
                  have n1_ := Aside0.mk (Kept.below (S := (fun k_ => P1_ k_)) (by repeat (first | (with_reducible first | exact HK.out | apply Kept.alloc | apply Kept.drewN | apply Kept.drew) | exact HK.out)) hb)
                  have n2_ := Aside0.mk (below_step (by repeat (first | (with_reducible first | exact HB.out | apply below_alloc | apply pw_below_drewN | apply below_drew1) | exact HB.out)) hb)
                  clear HO_1
                  clear HK
                  clear HB
                  have HO_1 := n0_
                  have HK := n1_
                  have HB := n2_
                  clear n0_ n1_ n2_
                  (try clear hb)
                  (try clear hb2)
                  (try clear hk)
                  (try clear hi)
                  refine hK.out _ _ ⟨HS0_, HS1_, HS2_⟩ (fun hHeld => ?_)
                  clear hK K
                  refine norm_ (a' := ?_) ?_ ?_
                  rotate_left
                  · show Act.put _ (some 48) _ = _
                    simp only [Act.put, List.setIfInBounds_toArray, List.set_cons_zero, List.set_cons_succ, i64_w, i32_w]
                    rfl
                  refine pure_ (i := 9) (N := some 49) (v := ?_) (a' := ?_) #[true, true, true, true, true, true, true, true, true, true, false, false, false, false] rfl rfl (any_of HT_.out (by kernel_rfl)) (fun _ _ _ h => h) (Or.inl ⟨by rfl, ?_⟩) ?_ ?_
                  rotate_left
                  · intro w'
                    go_simp
                    with_reducible rfl
                  rotate_left
                  · simp only [Act.put, List.setIfInBounds_toArray, List.set_cons_zero, List.set_cons_succ, i64_w, i32_w]
                    rfl
                  refine pure_ (i := 10) (N := some 50) (v := ?_) (a' := ?_) #[true, true, true, true, true, true, true, true, true, true, true, false, false, false] rfl rfl (any_of HT_.out (by kernel_rfl)) (fun _ _ _ h => h) (Or.inl ⟨by rfl, ?_⟩) ?_ ?_
                  rotate_left
                  · intro w'
                    go_simp
                    with_reducible rfl
                  rotate_left
                  · simp only [Act.put, List.setIfInBounds_toArray, List.set_cons_zero, List.set_cons_succ, i64_w, i32_w]
                    rfl
                  refine pure_ (i := 11) (N := some 51) (v := undef) (a' := ?_) #[true, true, true, true, true, true, true, true, true, true, true, true, false, false] rfl rfl (any_of HT_.out (by kernel_rfl)) (fun _ _ _ h => h) (Or.inr ⟨by rfl, rfl⟩) ?_ ?_
                  rotate_left
                  · simp only [Act.put, List.setIfInBounds_toArray, List.set_cons_zero, List.set_cons_succ, i64_w, i32_w]
                    rfl
                  refine pure_ (i := 12) (N := some 52) (v := undef) (a' := ?_) #[true, true, true, true, true, true, true, true, true, true, true, true, true, false] rfl rfl (any_of HT_.out (by kernel_rfl)) (fun _ _ _ h => h) (Or.inr ⟨by rfl, rfl⟩) ?_ ?_
                  rotate_left
                  · simp only [Act.put, List.setIfInBounds_toArray, List.set_cons_zero, List.set_cons_succ, i64_w, i32_w]
                    rfl
                  refine pure_ (i := 13) (N := some 53) (v := ?_) (a' := ?_) #[true, true, true, true, true, true, true, true, true, true, true, true, true, true] rfl rfl (any_of HT_.out (by kernel_rfl)) (fun _ _ _ h => h) (Or.inl ⟨by rfl, ?_⟩) ?_ ?_
                  rotate_left
                  · intro w'
                    go_simp
                    with_reducible rfl
                  rotate_left
                  · simp only [Act.put, List.setIfInBounds_toArray, List.set_cons_zero, List.set_cons_succ, i64_w, i32_w]
                    rfl
                  refine done_ (done_of HT_.out (by kernel_rfl)) ?_
                  try go_wp2
                  go_meet
                  case rel => exact ⟨_, (true), (by first | rfl | (simp; done) | (simp [*]; done)), H', ⟨by have := HK1.out; first | omega | exact Nat.le_refl _⟩, ⟨by (with_reducible repeat (first | apply Kd.R_alloc | apply Kd.R_drewN | apply Kd.R_drew)); exact HO_1.out⟩, ⟨by repeat (first | (with_reducible first | exact HK.out | apply Kept.alloc | apply Kept.drewN | apply Kept.drew) | exact HK.out)⟩, ⟨by repeat (first | (with_reducible first | exact HB.out | apply below_alloc | apply pw_below_drewN | apply below_drew1) | exact HB.out)⟩⟩
                · rw [if_neg c16] at H
                  have c16b0 : decide ((rd x1_1 x8_1) < t242) = false := decide_eq_false c16
                  clear c16
                  (first | rw [c16b0] | (simp only [i64_w, i32_w]; rw [c16b0]) | skip)
                  have H' := Aside0.mk H
                  clear H
                  try go_wp2
                  have n0_ := Aside0.mk (Kd.R_drew HO_1.out)
                  have n1_ := Aside0.mk (Kept.drew HK.out)
                  have n2_ := Aside0.mk (below_drew1 HB.out)
                  clear HO_1
                  clear HK
                  clear HB
                  have HO_1 := n0_
                  have HK := n1_
                  have HB := n2_
                  clear n0_ n1_ n2_
                  have p240 : 0 ≤ (x8_1 : Int) := of_decide_eq_true (by first | (with_reducible assumption) | assumption)
                  have q240 : x8_1 < (x1_1.length : Int) := of_decide_eq_true (by first | (with_reducible assumption) | assumption)
                  obtain ⟨ad240, e240, hx240_0⟩ := Kd.at_int (Kd.R_reads' HO_1.out).2.2 x8_1 p240 q240
                  obtain rfl : ad234 = ad240 := (by injection e240)
                  replace p240 := eq_true p240
                  replace q240 := eq_true q240
                  have p241 : 0 ≤ (x8_1 : Int) := of_decide_eq_true (by first | (with_reducible assumption) | assumption)
                  have q241 : x8_1 < (l0.length : Int) := of_decide_eq_true (by first | (with_reducible assumption) | assumption)
                  obtain ⟨ad241, e241, hx241_0, hx241_1⟩ := at_T36 (Kd.C_kept_now HR0.out HK.out) x8_1 p241 q241
                  have hw241_1 := hx241_1
                  have hw241_0 := hx241_0
                  obtain rfl : ad236 = ad241 := (by injection e241)
                  replace p241 := eq_true p241
                  replace q241 := eq_true q241
                  refine start_ (n := 14) (S := fun w' => w'.cell? (ad234.add (x8_1).toNat) = some (.int .i64 (rd x1_1 x8_1)) ∧ w'.cell? (ad236.add ((x8_1).toNat * 2)) = some (.int .i64 ((rd_T36 l0 x8_1).f0)) ∧ w'.cell? ⟨(ad236.add ((x8_1).toNat * 2)).block, (ad236.add ((x8_1).toNat * 2)).off + 1, none⟩ = some (.int .i64 ((rd_T36 l0 x8_1).f1))) (ds := []) #[false, false, false, false, false, false, false, false, false, false, false, false, false, false] (by kernel_rfl) rfl rfl ⟨hx240_0, hx241_0, hx241_1⟩ (fun hHeld => ?_); refine with_tabW bureauref21_spread.tab7 bureauref21_spread.bits7 (fun HT_ HW_ => ?_)
                  generalize w14.drew = w19 at HO_1 HK HB hx240_0 hx241_0 hx241_1 hHeld ⊢
                  refine pure_ (i := 0) (N := some 40) (v := ?_) (a' := ?_) #[true, false, false, false, false, false, false, false, false, false, false, false, false, false] rfl rfl (any_of HT_.out (by kernel_rfl)) (fun _ _ _ h => h) (Or.inl ⟨by rfl, ?_⟩) ?_ ?_
                  rotate_left
                  · intro w'
                    go_simp
                    with_reducible rfl
                  rotate_left
                  · simp only [Act.put, List.setIfInBounds_toArray, List.set_cons_zero, List.set_cons_succ, i64_w, i32_w]
                    rfl
                  refine pure_ (i := 1) (N := some 41) (v := ?_) (a' := ?_) #[true, true, false, false, false, false, false, false, false, false, false, false, false, false] rfl rfl (any_of HT_.out (by kernel_rfl)) (fun _ _ _ h => h) (Or.inl ⟨by rfl, ?_⟩) ?_ ?_
                  rotate_left
                  · intro w'
                    go_simp
                    with_reducible rfl
                  rotate_left
                  · simp only [Act.put, List.setIfInBounds_toArray, List.set_cons_zero, List.set_cons_succ, i64_w, i32_w]
                    rfl
                  refine pure_ (i := 2) (N := some 42) (v := ?_) (a' := ?_) #[true, true, true, false, false, false, false, false, false, false, false, false, false, false] rfl rfl (any_of HT_.out (by kernel_rfl)) (fun _ _ _ h => h) (Or.inl ⟨by rfl, ?_⟩) ?_ ?_
                  rotate_left
                  · intro w'
                    go_simp
                    with_reducible rfl
                  rotate_left
                  · simp only [Act.put, List.setIfInBounds_toArray, List.set_cons_zero, List.set_cons_succ, i64_w, i32_w]
                    rfl
                  refine pure_ (i := 4) (N := some 44) (v := ?_) (a' := ?_) #[true, true, true, false, true, false, false, false, false, false, false, false, false, false] rfl rfl (any_of HT_.out (by kernel_rfl)) (fun _ _ _ h => h) (Or.inl ⟨by rfl, ?_⟩) ?_ ?_
                  rotate_left
                  · intro w'
                    go_simp
                    with_reducible rfl
                  rotate_left
                  · simp only [Act.put, List.setIfInBounds_toArray, List.set_cons_zero, List.set_cons_succ, i64_w, i32_w]
                    rfl
                  refine pure_ (i := 5) (N := some 45) (v := ?_) (a' := ?_) #[true, true, true, false, true, true, false, false, false, false, false, false, false, false] rfl rfl (any_of HT_.out (by kernel_rfl)) (fun _ _ _ h => h) (Or.inl ⟨by rfl, ?_⟩) ?_ ?_
                  rotate_left
                  · intro w'
                    go_simp
                    with_reducible rfl
                  rotate_left
                  · simp only [Act.put, List.setIfInBounds_toArray, List.set_cons_zero, List.set_cons_succ, i64_w, i32_w]
                    rfl
                  refine pure_ (i := 6) (N := some 46) (v := ?_) (a' := ?_) #[true, true, true, false, true, true, true, false, false, false, false, false, false, false] rfl rfl (any_of HT_.out (by kernel_rfl)) (fun _ _ _ h => h) (Or.inl ⟨by rfl, ?_⟩) ?_ ?_
                  rotate_left
                  · intro w'
                    go_simp
                    with_reducible rfl
                  rotate_left
                  · simp only [Act.put, List.setIfInBounds_toArray, List.set_cons_zero, List.set_cons_succ, i64_w, i32_w]
                    rfl
                  refine take_ (i := 3) (N := some 43) (v := ?_) (a' := ?_) #[true, true, true, true, true, true, true, false, false, false, false, false, false, false] rfl rfl (take_ofW HT_.out HW_.out (by kernel_rfl)) (fun _ _ _ h => h) (Or.inl ⟨by rfl, ?_⟩) hHeld ?_ ?_
                  rotate_left
                  · rintro w' ⟨s0, s1, s2⟩
                    go_simp
                    with_reducible rfl
                  rotate_left
                  · simp only [Act.put, List.setIfInBounds_toArray, List.set_cons_zero, List.set_cons_succ, i64_w, i32_w]
                    rfl
                  refine take_ (i := 7) (N := some 47) (v := ?_) (a' := ?_) #[true, true, true, true, true, true, true, true, false, false, false, false, false, false] rfl rfl (take_ofW HT_.out HW_.out (by kernel_rfl)) (fun _ _ _ h => h) (Or.inl ⟨by rfl, ?_⟩) hHeld ?_ ?_
                  rotate_left
                  · rintro w' ⟨s0, s1, s2⟩
                    go_simp
                    with_reducible rfl
                  rotate_left
                  · simp only [Act.put, List.setIfInBounds_toArray, List.set_cons_zero, List.set_cons_succ, i64_w, i32_w]
                    rfl
                  refine one_ (i := 8) (N := some 48) #[true, true, true, true, true, true, true, true, true, false, false, false, false, false] rfl rfl (one_of HT_.out (by kernel_rfl)) (by decide) (fun K hK => ?_)
                  refine goes_ Try.func14 (by kernel_rfl) rfl #[.agg #[.int .i64 ((rd_T36 l0 x8_1).f0), .int .i64 ((rd_T36 l0 x8_1).f1)]] (by rfl) rfl rfl (by (try simp only [List.map_toArray, List.map_cons, List.map_nil]); first | done | rfl | (simp only [List.length_drop, List.length_take]; rfl)) ?_
                  with_reducible refine (bureauref21_Takes.calls k1 ((rd_T36 l0 x8_1).f0) ((rd_T36 l0 x8_1).f1) t242 _ A15.out).mono ?_
                  rintro e w20 ⟨rfl, hb⟩
                  have HS0_ := (hb.cell (World.block_lt_of_cell? _ _ (hHeld.1))).trans (hHeld.1)
                  have HS1_ := (hb.cell (World.block_lt_of_cell? _ _ (hHeld.2.1))).trans (hHeld.2.1)
                  have HS2_ := (hb.cell (World.block_lt_of_cell? _ _ (hHeld.2.2))).trans (hHeld.2.2)
                  refine ⟨_, rfl, ?_⟩
                  have n0_ := Aside0.mk (Kd.R_below (by (with_reducible repeat (first | apply Kd.R_alloc | apply Kd.R_drewN | apply Kd.R_drew)); exact HO_1.out) hb)
                  have n1_ := Aside0.mk (Kept.below (S := (fun k_ => P1_ k_)) (by repeat (first | (with_reducible first | exact HK.out | apply Kept.alloc | apply Kept.drewN | apply Kept.drew) | exact HK.out)) hb)
                  have n2_ := Aside0.mk (below_step (by repeat (first | (with_reducible first | exact HB.out | apply below_alloc | apply pw_below_drewN | apply below_drew1) | exact HB.out)) hb)
                  clear HO_1
                  clear HK
                  clear HB
                  have HO_1 := n0_
                  have HK := n1_
                  have HB := n2_
                  clear n0_ n1_ n2_
                  (try clear hb)
                  (try clear hb2)
                  (try clear hk)
                  (try clear hi)
                  refine hK.out _ _ ⟨HS0_, HS1_, HS2_⟩ (fun hHeld => ?_)
                  clear hK K
                  refine norm_ (a' := ?_) ?_ ?_
                  rotate_left
                  · show Act.put _ (some 48) _ = _
                    simp only [Act.put, List.setIfInBounds_toArray, List.set_cons_zero, List.set_cons_succ, i64_w, i32_w]
                    rfl
                  refine pure_ (i := 9) (N := some 49) (v := ?_) (a' := ?_) #[true, true, true, true, true, true, true, true, true, true, false, false, false, false] rfl rfl (any_of HT_.out (by kernel_rfl)) (fun _ _ _ h => h) (Or.inl ⟨by rfl, ?_⟩) ?_ ?_
                  rotate_left
                  · intro w'
                    go_simp
                    with_reducible rfl
                  rotate_left
                  · simp only [Act.put, List.setIfInBounds_toArray, List.set_cons_zero, List.set_cons_succ, i64_w, i32_w]
                    rfl
                  refine pure_ (i := 10) (N := some 50) (v := ?_) (a' := ?_) #[true, true, true, true, true, true, true, true, true, true, true, false, false, false] rfl rfl (any_of HT_.out (by kernel_rfl)) (fun _ _ _ h => h) (Or.inl ⟨by rfl, ?_⟩) ?_ ?_
                  rotate_left
                  · intro w'
                    go_simp
                    with_reducible rfl
                  rotate_left
                  · simp only [Act.put, List.setIfInBounds_toArray, List.set_cons_zero, List.set_cons_succ, i64_w, i32_w]
                    rfl
                  refine pure_ (i := 11) (N := some 51) (v := ?_) (a' := ?_) #[true, true, true, true, true, true, true, true, true, true, true, true, false, false] rfl rfl (any_of HT_.out (by kernel_rfl)) (fun _ _ _ h => h) (Or.inl ⟨by rfl, ?_⟩) ?_ ?_
                  rotate_left
                  · intro w'
                    go_simp
                    with_reducible rfl
                  rotate_left
                  · simp only [Act.put, List.setIfInBounds_toArray, List.set_cons_zero, List.set_cons_succ, i64_w, i32_w]
                    rfl
                  refine pure_ (i := 12) (N := some 52) (v := ?_) (a' := ?_) #[true, true, true, true, true, true, true, true, true, true, true, true, true, false] rfl rfl (any_of HT_.out (by kernel_rfl)) (fun _ _ _ h => h) (Or.inl ⟨by rfl, ?_⟩) ?_ ?_
                  rotate_left
                  · intro w'
                    go_simp
                    with_reducible rfl
                  rotate_left
                  · simp only [Act.put, List.setIfInBounds_toArray, List.set_cons_zero, List.set_cons_succ, i64_w, i32_w]
                    rfl
                  refine pure_ (i := 13) (N := some 53) (v := ?_) (a' := ?_) #[true, true, true, true, true, true, true, true, true, true, true, true, true, true] rfl rfl (any_of HT_.out (by kernel_rfl)) (fun _ _ _ h => h) (Or.inl ⟨by rfl, ?_⟩) ?_ ?_
                  rotate_left
                  · intro w'
                    go_simp
                    with_reducible rfl
                  rotate_left
                  · simp only [Act.put, List.setIfInBounds_toArray, List.set_cons_zero, List.set_cons_succ, i64_w, i32_w]
                    rfl
                  refine done_ (done_of HT_.out (by kernel_rfl)) ?_
                  try go_wp2
                  go_meet
                  case rel => exact ⟨_, (decide ((wrap64 ((wrap64 ((rd x1_1 x8_1) - t237)) + t239)) > 16)), (by first | rfl | (simp; done) | (simp [*]; done)), H', ⟨by have := HK1.out; first | omega | exact Nat.le_refl _⟩, ⟨by (with_reducible repeat (first | apply Kd.R_alloc | apply Kd.R_drewN | apply Kd.R_drew)); exact HO_1.out⟩, ⟨by repeat (first | (with_reducible first | exact HK.out | apply Kept.alloc | apply Kept.drewN | apply Kept.drew) | exact HK.out)⟩, ⟨by repeat (first | (with_reducible first | exact HB.out | apply below_alloc | apply pw_below_drewN | apply below_drew1) | exact HB.out)⟩⟩
              case rest =>
                clear HC10
                try clear c1
                try clear p2
                try clear q2
                try clear hx2
                try clear c6
                try clear c6b0
                try clear p6
                try clear c14
                try clear c15
                try clear c16
                try clear c16b0
                try clear hx234_0
                try clear hx235_0
                try clear hx236_0
                try clear hx236_1
                try clear hx238_0
                try clear hx238_1
                try clear hx240_0
                try clear hx241_0
                try clear hx241_1
                try clear p234
                try clear p235
                try clear p236
                try clear p238
                try clear p240
                try clear p241
                try clear q234
                try clear q235
                try clear q236
                try clear q238
                try clear q240
                try clear q241
                obtain ⟨kq, x53_9, rfl, HA, HJ9, HO_1, HK, HB⟩ := hcut
                cases kq with
                | zero => exact absurd HA.out (by simp [bureauref21_spread.j1])
                | succ kj9 =>
                  have H := HA.out
                  clear HA
                  simp only [bureauref21_spread.j1] at H
                  by_cases c21 : x53_9 = true
                  · subst c21
                    have H1 : (some (x1_1, false, false)) = some (r1, r2, r3) := by rw [if_pos rfl] at H; exact H
                    clear H
                    have H := H1
                    clear H1
                    simp only [Option.some.injEq, Prod.mk.injEq] at H
                    obtain ⟨rfl, rfl, rfl⟩ := H
                    go_wp2
                    go_ret3
                    exact ⟨_, by first | rfl | (simp [errW_none, errW_some] <;> rfl) | (simp [*, errW_none, errW_some] <;> rfl), by (with_reducible repeat (first | apply Kd.R_alloc | apply Kd.R_drewN | apply Kd.R_drew)); exact HO_1.out, by repeat (first | (with_reducible first | exact HB.out | apply below_alloc | apply pw_below_drewN | apply below_drew1) | exact HB.out), by repeat (first | (with_reducible first | exact HK.out | apply Kept.alloc | apply Kept.drewN | apply Kept.drew) | exact HK.out)⟩
                  · replace c21 := Bool.eq_false_iff.mpr c21
                    subst c21
                    have H1 : ((bureauref21_Behind.f l0 x8_1).bind fun t243 => (bureauref21_spread.l1 kj9 l0 x1_1 x7_1 x8_1 (wrap64 ((wrap64 ((rd x1_1 x8_1) - t237)) + t239)) t243 0)) = some (r1, r2, r3) := by rw [if_neg (show ¬ (false = true) by decide)] at H; exact H
                    clear H
                    have H := H1
                    clear H1
                    replace H := Option.bind_eq_some_iff.mp H
                    obtain ⟨t243, A220, H⟩ := H
                    replace H : (bureauref21_spread.l1 kj9 l0 x1_1 x7_1 x8_1 (wrap64 ((wrap64 ((rd x1_1 x8_1) - t237)) + t239)) t243 0) = some (r1, r2, r3) := H
                    have A22 := Aside0.mk A220
                    clear A220
                    have H' := Aside0.mk H
                    clear H
                    go_wp2_with (first | ((with_reducible refine gate_callee (f := 16) rfl ?_); refine goesL_ (some 57) rfl rfl Try.func16 (by kernel_rfl) rfl #[.slice (some ad236) l0.length c0, .int .i64 x8_1] rfl (by (try simp only [List.map_toArray, List.map_cons, List.map_nil]); first | done | rfl | (simp only [List.length_drop, List.length_take]; rfl)) ?_; (with_reducible refine (bureauref21_Behind.calls _ _ l0 x8_1 t243 _ ?side1 ?side2 A22.out).mono ?_); (case side1 => exact Kd.C_kept_now HR0.out (by repeat (first | (with_reducible first | exact HK.out | apply Kept.alloc | apply Kept.drewN | apply Kept.drew) | exact HK.out))); (case side2 => exact HC0.out); rintro e w23 ⟨v244, rfl, ho0, hb⟩; refine ⟨_, rfl, ?_⟩; have n0_ := Aside0.mk (Kd.R_elder' (by (with_reducible repeat (first | apply Kd.R_alloc | apply Kd.R_drewN | apply Kd.R_drew)); exact HO_1.out) (Kd.R_base ho0) hb); have n1_ := Aside0.mk (Kd.R_lower (Kd.R_new' (Kd.R_newM (M := fun k_ => (P1_ k_ ∨ w.heap.size ≤ k_)) ho0 (by first | exact HK.out.1 | exact (show Kept w _ (fun k_ => P1_ k_) from by repeat (first | (with_reducible first | exact HK.out | apply Kept.alloc | apply Kept.drewN | apply Kept.drew) | exact HK.out)).1) (fun k_ h_ => .inr h_)) (Kd.R_lt (by (with_reducible repeat (first | apply Kd.R_alloc | apply Kd.R_drewN | apply Kd.R_drew)); exact HO_1.out))) (below_size (by repeat (first | (with_reducible first | exact HB.out | apply below_alloc | apply pw_below_drewN | apply below_drew1) | exact HB.out)))); have n2_ := Aside0.mk (Kept.below (S := (fun k_ => P1_ k_)) (by repeat (first | (with_reducible first | exact HK.out | apply Kept.alloc | apply Kept.drewN | apply Kept.drew) | exact HK.out)) hb); have n3_ := Aside0.mk (below_step (by repeat (first | (with_reducible first | exact HB.out | apply below_alloc | apply pw_below_drewN | apply below_drew1) | exact HB.out)) hb); clear HO_1; clear HK; clear HB; have HO_1 := n0_; have HO245 := n1_; have HK := n2_; have HB := n3_; clear n0_ n1_ n2_ n3_; (try clear hb); (try clear hb2); (try clear hk); (try clear hi); (try clear ho0)))
                    go_loopg [7, 11] kj9 (fun kq v7 v11 w' => ∃ (x1_3 : List Int) (x7_3 : Bool) (x11_3 : Int), v7 = .bool x7_3 ∧ v11 = .int .i64 x11_3 ∧ Aside0 (bureauref21_spread.l1 kq l0 x1_3 x7_3 x8_1 (wrap64 ((wrap64 ((rd x1_1 x8_1) - t237)) + t239)) t243 x11_3 = some (r1, r2, r3)) ∧ Aside0 (kq ≤ kj9) ∧ Aside0 (Kd.R (Kd.int .i64) 3 w' w0.heap.size (fun k_ => (P1_ k_ ∨ w.heap.size ≤ k_) ∧ some k_ ≠ (v244 : Value).ownBlock) (.slice (some ad234) x1_1.length co11) x1_3) ∧ Aside0 (Kd.R (Kd.int .i64) 3 w' w0.heap.size (fun k_ => (P1_ k_ ∨ w.heap.size ≤ k_) ∧ some k_ ≠ ((.slice (some ad234) x1_1.length co11) : Value).ownBlock) v244 t243) ∧ Aside0 (Kept w w' (fun k_ => P1_ k_)) ∧ Aside0 (Below w0.heap.size w0 w'))
                    case atStart => exact ⟨(x1_1), (x7_1), (0), (by first | rfl | (simp; done) | (simp [*]; done)), (by first | rfl | (simp; done) | (simp [*]; done)), H', ⟨Nat.le_refl _⟩, ⟨by (with_reducible repeat (first | apply Kd.R_alloc | apply Kd.R_drewN | apply Kd.R_drew)); exact HO_1.out⟩, ⟨by (with_reducible repeat (first | apply Kd.R_alloc | apply Kd.R_drewN | apply Kd.R_drew)); exact Kd.R_mono HO245.out (fun _ hk => ⟨hk.1.1, hk.2⟩)⟩, ⟨by repeat (first | (with_reducible first | exact HK.out | apply Kept.alloc | apply Kept.drewN | apply Kept.drew) | exact HK.out)⟩, ⟨by repeat (first | (with_reducible first | exact HB.out | apply below_alloc | apply pw_below_drewN | apply below_drew1) | exact HB.out)⟩⟩
                    case round =>
                      clear H'
                      try clear c1
                      try clear c2
                      try clear p2
                      try clear q2
                      try clear hx2
                      try clear c6
                      try clear c6b0
                      try clear p6
                      try clear c14
                      try clear c15
                      try clear c16
                      try clear c16b0
                      try clear c21
                      try clear p23
                      try clear q23
                      try clear hx23
                      try clear hx234_0
                      try clear hx235_0
                      try clear hx236_0
                      try clear hx236_1
                      try clear hx238_0
                      try clear hx238_1
                      try clear hx240_0
                      try clear hx241_0
                      try clear hx241_1
                      try clear p2
                      try clear p234
                      try clear p235
                      try clear p236
                      try clear p238
                      try clear p240
                      try clear p241
                      try clear p6
                      try clear q2
                      try clear q234
                      try clear q235
                      try clear q236
                      try clear q238
                      try clear q240
                      try clear q241
                      obtain ⟨x1_3, x7_3, x11_3, rfl, rfl, HA, HK3, HO_1, HO_10, HK, HB⟩ := hrel
                      have hl1_3 := (Kd.R_reads' HO_1.out).1
                      rw [hl1_3] at HO_1
                      (try simp only [hl1_3])
                      (try simp only [hl1_3] at HO_10)
                      cases gk with
                      | zero => exact absurd HA.out (by simp [bureauref21_spread.l1])
                      | succ k3 =>
                        have H := HA.out
                        clear HA
                        simp only [bureauref21_spread.l1] at H
                        by_cases c24 : x11_3 < (t243.length : Int)
                        · rw [if_pos c24] at H
                          have c24b0 : decide (x11_3 < (t243.length : Int)) = true := decide_eq_true c24
                          clear c24
                          by_cases c25 : 0 ≤ x11_3
                          · rw [if_pos c25] at H
                            have c25b0 : decide (0 ≤ x11_3) = true := decide_eq_true c25
                            clear c25
                            by_cases c26 : (rd t243 x11_3) ≥ (l0.length : Int)
                            · rw [if_pos c26] at H
                              have c26b0 : decide ((l0.length : Int) ≤ (rd t243 x11_3)) = true := decide_eq_true c26
                              clear c26
                              simp only [Option.some.injEq, Prod.mk.injEq] at H
                              obtain ⟨rfl, rfl, rfl⟩ := H
                              obtain ⟨Ao27, co27, eo27⟩ := Kd.R_slice HO_10.out
                              subst eo27
                              have p246 : 0 ≤ (x11_3 : Int) := of_decide_eq_true (by first | (with_reducible assumption) | assumption)
                              have q246 : x11_3 < (t243.length : Int) := of_decide_eq_true (by first | (with_reducible assumption) | assumption)
                              obtain ⟨ad246, e246, hx246_0⟩ := Kd.at_int (Kd.R_reads' HO_10.out).2.2 x11_3 p246 q246
                              cases e246
                              replace p246 := eq_true p246
                              replace q246 := eq_true q246
                              go_wp2
                              go_ret3
                              exact ⟨_, by first | rfl | (simp [errW_none, errW_some] <;> rfl) | (simp [*, errW_none, errW_some] <;> rfl), by (with_reducible repeat (first | apply Kd.R_alloc | apply Kd.R_drewN | apply Kd.R_drew)); exact Kd.R_mono HO_1.out (fun _ hk => hk.1), by repeat (first | (with_reducible first | exact HB.out | apply below_alloc | apply pw_below_drewN | apply below_drew1) | exact HB.out), by repeat (first | (with_reducible first | exact HK.out | apply Kept.alloc | apply Kept.drewN | apply Kept.drew) | exact HK.out)⟩
                            · rw [if_neg c26] at H
                              have c26b0 : decide ((l0.length : Int) ≤ (rd t243 x11_3)) = false := decide_eq_false c26
                              clear c26
                              by_cases c28 : 0 ≤ (rd t243 x11_3)
                              · rw [if_pos c28] at H
                                have c28b0 : decide (0 ≤ (rd t243 x11_3)) = true := decide_eq_true c28
                                clear c28
                                by_cases c29 : (rd t243 x11_3) < (x1_3.length : Int)
                                · rw [if_pos c29] at H
                                  have c29b0 : decide ((rd t243 x11_3) < (x1_3.length : Int)) = true := decide_eq_true c29
                                  clear c29
                                  by_cases c30 : (rd x1_3 (rd t243 x11_3)) ≥ 0
                                  · rw [if_pos c30] at H
                                    have c30b0 : decide (0 ≤ (rd x1_3 (rd t243 x11_3))) = true := decide_eq_true c30
                                    clear c30
                                    by_cases c31 : (rd x1_3 (rd t243 x11_3)) = (wrap64 ((wrap64 ((rd x1_1 x8_1) - t237)) + t239))
                                    · rw [if_pos c31] at H
                                      have c31b0 : ((rd x1_3 (rd t243 x11_3)) == (wrap64 ((wrap64 ((rd x1_1 x8_1) - t237)) + t239))) = true := beq_iff_eq.mpr c31
                                      have c31b1 : ((rd x1_3 (rd t243 x11_3)) != (wrap64 ((wrap64 ((rd x1_1 x8_1) - t237)) + t239))) = false := bne_eq_false_iff_eq.mpr c31
                                      clear c31
                                      by_cases c32 : x7_3 = true
                                      · subst c32
                                        have H1 : (bureauref21_spread.l1 k3 l0 (x1_3.set ((rd t243 x11_3) : Int).toNat (wrap64 ((wrap64 ((rd x1_1 x8_1) - t237)) + t239))) true x8_1 (wrap64 ((wrap64 ((rd x1_1 x8_1) - t237)) + t239)) t243 (wrap64 (x11_3 + 1))) = some (r1, r2, r3) := by rw [if_pos rfl] at H; exact H
                                        clear H
                                        have H := H1
                                        clear H1
                                        obtain ⟨y249, hy249⟩ : ∃ y_ : List Int, y_ = (x1_3.set ((rd t243 x11_3) : Int).toNat (wrap64 ((wrap64 ((rd x1_1 x8_1) - t237)) + t239))) := ⟨_, rfl⟩
                                        replace H : (bureauref21_spread.l1 k3 l0 y249 true x8_1 (wrap64 ((wrap64 ((rd x1_1 x8_1) - t237)) + t239)) t243 (wrap64 (x11_3 + 1))) = some (r1, r2, r3) := by first | (rw [hy249]; with_reducible exact H) | (have H2_ := (Option.bind_some _ _).symm.trans H; rw [hy249]; with_reducible exact H2_) | (have H2_ := (Option.bind_some _ _).symm.trans H; with_reducible exact H2_) | with_reducible exact H | (rw [hy249]; exact H) | exact H
                                        have Ny249 := Aside0.mk hy249
                                        clear hy249
                                        have H' := Aside0.mk H
                                        clear H
                                        obtain ⟨Ao34, co34, eo34⟩ := Kd.R_slice HO_10.out
                                        subst eo34
                                        have p246 : 0 ≤ (x11_3 : Int) := of_decide_eq_true (by first | (with_reducible assumption) | assumption)
                                        have q246 : x11_3 < (t243.length : Int) := of_decide_eq_true (by first | (with_reducible assumption) | assumption)
                                        obtain ⟨ad246, e246, hx246_0⟩ := Kd.at_int (Kd.R_reads' HO_10.out).2.2 x11_3 p246 q246
                                        cases e246
                                        replace p246 := eq_true p246
                                        replace q246 := eq_true q246
                                        have p247 : 0 ≤ ((rd t243 x11_3) : Int) := of_decide_eq_true (by first | (with_reducible assumption) | assumption)
                                        have q247 : (rd t243 x11_3) < (x1_3.length : Int) := of_decide_eq_true (by first | (with_reducible assumption) | assumption)
                                        obtain ⟨ad247, e247, hx247_0⟩ := Kd.at_int (Kd.R_reads' HO_1.out).2.2 (rd t243 x11_3) p247 q247
                                        obtain rfl : ad234 = ad247 := (by injection e247)
                                        replace p247 := eq_true p247
                                        replace q247 := eq_true q247
                                        have p248 : 0 ≤ ((rd t243 x11_3) : Int) := of_decide_eq_true (by first | (with_reducible assumption) | assumption)
                                        have q248 : (rd t243 x11_3) < (x1_3.length : Int) := of_decide_eq_true (by first | (with_reducible assumption) | assumption)
                                        obtain ⟨ad248, e248, hx248_0⟩ := Kd.at_int (Kd.R_reads' HO_1.out).2.2 (rd t243 x11_3) p248 q248
                                        obtain rfl : ad234 = ad248 := (by injection e248)
                                        replace p248 := eq_true p248
                                        replace q248 := eq_true q248
                                        have p33 : 0 ≤ ((rd t243 x11_3) : Int) := of_decide_eq_true (by first | (with_reducible assumption) | assumption)
                                        have q33 : ((rd t243 x11_3) : Int) < ((x1_3.length : Int) : Int) := of_decide_eq_true (by first | (with_reducible assumption) | assumption)
                                        obtain ⟨go33, co33, eo33, gb33, gl33, cl33, HG33⟩ := Kd.R_form HO_1.out (by omega)
                                        (first | cases eo33 | (injection eo33 with ea_ en_ ec_; (first | subst ea_ | (injection ea_ with ea_; subst ea_)); subst ec_; clear en_))
                                        have GB33 := Aside0.mk gb33
                                        have GG33 := Aside0.mk HG33
                                        clear gb33 gl33 HG33
                                        have HMgo33 := Aside0.mk (show (P1_ go33 ∨ w.heap.size ≤ go33) from (HO_1.out.1 _ rfl).1)
                                        (first | simp only [add_plain] at hx234_0 | skip)
                                        (first | simp only [add_plain] at hx235_0 | skip)
                                        (first | simp only [add_plain] at hx240_0 | skip)
                                        (first | simp only [add_plain] at hx247_0 | skip)
                                        (first | simp only [add_plain] at hx248_0 | skip)
                                        obtain ⟨hx33_0, hf33_0⟩ := Kd.R_celln 0 HO_1.out ((rd t243 x11_3) : Int) p33 q33
                                        replace p33 := eq_true p33
                                        replace q33 := eq_true q33
                                        have HP35 := Kd.R_putg HO_1.out ((rd t243 x11_3) : Int) (wrap64 ((wrap64 ((rd x1_1 x8_1) - t237)) + t239))
                                        go_wp2_with (first | ((with_reducible refine gate_store (t := 3) (p := 99) rfl ?_); refine store_event (t := 3) (p := 99) (v := ?vo_w36) (w1 := (wr.setCell ⟨go33, ((rd t243 x11_3) : Int).toNat, none⟩ (.int .i64 (wrap64 ((wrap64 ((rd x1_1 x8_1) - t237)) + t239))))) ?hg ?ho ?hn ?hr ?_; (case ho => rfl); (case hg => rfl); (case hn => rfl); (case hr => first | (go_simp; done) | (go_simp; rfl)); intro w36 hw; have hg : wr.grownBy w36 (some go33) := (by rw [hw]; exact HP35.2); have hp_ : Kd.R (Kd.int .i64) 3 w36 w0.heap.size (fun k_ => (P1_ k_ ∨ w.heap.size ≤ k_) ∧ some k_ ≠ (.slice (some ad246) t243.length co34 : Value).ownBlock) (.slice (some ⟨go33, 0, none⟩) x1_3.length co11) y249 := (by rw [hw, Ny249.out]; exact HP35.1); clear HP35; have n0_ := Aside0.mk (hp_); have n1_ := Aside0.mk (Kd.R_after (v := (.slice (some ⟨go33, 0, none⟩) x1_3.length co11)) (v1 := (.slice (some ⟨go33, 0, none⟩) x1_3.length co11)) (ok := (fun k_ => (P1_ k_ ∨ w.heap.size ≤ k_))) (by (with_reducible repeat (first | apply Kd.R_alloc | apply Kd.R_drewN | apply Kd.R_drew)); exact HO_10.out) hg (.inl rfl)); have n2_ := Aside0.mk ((by rw [hw]; exact below_set (HB.out) GB33.out : Below w0.heap.size w0 w36)); have n3_ := Aside0.mk (Kept.of_grown (S := (fun k_ => P1_ k_)) hg (by repeat (first | (with_reducible first | exact HK.out | apply Kept.alloc | apply Kept.drewN | apply Kept.drew) | exact HK.out)) (fun k_ e_ => (HO_1.out.1 k_ e_).1)); clear HO_1; clear HO_10; clear HB; clear HK; have HO_1 := n0_; have HO_10 := n1_; have HB := n2_; have HK := n3_; clear n0_ n1_ n2_ n3_; clear hg hw hp_))
                                        (try simp only [← hl1_3])
                                        go_roundg k3
                                        case measure => have := HK1.out; have := HJ9.out; have := HK3.out; omega
                                        case rel => exact ⟨(y249), (true), (wrap64 (x11_3 + 1)), (by first | rfl | (simp; done) | (simp [*]; done)), (by first | rfl | (simp; done) | (simp [*]; done)), H', ⟨by have := HK1.out; have := HJ9.out; have := HK3.out; omega⟩, ⟨by (try simp only [hl1_3]); (with_reducible repeat (first | apply Kd.R_alloc | apply Kd.R_drewN | apply Kd.R_drew)); exact HO_1.out⟩, ⟨by (try simp only [hl1_3]); (with_reducible repeat (first | apply Kd.R_alloc | apply Kd.R_drewN | apply Kd.R_drew)); exact HO_10.out⟩, ⟨by repeat (first | (with_reducible first | exact HK.out | apply Kept.alloc | apply Kept.drewN | apply Kept.drew) | exact HK.out)⟩, ⟨by repeat (first | (with_reducible first | exact HB.out | apply below_alloc | apply pw_below_drewN | apply below_drew1) | exact HB.out)⟩⟩
                                      · replace c32 := Bool.eq_false_iff.mpr c32
                                        subst c32
                                        have H1 : (bureauref21_spread.l1 k3 l0 (x1_3.set ((rd t243 x11_3) : Int).toNat (wrap64 ((wrap64 ((rd x1_1 x8_1) - t237)) + t239))) (decide ((rd x1_3 (rd t243 x11_3)) < 0)) x8_1 (wrap64 ((wrap64 ((rd x1_1 x8_1) - t237)) + t239)) t243 (wrap64 (x11_3 + 1))) = some (r1, r2, r3) := by rw [if_neg (show ¬ (false = true) by decide)] at H; exact H
                                        clear H
                                        have H := H1
                                        clear H1
                                        obtain ⟨y251, hy251⟩ : ∃ y_ : List Int, y_ = (x1_3.set ((rd t243 x11_3) : Int).toNat (wrap64 ((wrap64 ((rd x1_1 x8_1) - t237)) + t239))) := ⟨_, rfl⟩
                                        replace H : (bureauref21_spread.l1 k3 l0 y251 (decide ((rd x1_3 (rd t243 x11_3)) < 0)) x8_1 (wrap64 ((wrap64 ((rd x1_1 x8_1) - t237)) + t239)) t243 (wrap64 (x11_3 + 1))) = some (r1, r2, r3) := by first | (rw [hy251]; with_reducible exact H) | (have H2_ := (Option.bind_some _ _).symm.trans H; rw [hy251]; with_reducible exact H2_) | (have H2_ := (Option.bind_some _ _).symm.trans H; with_reducible exact H2_) | with_reducible exact H | (rw [hy251]; exact H) | exact H
                                        have Ny251 := Aside0.mk hy251
                                        clear hy251
                                        have H' := Aside0.mk H
                                        clear H
                                        obtain ⟨Ao38, co38, eo38⟩ := Kd.R_slice HO_10.out
                                        subst eo38
                                        have p246 : 0 ≤ (x11_3 : Int) := of_decide_eq_true (by first | (with_reducible assumption) | assumption)
                                        have q246 : x11_3 < (t243.length : Int) := of_decide_eq_true (by first | (with_reducible assumption) | assumption)
                                        obtain ⟨ad246, e246, hx246_0⟩ := Kd.at_int (Kd.R_reads' HO_10.out).2.2 x11_3 p246 q246
                                        cases e246
                                        replace p246 := eq_true p246
                                        replace q246 := eq_true q246
                                        have p247 : 0 ≤ ((rd t243 x11_3) : Int) := of_decide_eq_true (by first | (with_reducible assumption) | assumption)
                                        have q247 : (rd t243 x11_3) < (x1_3.length : Int) := of_decide_eq_true (by first | (with_reducible assumption) | assumption)
                                        obtain ⟨ad247, e247, hx247_0⟩ := Kd.at_int (Kd.R_reads' HO_1.out).2.2 (rd t243 x11_3) p247 q247
                                        obtain rfl : ad234 = ad247 := (by injection e247)
                                        replace p247 := eq_true p247
                                        replace q247 := eq_true q247
                                        have p248 : 0 ≤ ((rd t243 x11_3) : Int) := of_decide_eq_true (by first | (with_reducible assumption) | assumption)
                                        have q248 : (rd t243 x11_3) < (x1_3.length : Int) := of_decide_eq_true (by first | (with_reducible assumption) | assumption)
                                        obtain ⟨ad248, e248, hx248_0⟩ := Kd.at_int (Kd.R_reads' HO_1.out).2.2 (rd t243 x11_3) p248 q248
                                        obtain rfl : ad234 = ad248 := (by injection e248)
                                        replace p248 := eq_true p248
                                        replace q248 := eq_true q248
                                        have p250 : 0 ≤ ((rd t243 x11_3) : Int) := of_decide_eq_true (by first | (with_reducible assumption) | assumption)
                                        have q250 : (rd t243 x11_3) < (x1_3.length : Int) := of_decide_eq_true (by first | (with_reducible assumption) | assumption)
                                        obtain ⟨ad250, e250, hx250_0⟩ := Kd.at_int (Kd.R_reads' HO_1.out).2.2 (rd t243 x11_3) p250 q250
                                        obtain rfl : ad234 = ad250 := (by injection e250)
                                        replace p250 := eq_true p250
                                        replace q250 := eq_true q250
                                        have p37 : 0 ≤ ((rd t243 x11_3) : Int) := of_decide_eq_true (by first | (with_reducible assumption) | assumption)
                                        have q37 : ((rd t243 x11_3) : Int) < ((x1_3.length : Int) : Int) := of_decide_eq_true (by first | (with_reducible assumption) | assumption)
                                        obtain ⟨go37, co37, eo37, gb37, gl37, cl37, HG37⟩ := Kd.R_form HO_1.out (by omega)
                                        (first | cases eo37 | (injection eo37 with ea_ en_ ec_; (first | subst ea_ | (injection ea_ with ea_; subst ea_)); subst ec_; clear en_))
                                        have GB37 := Aside0.mk gb37
                                        have GG37 := Aside0.mk HG37
                                        clear gb37 gl37 HG37
                                        have HMgo37 := Aside0.mk (show (P1_ go37 ∨ w.heap.size ≤ go37) from (HO_1.out.1 _ rfl).1)
                                        (first | simp only [add_plain] at hx247_0 | skip)
                                        (first | simp only [add_plain] at hx248_0 | skip)
                                        (first | simp only [add_plain] at hx250_0 | skip)
                                        obtain ⟨hx37_0, hf37_0⟩ := Kd.R_celln 0 HO_1.out ((rd t243 x11_3) : Int) p37 q37
                                        replace p37 := eq_true p37
                                        replace q37 := eq_true q37
                                        have HP39 := Kd.R_putg HO_1.out ((rd t243 x11_3) : Int) (wrap64 ((wrap64 ((rd x1_1 x8_1) - t237)) + t239))
                                        go_wp2_with (first | ((with_reducible refine gate_store (t := 3) (p := 99) rfl ?_); refine store_event (t := 3) (p := 99) (v := ?vo_w40) (w1 := (wr.setCell ⟨go37, ((rd t243 x11_3) : Int).toNat, none⟩ (.int .i64 (wrap64 ((wrap64 ((rd x1_1 x8_1) - t237)) + t239))))) ?hg ?ho ?hn ?hr ?_; (case ho => rfl); (case hg => rfl); (case hn => rfl); (case hr => first | (go_simp; done) | (go_simp; rfl)); intro w40 hw; have hg : wr.grownBy w40 (some go37) := (by rw [hw]; exact HP39.2); have hp_ : Kd.R (Kd.int .i64) 3 w40 w0.heap.size (fun k_ => (P1_ k_ ∨ w.heap.size ≤ k_) ∧ some k_ ≠ (.slice (some ad246) t243.length co38 : Value).ownBlock) (.slice (some ⟨go37, 0, none⟩) x1_3.length co11) y251 := (by rw [hw, Ny251.out]; exact HP39.1); clear HP39; have n0_ := Aside0.mk (hp_); have n1_ := Aside0.mk (Kd.R_after (v := (.slice (some ⟨go37, 0, none⟩) x1_3.length co11)) (v1 := (.slice (some ⟨go37, 0, none⟩) x1_3.length co11)) (ok := (fun k_ => (P1_ k_ ∨ w.heap.size ≤ k_))) (by (with_reducible repeat (first | apply Kd.R_alloc | apply Kd.R_drewN | apply Kd.R_drew)); exact HO_10.out) hg (.inl rfl)); have n2_ := Aside0.mk ((by rw [hw]; exact below_set (HB.out) GB37.out : Below w0.heap.size w0 w40)); have n3_ := Aside0.mk (Kept.of_grown (S := (fun k_ => P1_ k_)) hg (by repeat (first | (with_reducible first | exact HK.out | apply Kept.alloc | apply Kept.drewN | apply Kept.drew) | exact HK.out)) (fun k_ e_ => (HO_1.out.1 k_ e_).1)); clear HO_1; clear HO_10; clear HB; clear HK; have HO_1 := n0_; have HO_10 := n1_; have HB := n2_; have HK := n3_; clear n0_ n1_ n2_ n3_; clear hg hw hp_))
                                        (try simp only [← hl1_3])
                                        go_roundg k3
                                        case measure => have := HK1.out; have := HJ9.out; have := HK3.out; omega
                                        case rel => exact ⟨(y251), (decide ((rd x1_3 (rd t243 x11_3)) < 0)), (wrap64 (x11_3 + 1)), (by first | rfl | (simp; done) | (simp [*]; done)), (by first | rfl | (simp; done) | (simp [*]; done)), H', ⟨by have := HK1.out; have := HJ9.out; have := HK3.out; omega⟩, ⟨by (try simp only [hl1_3]); (with_reducible repeat (first | apply Kd.R_alloc | apply Kd.R_drewN | apply Kd.R_drew)); exact HO_1.out⟩, ⟨by (try simp only [hl1_3]); (with_reducible repeat (first | apply Kd.R_alloc | apply Kd.R_drewN | apply Kd.R_drew)); exact HO_10.out⟩, ⟨by repeat (first | (with_reducible first | exact HK.out | apply Kept.alloc | apply Kept.drewN | apply Kept.drew) | exact HK.out)⟩, ⟨by repeat (first | (with_reducible first | exact HB.out | apply below_alloc | apply pw_below_drewN | apply below_drew1) | exact HB.out)⟩⟩
                                    · rw [if_neg c31] at H
                                      have c31b0 : ((rd x1_3 (rd t243 x11_3)) == (wrap64 ((wrap64 ((rd x1_1 x8_1) - t237)) + t239))) = false := beq_eq_false_iff_ne.mpr c31
                                      have c31b1 : ((rd x1_3 (rd t243 x11_3)) != (wrap64 ((wrap64 ((rd x1_1 x8_1) - t237)) + t239))) = true := bne_iff_ne.mpr c31
                                      simp only [Option.some.injEq, Prod.mk.injEq] at H
                                      obtain ⟨rfl, rfl, rfl⟩ := H
                                      obtain ⟨Ao41, co41, eo41⟩ := Kd.R_slice HO_10.out
                                      subst eo41
                                      have p246 : 0 ≤ (x11_3 : Int) := of_decide_eq_true (by first | (with_reducible assumption) | assumption)
                                      have q246 : x11_3 < (t243.length : Int) := of_decide_eq_true (by first | (with_reducible assumption) | assumption)
                                      obtain ⟨ad246, e246, hx246_0⟩ := Kd.at_int (Kd.R_reads' HO_10.out).2.2 x11_3 p246 q246
                                      cases e246
                                      replace p246 := eq_true p246
                                      replace q246 := eq_true q246
                                      have p247 : 0 ≤ ((rd t243 x11_3) : Int) := of_decide_eq_true (by first | (with_reducible assumption) | assumption)
                                      have q247 : (rd t243 x11_3) < (x1_3.length : Int) := of_decide_eq_true (by first | (with_reducible assumption) | assumption)
                                      obtain ⟨ad247, e247, hx247_0⟩ := Kd.at_int (Kd.R_reads' HO_1.out).2.2 (rd t243 x11_3) p247 q247
                                      obtain rfl : ad234 = ad247 := (by injection e247)
                                      replace p247 := eq_true p247
                                      replace q247 := eq_true q247
                                      have p248 : 0 ≤ ((rd t243 x11_3) : Int) := of_decide_eq_true (by first | (with_reducible assumption) | assumption)
                                      have q248 : (rd t243 x11_3) < (x1_3.length : Int) := of_decide_eq_true (by first | (with_reducible assumption) | assumption)
                                      obtain ⟨ad248, e248, hx248_0⟩ := Kd.at_int (Kd.R_reads' HO_1.out).2.2 (rd t243 x11_3) p248 q248
                                      obtain rfl : ad234 = ad248 := (by injection e248)
                                      replace p248 := eq_true p248
                                      replace q248 := eq_true q248
                                      go_wp2
                                      go_ret3
                                      exact ⟨_, by first | rfl | (simp [errW_none, errW_some] <;> rfl) | (simp [*, errW_none, errW_some] <;> rfl), by (with_reducible repeat (first | apply Kd.R_alloc | apply Kd.R_drewN | apply Kd.R_drew)); exact Kd.R_mono HO_1.out (fun _ hk => hk.1), by repeat (first | (with_reducible first | exact HB.out | apply below_alloc | apply pw_below_drewN | apply below_drew1) | exact HB.out), by repeat (first | (with_reducible first | exact HK.out | apply Kept.alloc | apply Kept.drewN | apply Kept.drew) | exact HK.out)⟩
                                  · rw [if_neg c30] at H
                                    have c30b0 : decide (0 ≤ (rd x1_3 (rd t243 x11_3))) = false := decide_eq_false c30
                                    clear c30
                                    by_cases c42 : x7_3 = true
                                    · subst c42
                                      have H1 : (bureauref21_spread.l1 k3 l0 (x1_3.set ((rd t243 x11_3) : Int).toNat (wrap64 ((wrap64 ((rd x1_1 x8_1) - t237)) + t239))) true x8_1 (wrap64 ((wrap64 ((rd x1_1 x8_1) - t237)) + t239)) t243 (wrap64 (x11_3 + 1))) = some (r1, r2, r3) := by rw [if_pos rfl] at H; exact H
                                      clear H
                                      have H := H1
                                      clear H1
                                      obtain ⟨y252, hy252⟩ : ∃ y_ : List Int, y_ = (x1_3.set ((rd t243 x11_3) : Int).toNat (wrap64 ((wrap64 ((rd x1_1 x8_1) - t237)) + t239))) := ⟨_, rfl⟩
                                      replace H : (bureauref21_spread.l1 k3 l0 y252 true x8_1 (wrap64 ((wrap64 ((rd x1_1 x8_1) - t237)) + t239)) t243 (wrap64 (x11_3 + 1))) = some (r1, r2, r3) := by first | (rw [hy252]; with_reducible exact H) | (have H2_ := (Option.bind_some _ _).symm.trans H; rw [hy252]; with_reducible exact H2_) | (have H2_ := (Option.bind_some _ _).symm.trans H; with_reducible exact H2_) | with_reducible exact H | (rw [hy252]; exact H) | exact H
                                      have Ny252 := Aside0.mk hy252
                                      clear hy252
                                      have H' := Aside0.mk H
                                      clear H
                                      obtain ⟨Ao44, co44, eo44⟩ := Kd.R_slice HO_10.out
                                      subst eo44
                                      have p246 : 0 ≤ (x11_3 : Int) := of_decide_eq_true (by first | (with_reducible assumption) | assumption)
                                      have q246 : x11_3 < (t243.length : Int) := of_decide_eq_true (by first | (with_reducible assumption) | assumption)
                                      obtain ⟨ad246, e246, hx246_0⟩ := Kd.at_int (Kd.R_reads' HO_10.out).2.2 x11_3 p246 q246
                                      cases e246
                                      replace p246 := eq_true p246
                                      replace q246 := eq_true q246
                                      have p247 : 0 ≤ ((rd t243 x11_3) : Int) := of_decide_eq_true (by first | (with_reducible assumption) | assumption)
                                      have q247 : (rd t243 x11_3) < (x1_3.length : Int) := of_decide_eq_true (by first | (with_reducible assumption) | assumption)
                                      obtain ⟨ad247, e247, hx247_0⟩ := Kd.at_int (Kd.R_reads' HO_1.out).2.2 (rd t243 x11_3) p247 q247
                                      obtain rfl : ad234 = ad247 := (by injection e247)
                                      replace p247 := eq_true p247
                                      replace q247 := eq_true q247
                                      have p43 : 0 ≤ ((rd t243 x11_3) : Int) := of_decide_eq_true (by first | (with_reducible assumption) | assumption)
                                      have q43 : ((rd t243 x11_3) : Int) < ((x1_3.length : Int) : Int) := of_decide_eq_true (by first | (with_reducible assumption) | assumption)
                                      obtain ⟨go43, co43, eo43, gb43, gl43, cl43, HG43⟩ := Kd.R_form HO_1.out (by omega)
                                      (first | cases eo43 | (injection eo43 with ea_ en_ ec_; (first | subst ea_ | (injection ea_ with ea_; subst ea_)); subst ec_; clear en_))
                                      have GB43 := Aside0.mk gb43
                                      have GG43 := Aside0.mk HG43
                                      clear gb43 gl43 HG43
                                      have HMgo43 := Aside0.mk (show (P1_ go43 ∨ w.heap.size ≤ go43) from (HO_1.out.1 _ rfl).1)
                                      (first | simp only [add_plain] at hx247_0 | skip)
                                      (first | simp only [add_plain] at hx248_0 | skip)
                                      obtain ⟨hx43_0, hf43_0⟩ := Kd.R_celln 0 HO_1.out ((rd t243 x11_3) : Int) p43 q43
                                      replace p43 := eq_true p43
                                      replace q43 := eq_true q43
                                      have HP45 := Kd.R_putg HO_1.out ((rd t243 x11_3) : Int) (wrap64 ((wrap64 ((rd x1_1 x8_1) - t237)) + t239))
                                      go_wp2_with (first | ((with_reducible refine gate_store (t := 3) (p := 99) rfl ?_); refine store_event (t := 3) (p := 99) (v := ?vo_w46) (w1 := (wr.setCell ⟨go43, ((rd t243 x11_3) : Int).toNat, none⟩ (.int .i64 (wrap64 ((wrap64 ((rd x1_1 x8_1) - t237)) + t239))))) ?hg ?ho ?hn ?hr ?_; (case ho => rfl); (case hg => rfl); (case hn => rfl); (case hr => first | (go_simp; done) | (go_simp; rfl)); intro w46 hw; have hg : wr.grownBy w46 (some go43) := (by rw [hw]; exact HP45.2); have hp_ : Kd.R (Kd.int .i64) 3 w46 w0.heap.size (fun k_ => (P1_ k_ ∨ w.heap.size ≤ k_) ∧ some k_ ≠ (.slice (some ad246) t243.length co44 : Value).ownBlock) (.slice (some ⟨go43, 0, none⟩) x1_3.length co11) y252 := (by rw [hw, Ny252.out]; exact HP45.1); clear HP45; have n0_ := Aside0.mk (hp_); have n1_ := Aside0.mk (Kd.R_after (v := (.slice (some ⟨go43, 0, none⟩) x1_3.length co11)) (v1 := (.slice (some ⟨go43, 0, none⟩) x1_3.length co11)) (ok := (fun k_ => (P1_ k_ ∨ w.heap.size ≤ k_))) (by (with_reducible repeat (first | apply Kd.R_alloc | apply Kd.R_drewN | apply Kd.R_drew)); exact HO_10.out) hg (.inl rfl)); have n2_ := Aside0.mk ((by rw [hw]; exact below_set (HB.out) GB43.out : Below w0.heap.size w0 w46)); have n3_ := Aside0.mk (Kept.of_grown (S := (fun k_ => P1_ k_)) hg (by repeat (first | (with_reducible first | exact HK.out | apply Kept.alloc | apply Kept.drewN | apply Kept.drew) | exact HK.out)) (fun k_ e_ => (HO_1.out.1 k_ e_).1)); clear HO_1; clear HO_10; clear HB; clear HK; have HO_1 := n0_; have HO_10 := n1_; have HB := n2_; have HK := n3_; clear n0_ n1_ n2_ n3_; clear hg hw hp_))
                                      (try simp only [← hl1_3])
                                      go_roundg k3
                                      case measure => have := HK1.out; have := HJ9.out; have := HK3.out; omega
                                      case rel => exact ⟨(y252), (true), (wrap64 (x11_3 + 1)), (by first | rfl | (simp; done) | (simp [*]; done)), (by first | rfl | (simp; done) | (simp [*]; done)), H', ⟨by have := HK1.out; have := HJ9.out; have := HK3.out; omega⟩, ⟨by (try simp only [hl1_3]); (with_reducible repeat (first | apply Kd.R_alloc | apply Kd.R_drewN | apply Kd.R_drew)); exact HO_1.out⟩, ⟨by (try simp only [hl1_3]); (with_reducible repeat (first | apply Kd.R_alloc | apply Kd.R_drewN | apply Kd.R_drew)); exact HO_10.out⟩, ⟨by repeat (first | (with_reducible first | exact HK.out | apply Kept.alloc | apply Kept.drewN | apply Kept.drew) | exact HK.out)⟩, ⟨by repeat (first | (with_reducible first | exact HB.out | apply below_alloc | apply pw_below_drewN | apply below_drew1) | exact HB.out)⟩⟩
                                    · replace c42 := Bool.eq_false_iff.mpr c42
                                      subst c42
                                      have H1 : (bureauref21_spread.l1 k3 l0 (x1_3.set ((rd t243 x11_3) : Int).toNat (wrap64 ((wrap64 ((rd x1_1 x8_1) - t237)) + t239))) (decide ((rd x1_3 (rd t243 x11_3)) < 0)) x8_1 (wrap64 ((wrap64 ((rd x1_1 x8_1) - t237)) + t239)) t243 (wrap64 (x11_3 + 1))) = some (r1, r2, r3) := by rw [if_neg (show ¬ (false = true) by decide)] at H; exact H
                                      clear H
                                      have H := H1
                                      clear H1
                                      obtain ⟨y254, hy254⟩ : ∃ y_ : List Int, y_ = (x1_3.set ((rd t243 x11_3) : Int).toNat (wrap64 ((wrap64 ((rd x1_1 x8_1) - t237)) + t239))) := ⟨_, rfl⟩
                                      replace H : (bureauref21_spread.l1 k3 l0 y254 (decide ((rd x1_3 (rd t243 x11_3)) < 0)) x8_1 (wrap64 ((wrap64 ((rd x1_1 x8_1) - t237)) + t239)) t243 (wrap64 (x11_3 + 1))) = some (r1, r2, r3) := by first | (rw [hy254]; with_reducible exact H) | (have H2_ := (Option.bind_some _ _).symm.trans H; rw [hy254]; with_reducible exact H2_) | (have H2_ := (Option.bind_some _ _).symm.trans H; with_reducible exact H2_) | with_reducible exact H | (rw [hy254]; exact H) | exact H
                                      have Ny254 := Aside0.mk hy254
                                      clear hy254
                                      have H' := Aside0.mk H
                                      clear H
                                      obtain ⟨Ao48, co48, eo48⟩ := Kd.R_slice HO_10.out
                                      subst eo48
                                      have p246 : 0 ≤ (x11_3 : Int) := of_decide_eq_true (by first | (with_reducible assumption) | assumption)
                                      have q246 : x11_3 < (t243.length : Int) := of_decide_eq_true (by first | (with_reducible assumption) | assumption)
                                      obtain ⟨ad246, e246, hx246_0⟩ := Kd.at_int (Kd.R_reads' HO_10.out).2.2 x11_3 p246 q246
                                      cases e246
                                      replace p246 := eq_true p246
                                      replace q246 := eq_true q246
                                      have p247 : 0 ≤ ((rd t243 x11_3) : Int) := of_decide_eq_true (by first | (with_reducible assumption) | assumption)
                                      have q247 : (rd t243 x11_3) < (x1_3.length : Int) := of_decide_eq_true (by first | (with_reducible assumption) | assumption)
                                      obtain ⟨ad247, e247, hx247_0⟩ := Kd.at_int (Kd.R_reads' HO_1.out).2.2 (rd t243 x11_3) p247 q247
                                      obtain rfl : ad234 = ad247 := (by injection e247)
                                      replace p247 := eq_true p247
                                      replace q247 := eq_true q247
                                      have p253 : 0 ≤ ((rd t243 x11_3) : Int) := of_decide_eq_true (by first | (with_reducible assumption) | assumption)
                                      have q253 : (rd t243 x11_3) < (x1_3.length : Int) := of_decide_eq_true (by first | (with_reducible assumption) | assumption)
                                      obtain ⟨ad253, e253, hx253_0⟩ := Kd.at_int (Kd.R_reads' HO_1.out).2.2 (rd t243 x11_3) p253 q253
                                      obtain rfl : ad234 = ad253 := (by injection e253)
                                      replace p253 := eq_true p253
                                      replace q253 := eq_true q253
                                      have p47 : 0 ≤ ((rd t243 x11_3) : Int) := of_decide_eq_true (by first | (with_reducible assumption) | assumption)
                                      have q47 : ((rd t243 x11_3) : Int) < ((x1_3.length : Int) : Int) := of_decide_eq_true (by first | (with_reducible assumption) | assumption)
                                      obtain ⟨go47, co47, eo47, gb47, gl47, cl47, HG47⟩ := Kd.R_form HO_1.out (by omega)
                                      (first | cases eo47 | (injection eo47 with ea_ en_ ec_; (first | subst ea_ | (injection ea_ with ea_; subst ea_)); subst ec_; clear en_))
                                      have GB47 := Aside0.mk gb47
                                      have GG47 := Aside0.mk HG47
                                      clear gb47 gl47 HG47
                                      have HMgo47 := Aside0.mk (show (P1_ go47 ∨ w.heap.size ≤ go47) from (HO_1.out.1 _ rfl).1)
                                      (first | simp only [add_plain] at hx247_0 | skip)
                                      (first | simp only [add_plain] at hx253_0 | skip)
                                      obtain ⟨hx47_0, hf47_0⟩ := Kd.R_celln 0 HO_1.out ((rd t243 x11_3) : Int) p47 q47
                                      replace p47 := eq_true p47
                                      replace q47 := eq_true q47
                                      have HP49 := Kd.R_putg HO_1.out ((rd t243 x11_3) : Int) (wrap64 ((wrap64 ((rd x1_1 x8_1) - t237)) + t239))
                                      go_wp2_with (first | ((with_reducible refine gate_store (t := 3) (p := 99) rfl ?_); refine store_event (t := 3) (p := 99) (v := ?vo_w50) (w1 := (wr.setCell ⟨go47, ((rd t243 x11_3) : Int).toNat, none⟩ (.int .i64 (wrap64 ((wrap64 ((rd x1_1 x8_1) - t237)) + t239))))) ?hg ?ho ?hn ?hr ?_; (case ho => rfl); (case hg => rfl); (case hn => rfl); (case hr => first | (go_simp; done) | (go_simp; rfl)); intro w50 hw; have hg : wr.grownBy w50 (some go47) := (by rw [hw]; exact HP49.2); have hp_ : Kd.R (Kd.int .i64) 3 w50 w0.heap.size (fun k_ => (P1_ k_ ∨ w.heap.size ≤ k_) ∧ some k_ ≠ (.slice (some ad246) t243.length co48 : Value).ownBlock) (.slice (some ⟨go47, 0, none⟩) x1_3.length co11) y254 := (by rw [hw, Ny254.out]; exact HP49.1); clear HP49; have n0_ := Aside0.mk (hp_); have n1_ := Aside0.mk (Kd.R_after (v := (.slice (some ⟨go47, 0, none⟩) x1_3.length co11)) (v1 := (.slice (some ⟨go47, 0, none⟩) x1_3.length co11)) (ok := (fun k_ => (P1_ k_ ∨ w.heap.size ≤ k_))) (by (with_reducible repeat (first | apply Kd.R_alloc | apply Kd.R_drewN | apply Kd.R_drew)); exact HO_10.out) hg (.inl rfl)); have n2_ := Aside0.mk ((by rw [hw]; exact below_set (HB.out) GB47.out : Below w0.heap.size w0 w50)); have n3_ := Aside0.mk (Kept.of_grown (S := (fun k_ => P1_ k_)) hg (by repeat (first | (with_reducible first | exact HK.out | apply Kept.alloc | apply Kept.drewN | apply Kept.drew) | exact HK.out)) (fun k_ e_ => (HO_1.out.1 k_ e_).1)); clear HO_1; clear HO_10; clear HB; clear HK; have HO_1 := n0_; have HO_10 := n1_; have HB := n2_; have HK := n3_; clear n0_ n1_ n2_ n3_; clear hg hw hp_))
                                      (try simp only [← hl1_3])
                                      go_roundg k3
                                      case measure => have := HK1.out; have := HJ9.out; have := HK3.out; omega
                                      case rel => exact ⟨(y254), (decide ((rd x1_3 (rd t243 x11_3)) < 0)), (wrap64 (x11_3 + 1)), (by first | rfl | (simp; done) | (simp [*]; done)), (by first | rfl | (simp; done) | (simp [*]; done)), H', ⟨by have := HK1.out; have := HJ9.out; have := HK3.out; omega⟩, ⟨by (try simp only [hl1_3]); (with_reducible repeat (first | apply Kd.R_alloc | apply Kd.R_drewN | apply Kd.R_drew)); exact HO_1.out⟩, ⟨by (try simp only [hl1_3]); (with_reducible repeat (first | apply Kd.R_alloc | apply Kd.R_drewN | apply Kd.R_drew)); exact HO_10.out⟩, ⟨by repeat (first | (with_reducible first | exact HK.out | apply Kept.alloc | apply Kept.drewN | apply Kept.drew) | exact HK.out)⟩, ⟨by repeat (first | (with_reducible first | exact HB.out | apply below_alloc | apply pw_below_drewN | apply below_drew1) | exact HB.out)⟩⟩
                                · rw [if_neg c29] at H
                                  exact absurd H (by simp)
                              · rw [if_neg c28] at H
                                exact absurd H (by simp)
                          · rw [if_neg c25] at H
                            exact absurd H (by simp)
                        · rw [if_neg c24] at H
                          have c24b0 : decide (x11_3 < (t243.length : Int)) = false := decide_eq_false c24
                          clear c24
                          have H' := Aside0.mk H
                          clear H
                          obtain ⟨Ao51, co51, eo51⟩ := Kd.R_slice HO_10.out
                          subst eo51
                          go_wp2
                          (try simp only [← hl1_3])
                          go_roundg k3
                          case measure => have := HK1.out; have := HJ9.out; have := HK3.out; omega
                          case rel => exact ⟨(x1_3), (x7_3), (wrap64 (x8_1 + 1)), (by first | rfl | (simp; done) | (simp [*]; done)), (by first | rfl | (simp; done) | (simp [*]; done)), H', ⟨by have := HK1.out; have := HJ9.out; have := HK3.out; omega⟩, ⟨by (try simp only [hl1_3]); (with_reducible repeat (first | apply Kd.R_alloc | apply Kd.R_drewN | apply Kd.R_drew)); exact Kd.R_mono HO_1.out (fun _ hk => hk.1)⟩, ⟨by repeat (first | (with_reducible first | exact HK.out | apply Kept.alloc | apply Kept.drewN | apply Kept.drew) | exact HK.out)⟩, ⟨by repeat (first | (with_reducible first | exact HB.out | apply below_alloc | apply pw_below_drewN | apply below_drew1) | exact HB.out)⟩⟩
          · rw [if_neg c5] at H
            exact absurd H (by simp)
        · rw [if_neg c4] at H
          exact absurd H (by simp)
      · rw [if_neg c3] at H
        have c3b0 : decide (x8_1 < (l0.length : Int)) = false := decide_eq_false c3
        clear c3
        simp only [Option.some.injEq, Prod.mk.injEq] at H
        obtain ⟨rfl, rfl, rfl⟩ := H
        go_wp2
        go_ret3
        exact ⟨_, by first | rfl | (simp [errW_none, errW_some] <;> rfl) | (simp [*, errW_none, errW_some] <;> rfl), by (with_reducible repeat (first | apply Kd.R_alloc | apply Kd.R_drewN | apply Kd.R_drew)); exact HO_1.out, by repeat (first | (with_reducible first | exact HB.out | apply below_alloc | apply pw_below_drewN | apply below_drew1) | exact HB.out), by repeat (first | (with_reducible first | exact HK.out | apply Kept.alloc | apply Kept.drewN | apply Kept.drew) | exact HK.out)⟩

end Go.Proofs.Ytlpiknclbgogbaa.XCodeDepths
