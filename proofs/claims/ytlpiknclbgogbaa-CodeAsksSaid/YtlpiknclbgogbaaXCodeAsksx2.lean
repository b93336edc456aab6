-- Written by this session's program (wip/xprint.py) with the kit's print, for this claim.
import Derived.Test.YtlpiknclbgogbaaXCodeAsksx0
import Derived.Test.YtlpiknclbgogbaaXCodeAsksx1
namespace Go.Proofs.Ytlpiknclbgogbaa.XCodeAsks
open Go.RowKit Go.Proofs.YtlpiknclbgogbaaW.PrintWords Go.Proofs.YtlpiknclbgogbaaW.PrintLast Go.Proofs.YtlpiknclbgogbaaW.PrintMore Go.Proofs.Ytlpiknclbgogbaa.Ext
attribute [local go_sem] max2_int min2_int max_two min_two max_three min_three max_four min_four   -- for this text's walks alone
set_option linter.unusedVariables false
set_option linter.unusedSimpArgs false

/-! ### code_Depths: function 9 -/
mutual
def code_Depths.l0 : Nat → List (S41) → List Int → List (S41) → Int → Int → Option (List Int × Int)
  | 0, _, _, _, _, _ => none
  | k + 1, x0, x4, x22, x23, x24 => if x24 < x23 then (if 0 ≤ x24 then (if x24 < (x22.length : Int) then ((code_may.f ((rd_T41 x22 x24).f0) ((rd_T41 x22 x24).f1)).bind fun bt125 => (if bt125.2.2.2.2.2 = true then (if x24 < (x4.length : Int) then (code_Depths.l0 k x0 (x4.set (x24 : Int).toNat (-1)) x22 x23 (wrap64 (x24 + 1))) else (none)) else (some (([] : List Int), 2)))) else (none)) else (none)) else (if (x0.length : Int) = 0 then (some (([] : List Int), 12)) else (if 0 < (x4.length : Int) then (code_Depths.l1 k x0 (x4.set (0 : Int).toNat 0) (([0] : List Int))) else (none)))
def code_Depths.l1 : Nat → List (S41) → List Int → List Int → Option (List Int × Int)
  | 0, _, _, _ => none
  | k + 1, x0, x4, x9 => if (x9.length : Int) > 0 then (if 0 ≤ (wrap64 ((x9.length : Int) - 1)) then (if (wrap64 ((x9.length : Int) - 1)) < (x9.length : Int) then (if (wrap64 ((x9.length : Int) - 1)) ≤ (x9.length : Int) then ((some (x9.take ((wrap64 ((x9.length : Int) - 1)) : Int).toNat : List Int)).bind fun y138 => (if 0 ≤ (rd x9 (wrap64 ((x9.length : Int) - 1))) then (if (rd x9 (wrap64 ((x9.length : Int) - 1))) < (x0.length : Int) then ((code_may.f ((rd_T41 x0 (rd x9 (wrap64 ((x9.length : Int) - 1)))).f0) ((rd_T41 x0 (rd x9 (wrap64 ((x9.length : Int) - 1)))).f1)).bind fun bt142 => (if (rd x9 (wrap64 ((x9.length : Int) - 1))) < (x4.length : Int) then (if (rd x4 (rd x9 (wrap64 ((x9.length : Int) - 1)))) < bt142.1 then (code_Depths.j2 k x0 x4 y138 (rd x9 (wrap64 ((x9.length : Int) - 1))) (wrap64 ((wrap64 ((rd x4 (rd x9 (wrap64 ((x9.length : Int) - 1)))) - bt142.1)) + bt142.2.1)) true) else (code_Depths.j2 k x0 x4 y138 (rd x9 (wrap64 ((x9.length : Int) - 1))) (wrap64 ((wrap64 ((rd x4 (rd x9 (wrap64 ((x9.length : Int) - 1)))) - bt142.1)) + bt142.2.1)) (decide ((wrap64 ((wrap64 ((rd x4 (rd x9 (wrap64 ((x9.length : Int) - 1)))) - bt142.1)) + bt142.2.1)) > 16)))) else (none))) else (none)) else (none))) else (none)) else (none)) else (none)) else (some (x4, 0))
def code_Depths.j2 : Nat → List (S41) → List Int → List Int → Int → Int → Bool → Option (List Int × Int)
  | 0, _, _, _, _, _, _ => none
  | k + 1, x0, x4, x9, x10, x13, x88 => if x88 = true then (some (([] : List Int), 12)) else (if 0 ≤ x10 then (if x10 < (x0.length : Int) then ((code_behind.f ((rd_T41 x0 x10).f0) ((rd_T41 x0 x10).f1) x10).bind fun t152 => (code_Depths.l2 k x0 x4 x9 x13 t152 (t152.length : Int) 0)) else (none)) else (none))
def code_Depths.l2 : Nat → List (S41) → List Int → List Int → Int → List Int → Int → Int → Option (List Int × Int)
  | 0, _, _, _, _, _, _, _ => none
  | k + 1, x0, x4, x9, x13, x94, x95, x96 => if x96 < x95 then (if 0 ≤ x96 then (if x96 < (x94.length : Int) then (if (rd x94 x96) ≥ (x0.length : Int) then (code_Depths.j4 k x0 x4 x9 x13 (rd x94 x96) x94 x95 x96 true) else (if 0 ≤ (rd x94 x96) then (if (rd x94 x96) < (x4.length : Int) then (if (rd x4 (rd x94 x96)) ≥ 0 then (code_Depths.j4 k x0 x4 x9 x13 (rd x94 x96) x94 x95 x96 ((rd x4 (rd x94 x96)) != x13)) else (code_Depths.j4 k x0 x4 x9 x13 (rd x94 x96) x94 x95 x96 false)) else (none)) else (none))) else (none)) else (none)) else (code_Depths.l1 k x0 x4 x9)
def code_Depths.j4 : Nat → List (S41) → List Int → List Int → Int → Int → List Int → Int → Int → Bool → Option (List Int × Int)
  | 0, _, _, _, _, _, _, _, _, _ => none
  | k + 1, x0, x4, x9, x13, x15, x94, x95, x96, x100 => if x100 = true then (some (([] : List Int), 12)) else (if 0 ≤ x15 then (if x15 < (x4.length : Int) then (if (rd x4 x15) < 0 then (if x9.length < 17592186044416 then (code_Depths.l2 k x0 (x4.set (x15 : Int).toNat x13) (x9 ++ [x15]) x13 x94 x95 (wrap64 (x96 + 1))) else (none)) else (code_Depths.l2 k x0 x4 x9 x13 x94 x95 (wrap64 (x96 + 1)))) else (none)) else (none))
end
def code_Depths.f (k : Nat) (l0 : List (S41)) : Option (List Int × Int) := if (l0.length : Int) > 256 then (some (([] : List Int), 3)) else (if 0 ≤ (l0.length : Int) then (if ((l0.length : Int) : Int).toNat ≤ 35184372088832 then (code_Depths.l0 k l0 (List.replicate ((l0.length : Int) : Int).toNat 0) l0 (l0.length : Int) 0) else (none)) else (none))
theorem code_Depths.mono_l : ∀ k, (∀ y0 y1 y2 y3 y4, LeO (code_Depths.l0 k y0 y1 y2 y3 y4) (code_Depths.l0 (k + 1) y0 y1 y2 y3 y4)) ∧ (∀ y0 y1 y2, LeO (code_Depths.l1 k y0 y1 y2) (code_Depths.l1 (k + 1) y0 y1 y2)) ∧ (∀ y0 y1 y2 y3 y4 y5, LeO (code_Depths.j2 k y0 y1 y2 y3 y4 y5) (code_Depths.j2 (k + 1) y0 y1 y2 y3 y4 y5)) ∧ (∀ y0 y1 y2 y3 y4 y5 y6, LeO (code_Depths.l2 k y0 y1 y2 y3 y4 y5 y6) (code_Depths.l2 (k + 1) y0 y1 y2 y3 y4 y5 y6)) ∧ (∀ y0 y1 y2 y3 y4 y5 y6 y7 y8, LeO (code_Depths.j4 k y0 y1 y2 y3 y4 y5 y6 y7 y8) (code_Depths.j4 (k + 1) y0 y1 y2 y3 y4 y5 y6 y7 y8))
  | 0 => ⟨fun _ _ _ _ _ r h => by simp [code_Depths.l0] at h, fun _ _ _ r h => by simp [code_Depths.l1] at h, fun _ _ _ _ _ _ r h => by simp [code_Depths.j2] at h, fun _ _ _ _ _ _ _ r h => by simp [code_Depths.l2] at h, fun _ _ _ _ _ _ _ _ _ r h => by simp [code_Depths.j4] at h⟩
  | k + 1 => by
    obtain ⟨ih0, ih1, ih2, ih3, ih4⟩ := code_Depths.mono_l k
    refine ⟨?_, ?_, ?_, ?_, ?_⟩
    · intro y0 y1 y2 y3 y4
      unfold code_Depths.l0
      repeat' first
      | (with_reducible exact ih0 _ _ _ _ _)
      | (with_reducible exact ih1 _ _ _)
      | (with_reducible exact ih2 _ _ _ _ _ _)
      | (with_reducible exact ih3 _ _ _ _ _ _ _)
      | (with_reducible exact ih4 _ _ _ _ _ _ _ _ _)
      | (with_reducible exact LeO.refl _)
      | (with_reducible exact LeO.none _)
      | (with_reducible refine LeO.ite ?_ ?_)
      | (with_reducible refine LeO.bind ?_ (fun _ => ?_))
      | exact ih0 _ _ _ _ _
      | exact ih1 _ _ _
      | exact ih2 _ _ _ _ _ _
      | exact ih3 _ _ _ _ _ _ _
      | exact ih4 _ _ _ _ _ _ _ _ _
      | exact LeO.none _
      | refine LeO.ite ?_ ?_
      | refine LeO.bind ?_ (fun _ => ?_)
    · intro y0 y1 y2
      unfold code_Depths.l1
      repeat' first
      | (with_reducible exact ih0 _ _ _ _ _)
      | (with_reducible exact ih1 _ _ _)
      | (with_reducible exact ih2 _ _ _ _ _ _)
      | (with_reducible exact ih3 _ _ _ _ _ _ _)
      | (with_reducible exact ih4 _ _ _ _ _ _ _ _ _)
      | (with_reducible exact LeO.refl _)
      | (with_reducible exact LeO.none _)
      | (with_reducible refine LeO.ite ?_ ?_)
      | (with_reducible refine LeO.bind ?_ (fun _ => ?_))
      | exact ih0 _ _ _ _ _
      | exact ih1 _ _ _
      | exact ih2 _ _ _ _ _ _
      | exact ih3 _ _ _ _ _ _ _
      | exact ih4 _ _ _ _ _ _ _ _ _
      | exact LeO.none _
      | refine LeO.ite ?_ ?_
      | refine LeO.bind ?_ (fun _ => ?_)
    · intro y0 y1 y2 y3 y4 y5
      unfold code_Depths.j2
      repeat' first
      | (with_reducible exact ih0 _ _ _ _ _)
      | (with_reducible exact ih1 _ _ _)
      | (with_reducible exact ih2 _ _ _ _ _ _)
      | (with_reducible exact ih3 _ _ _ _ _ _ _)
      | (with_reducible exact ih4 _ _ _ _ _ _ _ _ _)
      | (with_reducible exact LeO.refl _)
      | (with_reducible exact LeO.none _)
      | (with_reducible refine LeO.ite ?_ ?_)
      | (with_reducible refine LeO.bind ?_ (fun _ => ?_))
      | exact ih0 _ _ _ _ _
      | exact ih1 _ _ _
      | exact ih2 _ _ _ _ _ _
      | exact ih3 _ _ _ _ _ _ _
      | exact ih4 _ _ _ _ _ _ _ _ _
      | exact LeO.none _
      | refine LeO.ite ?_ ?_
      | refine LeO.bind ?_ (fun _ => ?_)
    · intro y0 y1 y2 y3 y4 y5 y6
      unfold code_Depths.l2
      repeat' first
      | (with_reducible exact ih0 _ _ _ _ _)
      | (with_reducible exact ih1 _ _ _)
      | (with_reducible exact ih2 _ _ _ _ _ _)
      | (with_reducible exact ih3 _ _ _ _ _ _ _)
      | (with_reducible exact ih4 _ _ _ _ _ _ _ _ _)
      | (with_reducible exact LeO.refl _)
      | (with_reducible exact LeO.none _)
      | (with_reducible refine LeO.ite ?_ ?_)
      | (with_reducible refine LeO.bind ?_ (fun _ => ?_))
      | exact ih0 _ _ _ _ _
      | exact ih1 _ _ _
      | exact ih2 _ _ _ _ _ _
      | exact ih3 _ _ _ _ _ _ _
      | exact ih4 _ _ _ _ _ _ _ _ _
      | exact LeO.none _
      | refine LeO.ite ?_ ?_
      | refine LeO.bind ?_ (fun _ => ?_)
    · intro y0 y1 y2 y3 y4 y5 y6 y7 y8
      unfold code_Depths.j4
      repeat' first
      | (with_reducible exact ih0 _ _ _ _ _)
      | (with_reducible exact ih1 _ _ _)
      | (with_reducible exact ih2 _ _ _ _ _ _)
      | (with_reducible exact ih3 _ _ _ _ _ _ _)
      | (with_reducible exact ih4 _ _ _ _ _ _ _ _ _)
      | (with_reducible exact LeO.refl _)
      | (with_reducible exact LeO.none _)
      | (with_reducible refine LeO.ite ?_ ?_)
      | (with_reducible refine LeO.bind ?_ (fun _ => ?_))
      | exact ih0 _ _ _ _ _
      | exact ih1 _ _ _
      | exact ih2 _ _ _ _ _ _
      | exact ih3 _ _ _ _ _ _ _
      | exact ih4 _ _ _ _ _ _ _ _ _
      | exact LeO.none _
      | refine LeO.ite ?_ ?_
      | refine LeO.bind ?_ (fun _ => ?_)
theorem code_Depths.mono : ∀ a0 k, LeO (code_Depths.f k a0) (code_Depths.f (k + 1) a0) := by
  intro a0 k
  obtain ⟨ih0, ih1, ih2, ih3, ih4⟩ := code_Depths.mono_l k
  unfold code_Depths.f
  repeat' first
      | (with_reducible exact ih0 _ _ _ _ _)
      | (with_reducible exact ih1 _ _ _)
      | (with_reducible exact ih2 _ _ _ _ _ _)
      | (with_reducible exact ih3 _ _ _ _ _ _ _)
      | (with_reducible exact ih4 _ _ _ _ _ _ _ _ _)
      | (with_reducible exact LeO.refl _)
      | (with_reducible exact LeO.none _)
      | (with_reducible refine LeO.ite ?_ ?_)
      | (with_reducible refine LeO.bind ?_ (fun _ => ?_))
      | exact ih0 _ _ _ _ _
      | exact ih1 _ _ _
      | exact ih2 _ _ _ _ _ _
      | exact ih3 _ _ _ _ _ _ _
      | exact ih4 _ _ _ _ _ _ _ _ _
      | exact LeO.none _
      | refine LeO.ite ?_ ?_
      | refine LeO.bind ?_ (fun _ => ?_)
set_option maxHeartbeats 8000000 in
set_option maxRecDepth 100000 in
theorem code_Depths.calls (k : Nat) (A0 : Option Addr) (c0 : Nat) (l0 : List (S41)) (r1 : List Int) (r2 : Int) (w : World) (hr0 : Kd.C k41 w A0 l0.length l0) (hc0 : l0.length ≤ c0) (h : code_Depths.f k l0 = some (r1, r2)) :
    Calls Try.prog 9 #[.slice A0 l0.length c0] w fun e w' => ∃ v0_ : Value, e = .returned (.tuple #[v0_, .int .i64 r2]) ∧ Kd.R (Kd.int .i64) 3 w' w.heap.size (fun _ => True) v0_ r1 ∧ Below w.heap.size w w' := by
  have hu41 := Try.underlying41
  have hu56 := Try.underlying56
  have HR0 := Aside0.mk hr0
  have HC0 := Aside0.mk hc0
  clear hr0 hc0
  have HB := Aside0.mk (Below.refl w.heap.size w)
  have H : (if (l0.length : Int) > 256 then (some (([] : List Int), 3)) else (if 0 ≤ (l0.length : Int) then (if ((l0.length : Int) : Int).toNat ≤ 35184372088832 then (code_Depths.l0 k l0 (List.replicate ((l0.length : Int) : Int).toNat 0) l0 (l0.length : Int) 0) else (none)) else (none))) = some (r1, r2) := h
  clear h
  by_cases c2 : (l0.length : Int) > 256
  · rw [if_pos c2] at H
    have c2b0 : decide (256 < (l0.length : Int)) = true := decide_eq_true c2
    have c2b1 : decide (256 < l0.length) = true := decide_eq_true (by omega)
    clear c2
    simp only [Option.some.injEq, Prod.mk.injEq] at H
    obtain ⟨rfl, rfl⟩ := H
    go_enter Try.func9, Try.ntmps9
    go_wp2
    repeat (go_quiet (fail); try go_wp2)
    go_ret2
    exact ⟨_, by first | rfl | (simp [errW_none, errW_some] <;> rfl) | (simp [*, errW_none, errW_some] <;> rfl), by first | exact Kd.R_nil _ _ _ _ _ | exact Kd.N_nil _ _ _ _ _ | exact Kd.V_nil _ _ _ _ _ | exact Kd.Q_nil _ _ _ _ _ | exact Kd.S_nil _ _ _ _ _, by repeat (first | (with_reducible first | exact HB.out | apply below_alloc | apply pw_below_drewN | apply below_drew1) | exact HB.out)⟩
  · rw [if_neg c2] at H
    have c2b0 : decide (256 < (l0.length : Int)) = false := decide_eq_false c2
    have c2b1 : decide (256 < l0.length) = false := decide_eq_false (by omega)
    clear c2
    by_cases c3 : 0 ≤ (l0.length : Int)
    · rw [if_pos c3] at H
      have c3b0 := eq_true c3
      have c3b1 : decide (0 ≤ (l0.length : Int)) = true := decide_eq_true c3
      clear c3
      by_cases c4 : ((l0.length : Int) : Int).toNat ≤ 35184372088832
      · rw [if_pos c4] at H
        have c4b0 := eq_true c4
        have c4b1 : decide (((l0.length : Int) : Int).toNat ≤ 35184372088832) = true := decide_eq_true c4
        clear c4
        obtain ⟨y120, hy120⟩ : ∃ y_ : List Int, y_ = (List.replicate ((l0.length : Int) : Int).toNat 0) := ⟨_, rfl⟩
        replace H : (code_Depths.l0 k l0 y120 l0 (l0.length : Int) 0) = some (r1, r2) := by first | (rw [hy120]; with_reducible exact H) | (have H2_ := (Option.bind_some _ _).symm.trans H; rw [hy120]; with_reducible exact H2_) | (have H2_ := (Option.bind_some _ _).symm.trans H; with_reducible exact H2_) | with_reducible exact H | (rw [hy120]; exact H) | exact H
        have Ny120 := Aside0.mk hy120
        clear hy120
        have H' := Aside0.mk H
        clear H
        go_enter Try.func9, Try.ntmps9
        go_wp2_with (first | ((with_reducible refine gate_dst (N := 21) rfl ?_); refine Kd.R_make (Kd.int .i64) _ 3 rfl (N := 21) rfl 24 _ _ rfl (l0.length : Int) rfl rfl Try.underlying24 (.int .i64 0) 8 info3 rfl (by decide) (by omega) 0 (ok := fun _ => True) (okp := fun _ => True) rfl (fun _ hk => hk) trivial (of_decide_eq_true (by first | (with_reducible assumption) | assumption)) (Nat.le_trans (Nat.mul_le_mul_right _ (of_decide_eq_true (by first | (with_reducible assumption) | assumption) : (l0.length : Int).toNat ≤ 35184372088832)) (by omega)) (Below.refl _ _) (Nat.le_refl _) ?_; intro v121 w5 ho6 hb hg_ hnew_; clear hg_ hnew_; (first | rw [← Ny120.out] at ho6 | (simp only [Int.reduceToNat] at ho6; rw [← Ny120.out] at ho6)); have n0_ := Aside0.mk (Kd.R_lower ho6 (below_size (by repeat (first | (with_reducible first | exact HB.out | apply below_alloc | apply pw_below_drewN | apply below_drew1) | exact HB.out)))); have n1_ := Aside0.mk (below_step (by repeat (first | (with_reducible first | exact HB.out | apply below_alloc | apply pw_below_drewN | apply below_drew1) | exact HB.out)) hb); clear HB; have HO122 := n0_; have HB := n1_; clear n0_ n1_; clear hb ho6))
        repeat (go_quiet (first | ((with_reducible refine gate_dst (N := 21) rfl ?_); refine Kd.R_make (Kd.int .i64) _ 3 rfl (N := 21) rfl 24 _ _ rfl (l0.length : Int) rfl rfl Try.underlying24 (.int .i64 0) 8 info3 rfl (by decide) (by omega) 0 (ok := fun _ => True) (okp := fun _ => True) rfl (fun _ hk => hk) trivial (of_decide_eq_true (by first | (with_reducible assumption) | assumption)) (Nat.le_trans (Nat.mul_le_mul_right _ (of_decide_eq_true (by first | (with_reducible assumption) | assumption) : (l0.length : Int).toNat ≤ 35184372088832)) (by omega)) (Below.refl _ _) (Nat.le_refl _) ?_; intro v121 w5 ho6 hb hg_ hnew_; clear hg_ hnew_; (first | rw [← Ny120.out] at ho6 | (simp only [Int.reduceToNat] at ho6; rw [← Ny120.out] at ho6)); have n0_ := Aside0.mk (Kd.R_lower ho6 (below_size (by repeat (first | (with_reducible first | exact HB.out | apply below_alloc | apply pw_below_drewN | apply below_drew1) | exact HB.out)))); have n1_ := Aside0.mk (below_step (by repeat (first | (with_reducible first | exact HB.out | apply below_alloc | apply pw_below_drewN | apply below_drew1) | exact HB.out)) hb); clear HB; have HO122 := n0_; have HB := n1_; clear n0_ n1_; clear hb ho6)); try go_wp2_with (first | ((with_reducible refine gate_dst (N := 21) rfl ?_); refine Kd.R_make (Kd.int .i64) _ 3 rfl (N := 21) rfl 24 _ _ rfl (l0.length : Int) rfl rfl Try.underlying24 (.int .i64 0) 8 info3 rfl (by decide) (by omega) 0 (ok := fun _ => True) (okp := fun _ => True) rfl (fun _ hk => hk) trivial (of_decide_eq_true (by first | (with_reducible assumption) | assumption)) (Nat.le_trans (Nat.mul_le_mul_right _ (of_decide_eq_true (by first | (with_reducible assumption) | assumption) : (l0.length : Int).toNat ≤ 35184372088832)) (by omega)) (Below.refl _ _) (Nat.le_refl _) ?_; intro v121 w5 ho6 hb hg_ hnew_; clear hg_ hnew_; (first | rw [← Ny120.out] at ho6 | (simp only [Int.reduceToNat] at ho6; rw [← Ny120.out] at ho6)); have n0_ := Aside0.mk (Kd.R_lower ho6 (below_size (by repeat (first | (with_reducible first | exact HB.out | apply below_alloc | apply pw_below_drewN | apply below_drew1) | exact HB.out)))); have n1_ := Aside0.mk (below_step (by repeat (first | (with_reducible first | exact HB.out | apply below_alloc | apply pw_below_drewN | apply below_drew1) | exact HB.out)) hb); clear HB; have HO122 := n0_; have HB := n1_; clear n0_ n1_; clear hb ho6)))
        go_loopg [24] k (fun kq v24 w' => ∃ (x4_1 : List Int) (x24_1 : Int), v24 = .int .i64 x24_1 ∧ Aside0 (code_Depths.l0 kq l0 x4_1 l0 (l0.length : Int) x24_1 = some (r1, r2)) ∧ Aside0 (kq ≤ k) ∧ Aside0 (Kd.R (Kd.int .i64) 3 w' w.heap.size (fun _ => True) v121 x4_1) ∧ Aside0 (Below w.heap.size w w'))
        case atStart => exact ⟨(y120), (0), (by first | rfl | (simp; done) | (simp [*]; done)), H', ⟨Nat.le_refl _⟩, ⟨by (with_reducible repeat (first | apply Kd.R_alloc | apply Kd.R_drewN | apply Kd.R_drew)); exact HO122.out⟩, ⟨by repeat (first | (with_reducible first | exact HB.out | apply below_alloc | apply pw_below_drewN | apply below_drew1) | exact HB.out)⟩⟩
        case round =>
          clear H'
          try clear c2
          try clear c2b0
          try clear c2b1
          try clear p2
          try clear c3
          try clear c3b0
          try clear c3b1
          try clear c4
          try clear c4b0
          try clear c4b1
          obtain ⟨x4_1, x24_1, rfl, HA, HK1, HO_4, HB⟩ := hrel
          cases gk with
          | zero => exact absurd HA.out (by simp [code_Depths.l0])
          | succ k1 =>
            have H := HA.out
            clear HA
            simp only [code_Depths.l0] at H
            by_cases c7 : x24_1 < (l0.length : Int)
            · rw [if_pos c7] at H
              have c7b0 : decide (x24_1 < (l0.length : Int)) = true := decide_eq_true c7
              clear c7
              by_cases c8 : 0 ≤ x24_1
              · rw [if_pos c8] at H
                have c8b0 : decide (0 ≤ x24_1) = true := decide_eq_true c8
                clear c8
                by_cases c9 : x24_1 < (l0.length : Int)
                · rw [if_pos c9] at H
                  have c9b0 : decide (x24_1 < (l0.length : Int)) = true := decide_eq_true c9
                  clear c9
                  replace H := Option.bind_eq_some_iff.mp H
                  obtain ⟨⟨t125, t126, t127, t128, t129, t130⟩, A100, H⟩ := H
                  replace H : (if t130 = true then (if x24_1 < (x4_1.length : Int) then (code_Depths.l0 k1 l0 (x4_1.set (x24_1 : Int).toNat (-1)) l0 (l0.length : Int) (wrap64 (x24_1 + 1))) else (none)) else (some (([] : List Int), 2))) = some (r1, r2) := H
                  have A10 := Aside0.mk A100
                  clear A100
                  by_cases c11 : t130 = true
                  · subst c11
                    have H1 : (if x24_1 < (x4_1.length : Int) then (code_Depths.l0 k1 l0 (x4_1.set (x24_1 : Int).toNat (-1)) l0 (l0.length : Int) (wrap64 (x24_1 + 1))) else (none)) = some (r1, r2) := by rw [if_pos rfl] at H; exact H
                    clear H
                    have H := H1
                    clear H1
                    by_cases c12 : x24_1 < (x4_1.length : Int)
                    · rw [if_pos c12] at H
                      have c12b0 : decide (x24_1 < (x4_1.length : Int)) = true := decide_eq_true c12
                      clear c12
                      obtain ⟨y132, hy132⟩ : ∃ y_ : List Int, y_ = (x4_1.set (x24_1 : Int).toNat (-1)) := ⟨_, rfl⟩
                      replace H : (code_Depths.l0 k1 l0 y132 l0 (l0.length : Int) (wrap64 (x24_1 + 1))) = some (r1, r2) := by first | (rw [hy132]; with_reducible exact H) | (have H2_ := (Option.bind_some _ _).symm.trans H; rw [hy132]; with_reducible exact H2_) | (have H2_ := (Option.bind_some _ _).symm.trans H; with_reducible exact H2_) | with_reducible exact H | (rw [hy132]; exact H) | exact H
                      have Ny132 := Aside0.mk hy132
                      clear hy132
                      have H' := Aside0.mk H
                      clear H
                      have p123 : 0 ≤ (x24_1 : Int) := of_decide_eq_true (by first | (with_reducible assumption) | assumption)
                      have q123 : x24_1 < (l0.length : Int) := of_decide_eq_true (by first | (with_reducible assumption) | assumption)
                      obtain ⟨ad123, e123, hx123_0, hx123_1⟩ := at_T41 HR0.out x24_1 p123 q123
                      cases e123
                      replace hx123_0 := (HB.out.cell (World.block_lt_of_cell? w _ hx123_0)).trans hx123_0
                      replace hx123_1 := (HB.out.cell (World.block_lt_of_cell? w _ hx123_1)).trans hx123_1
                      replace p123 := eq_true p123
                      replace q123 := eq_true q123
                      go_wp2_with (first | ((with_reducible refine gate_dst (N := 6) rfl ?_); refine box_event ?hg (N := 6) ?hd (cs := #[.int .i64 0, .int .i64 0]) (t := 41) ?hr ?_; (case hd => rfl); (case hg => rfl); (case hr => first | (go_simp; done) | (go_simp; rfl)); intro gb124 hg w14 hbox hb; have n0_ := Aside0.mk (Kd.R_below (by (with_reducible repeat (first | apply Kd.R_alloc | apply Kd.R_drewN | apply Kd.R_drew)); exact HO_4.out) hb); have n1_ := Aside0.mk (below_step (by repeat (first | (with_reducible first | exact HB.out | apply below_alloc | apply pw_below_drewN | apply below_drew1) | exact HB.out)) hb); have n2_ := Aside0.mk (hbox); have n3_ := Aside0.mk ((by rw [hg]; exact (below_size (by repeat (first | (with_reducible first | exact HB.out | apply below_alloc | apply pw_below_drewN | apply below_drew1) | exact HB.out))) : w.heap.size ≤ gb124)); have n4_ := Aside0.mk ((by rw [hg]; exact (below_size (by repeat (first | (with_reducible first | exact HB.out | apply below_alloc | apply pw_below_drewN | apply below_drew1) | exact HB.out))) : w.heap.size ≤ gb124)); clear HO_4; clear HB; have HO_4 := n0_; have HB := n1_; have BK124 := n2_; have GW124 := n3_; have GE124 := n4_; clear n0_ n1_ n2_ n3_ n4_; clear hb hbox hg; have hcz15_0 : w14.cell? ⟨gb124, 0, none⟩ = some (.int .i64 0) := (blk_cell BK124.out 0).trans rfl; have hcz15_1 : w14.cell? ⟨gb124, 1, none⟩ = some (.int .i64 0) := (blk_cell BK124.out 1).trans rfl; have hfz15_0 := blk_frozen BK124.out 0; have hfz15_1 := blk_frozen BK124.out 1) | (go_at_call 25; (with_reducible refine (code_may.calls ((rd_T41 l0 x24_1).f0) ((rd_T41 l0 x24_1).f1) t125 t126 t127 t128 t129 true _ A10.out).mono ?_); rintro e w16 ⟨rfl, hb⟩; have n0_ := Aside0.mk (Kd.R_below (by (with_reducible repeat (first | apply Kd.R_alloc | apply Kd.R_drewN | apply Kd.R_drew)); exact (Kd.R_mono (Kd.R_far (p := ⟨gb124, 1, none⟩) (Kd.R_far (p := ⟨gb124, 0, none⟩) (Kd.R_types HO_4.out BK124.out (by decide)) (fun _ hk => hk.2) (.int .i64 ((rd_T41 l0 x24_1).f0))) (fun _ hk => hk.2) (.int .i64 ((rd_T41 l0 x24_1).f1))) (fun _ h_ => h_.1))) hb); have n1_ := Aside0.mk (blk_below (g := gb124) (o := .cells #[.int .i64 ((rd_T41 l0 x24_1).f0), .int .i64 ((rd_T41 l0 x24_1).f1)] 41 (0, 0)) (by (with_reducible repeat (first | refine blk_drewN ?_ _ | refine blk_drew ?_ | refine blk_alloc ?_ _)); refine blk_put (cs := #[.int .i64 ((rd_T41 l0 x24_1).f0), .int .i64 0]) ?_ 1 _ rfl; (with_reducible repeat (first | refine blk_drewN ?_ _ | refine blk_drew ?_ | refine blk_alloc ?_ _)); refine blk_put (cs := #[.int .i64 0, .int .i64 0]) ?_ 0 _ rfl; (with_reducible repeat (first | refine blk_drewN ?_ _ | refine blk_drew ?_ | refine blk_alloc ?_ _)); exact BK124.out) hb); have n2_ := Aside0.mk (below_step (by repeat (first | (with_reducible first | exact HB.out | apply below_alloc | apply pw_below_drewN | apply below_drew1 | refine below_set ?_ GE124.out) | exact HB.out)) hb); clear HO_4; clear BK124; clear HB; have HO_4 := n0_; have BK124 := n1_; have HB := n2_; clear n0_ n1_ n2_; (try clear hb); (try clear hb2); (try clear hk); (try clear hi)) | ((with_reducible refine gate_dst (N := 7) rfl ?_); refine box_event ?hg (N := 7) ?hd (cs := #[.int .i64 0, .int .i64 0, .int .i64 0, .int .i64 0, .bool false]) (t := 56) ?hr ?_; (case hd => rfl); (case hg => rfl); (case hr => first | (go_simp; done) | (go_simp; rfl)); intro gb131 hg w17 hbox hb; have n0_ := Aside0.mk (Kd.R_below (by (with_reducible repeat (first | apply Kd.R_alloc | apply Kd.R_drewN | apply Kd.R_drew)); exact HO_4.out) hb); have n1_ := Aside0.mk (blk_below (g := gb124) (o := .cells #[.int .i64 ((rd_T41 l0 x24_1).f0), .int .i64 ((rd_T41 l0 x24_1).f1)] 41 (0, 0)) (by (with_reducible repeat (first | refine blk_drewN ?_ _ | refine blk_drew ?_ | refine blk_alloc ?_ _)); exact BK124.out) hb); have n2_ := Aside0.mk (below_step (by repeat (first | (with_reducible first | exact HB.out | apply below_alloc | apply pw_below_drewN | apply below_drew1 | refine below_set ?_ GE124.out) | exact HB.out)) hb); have n3_ := Aside0.mk (hbox); have n4_ := Aside0.mk ((by rw [hg]; exact (below_size (by repeat (first | (with_reducible first | exact HB.out | apply below_alloc | apply pw_below_drewN | apply below_drew1 | refine below_set ?_ GE124.out) | exact HB.out))) : w.heap.size ≤ gb131)); have n5_ := Aside0.mk ((by rw [hg]; exact (below_size (by repeat (first | (with_reducible first | exact HB.out | apply below_alloc | apply pw_below_drewN | apply below_drew1 | refine below_set ?_ GE124.out) | exact HB.out))) : w.heap.size ≤ gb131)); have n6_ := Aside0.mk ((by rw [hg]; exact Nat.ne_of_lt (blk_lt (g := gb124) (o := .cells #[.int .i64 ((rd_T41 l0 x24_1).f0), .int .i64 ((rd_T41 l0 x24_1).f1)] 41 (0, 0)) (by (with_reducible repeat (first | refine blk_drewN ?_ _ | refine blk_drew ?_ | refine blk_alloc ?_ _)); exact BK124.out)) : gb124 ≠ gb131)); have n7_ := Aside0.mk ((by rw [hg]; exact Nat.ne_of_gt (blk_lt (g := gb124) (o := .cells #[.int .i64 ((rd_T41 l0 x24_1).f0), .int .i64 ((rd_T41 l0 x24_1).f1)] 41 (0, 0)) (by (with_reducible repeat (first | refine blk_drewN ?_ _ | refine blk_drew ?_ | refine blk_alloc ?_ _)); exact BK124.out)) : gb131 ≠ gb124)); clear HO_4; clear BK124; clear HB; have HO_4 := n0_; have BK124 := n1_; have HB := n2_; have BK131 := n3_; have GW131 := n4_; have GE131 := n5_; have NB124_131 := n6_; have NB131_124 := n7_; clear n0_ n1_ n2_ n3_ n4_ n5_ n6_ n7_; clear hb hbox hg; have hnb18 := NB131_124.out; have hnc18 := NB124_131.out; have hcz19_0 : w17.cell? ⟨gb131, 0, none⟩ = some (.int .i64 0) := (blk_cell BK131.out 0).trans rfl; have hcz19_1 : w17.cell? ⟨gb131, 1, none⟩ = some (.int .i64 0) := (blk_cell BK131.out 1).trans rfl; have hcz19_2 : w17.cell? ⟨gb131, 2, none⟩ = some (.int .i64 0) := (blk_cell BK131.out 2).trans rfl; have hcz19_3 : w17.cell? ⟨gb131, 3, none⟩ = some (.int .i64 0) := (blk_cell BK131.out 3).trans rfl; have hcz19_4 : w17.cell? ⟨gb131, 4, none⟩ = some (.bool false) := (blk_cell BK131.out 4).trans rfl; have hfz19_0 := blk_frozen BK131.out 0; have hfz19_1 := blk_frozen BK131.out 1; have hfz19_2 := blk_frozen BK131.out 2; have hfz19_3 := blk_frozen BK131.out 3; have hfz19_4 := blk_frozen BK131.out 4) | ((with_reducible refine gate_store (t := 56) (p := 7) rfl ?_); (try (rw [drewN_self w17]; generalize hq_ : World.drewN w17 _ = w17; have n0_ := Aside0.mk (Kd.R_at hq_ HO_4.out); have n1_ := Aside0.mk (blk_at hq_ BK124.out); have n2_ := Aside0.mk (blk_at hq_ BK131.out); have n3_ := Aside0.mk (below_at hq_ HB.out); clear hq_ HO_4 BK124 BK131 HB; have HO_4 := n0_; have BK124 := n1_; have BK131 := n2_; have HB := n3_; clear n0_ n1_ n2_ n3_)); refine store_event (t := 56) (p := 7) (v := ?vo_w20) (w1 := (((((w17.setCell ⟨gb131, 0, none⟩ (.int .i64 t125)).setCell ⟨gb131, 1, none⟩ (.int .i64 t126)).setCell ⟨gb131, 2, none⟩ (.int .i64 t127)).setCell ⟨gb131, 3, none⟩ (.int .i64 t128)).setCell ⟨gb131, 4, none⟩ (.bool t129))) ?hg ?ho ?hn ?hr ?_; (case ho => rfl); (case hg => rfl); (case hn => rfl); (case hr => first | (go_simp; done) | (go_simp; rfl)); intro w20 hw; have n0_ : Aside0 (Kd.R (Kd.int .i64) 3 w20 w.heap.size (fun _ => True) v121 x4_1) := ⟨(by rw [hw]; exact (by (with_reducible repeat (first | apply Kd.R_alloc | apply Kd.R_drewN | apply Kd.R_drew)); exact Kd.R_mono (Kd.R_far (p := ⟨gb131, 4, none⟩) (Kd.R_far (p := ⟨gb131, 3, none⟩) (Kd.R_far (p := ⟨gb131, 2, none⟩) (Kd.R_far (p := ⟨gb131, 1, none⟩) (Kd.R_far (p := ⟨gb131, 0, none⟩) (Kd.R_types HO_4.out BK131.out (by decide)) (fun _ hk => hk.2) (.int .i64 t125)) (fun _ hk => hk.2) (.int .i64 t126)) (fun _ hk => hk.2) (.int .i64 t127)) (fun _ hk => hk.2) (.int .i64 t128)) (fun _ hk => hk.2) (.bool t129)) (fun _ hk => trivial)))⟩; have n1_ : Aside0 (w20.heap[gb124]? = some (.cells #[.int .i64 ((rd_T41 l0 x24_1).f0), .int .i64 ((rd_T41 l0 x24_1).f1)] 41 (0, 0))) := ⟨(by rw [hw]; exact (by (with_reducible repeat (first | refine blk_drewN ?_ _ | refine blk_drew ?_ | refine blk_alloc ?_ _)); refine blk_far ?_ NB124_131.out _; (with_reducible repeat (first | refine blk_drewN ?_ _ | refine blk_drew ?_ | refine blk_alloc ?_ _)); refine blk_far ?_ NB124_131.out _; (with_reducible repeat (first | refine blk_drewN ?_ _ | refine blk_drew ?_ | refine blk_alloc ?_ _)); refine blk_far ?_ NB124_131.out _; (with_reducible repeat (first | refine blk_drewN ?_ _ | refine blk_drew ?_ | refine blk_alloc ?_ _)); refine blk_far ?_ NB124_131.out _; (with_reducible repeat (first | refine blk_drewN ?_ _ | refine blk_drew ?_ | refine blk_alloc ?_ _)); refine blk_far ?_ NB124_131.out _; (with_reducible repeat (first | refine blk_drewN ?_ _ | refine blk_drew ?_ | refine blk_alloc ?_ _)); exact BK124.out))⟩; have n2_ : Aside0 (w20.heap[gb131]? = some (.cells #[.int .i64 t125, .int .i64 t126, .int .i64 t127, .int .i64 t128, .bool t129] 56 (0, 0))) := ⟨(by rw [hw]; exact (by (with_reducible repeat (first | refine blk_drewN ?_ _ | refine blk_drew ?_ | refine blk_alloc ?_ _)); refine blk_put (cs := #[.int .i64 t125, .int .i64 t126, .int .i64 t127, .int .i64 t128, .bool false]) ?_ 4 _ rfl; (with_reducible repeat (first | refine blk_drewN ?_ _ | refine blk_drew ?_ | refine blk_alloc ?_ _)); refine blk_put (cs := #[.int .i64 t125, .int .i64 t126, .int .i64 t127, .int .i64 0, .bool false]) ?_ 3 _ rfl; (with_reducible repeat (first | refine blk_drewN ?_ _ | refine blk_drew ?_ | refine blk_alloc ?_ _)); refine blk_put (cs := #[.int .i64 t125, .int .i64 t126, .int .i64 0, .int .i64 0, .bool false]) ?_ 2 _ rfl; (with_reducible repeat (first | refine blk_drewN ?_ _ | refine blk_drew ?_ | refine blk_alloc ?_ _)); refine blk_put (cs := #[.int .i64 t125, .int .i64 0, .int .i64 0, .int .i64 0, .bool false]) ?_ 1 _ rfl; (with_reducible repeat (first | refine blk_drewN ?_ _ | refine blk_drew ?_ | refine blk_alloc ?_ _)); refine blk_put (cs := #[.int .i64 0, .int .i64 0, .int .i64 0, .int .i64 0, .bool false]) ?_ 0 _ rfl; (with_reducible repeat (first | refine blk_drewN ?_ _ | refine blk_drew ?_ | refine blk_alloc ?_ _)); exact BK131.out))⟩; have n3_ : Aside0 (Below w.heap.size w w20) := ⟨(by rw [hw]; exact (by repeat (first | (with_reducible first | exact HB.out | apply below_alloc | apply pw_below_drewN | apply below_drew1 | refine below_set ?_ GE124.out | refine below_set ?_ GE131.out) | exact HB.out)))⟩; clear hw; clear HO_4; clear BK124; clear BK131; clear HB; have HO_4 := n0_; have BK124 := n1_; have BK131 := n2_; have HB := n3_; clear n0_ n1_ n2_ n3_; have p13 : 0 ≤ (x24_1 : Int) := of_decide_eq_true (by first | (with_reducible assumption) | assumption); have q13 : (x24_1 : Int) < ((x4_1.length : Int) : Int) := of_decide_eq_true (by first | (with_reducible assumption) | assumption); obtain ⟨go13, co13, eo13, gb13, gl13, cl13, HG13⟩ := Kd.R_form HO_4.out (by omega); (first | cases eo13 | (injection eo13 with ea_ en_ ec_; (first | subst ea_ | (injection ea_ with ea_; subst ea_)); subst ec_; clear en_)); have GB13 := Aside0.mk gb13; have GG13 := Aside0.mk HG13; clear gb13 gl13 HG13; obtain ⟨hx13_0, hf13_0⟩ := Kd.R_celln 0 HO_4.out (x24_1 : Int) p13 q13; replace p13 := eq_true p13; replace q13 := eq_true q13; obtain ⟨hy21_, hz21_⟩ := Kd.R_celln 0 HO_4.out (x24_1 : Int) (of_decide_eq_true (by first | (with_reducible assumption) | assumption)) (of_decide_eq_true (by first | (with_reducible assumption) | assumption)); have HP21 := Kd.R_putg HO_4.out (x24_1 : Int) (-1)) | ((with_reducible refine gate_store (t := 3) (p := 38) rfl ?_); (try (rw [drewN_self w20]; generalize hq_ : World.drewN w20 _ = w20; have n0_ := Aside0.mk (Kd.R_at hq_ HO_4.out); have n1_ := Aside0.mk (blk_at hq_ BK124.out); have n2_ := Aside0.mk (blk_at hq_ BK131.out); have n3_ := Aside0.mk (below_at hq_ HB.out); clear hq_ HO_4 BK124 BK131 HB; have HO_4 := n0_; have BK124 := n1_; have BK131 := n2_; have HB := n3_; clear n0_ n1_ n2_ n3_; (try (obtain ⟨hy21_, hz21_⟩ := Kd.R_celln 0 HO_4.out (x24_1 : Int) (of_decide_eq_true (by first | (with_reducible assumption) | assumption)) (of_decide_eq_true (by first | (with_reducible assumption) | assumption)))); (try (have HP21 := Kd.R_putg HO_4.out (x24_1 : Int) (-1))))); refine store_event (t := 3) (p := 38) (v := ?vo_w22) (w1 := (w20.setCell ⟨go13, (x24_1 : Int).toNat, none⟩ (.int .i64 (-1)))) ?hg ?ho ?hn ?hr ?_; (case ho => rfl); (case hg => rfl); (case hn => rfl); (case hr => first | (go_simp; done) | (go_simp; rfl)); intro w22 hw; have hg : w20.grownBy w22 (some go13) := (by rw [hw]; exact HP21.2); have hp_ : Kd.R (Kd.int .i64) 3 w22 w.heap.size (fun _ => True) (.slice (some ⟨go13, 0, none⟩) x4_1.length co13) y132 := (by rw [hw, Ny132.out]; exact HP21.1); clear HP21; have n0_ := Aside0.mk (hp_); have n1_ := Aside0.mk (blk_grown (g := gb124) (o := .cells #[.int .i64 ((rd_T41 l0 x24_1).f0), .int .i64 ((rd_T41 l0 x24_1).f1)] 41 (0, 0)) (by (with_reducible repeat (first | refine blk_drewN ?_ _ | refine blk_drew ?_ | refine blk_alloc ?_ _)); exact BK124.out) hg (Kd.R_ne HO_4.out BK124.out (by decide))); have n2_ := Aside0.mk (blk_grown (g := gb131) (o := .cells #[.int .i64 t125, .int .i64 t126, .int .i64 t127, .int .i64 t128, .bool t129] 56 (0, 0)) (by (with_reducible repeat (first | refine blk_drewN ?_ _ | refine blk_drew ?_ | refine blk_alloc ?_ _)); exact BK131.out) hg (Kd.R_ne HO_4.out BK131.out (by decide))); have n3_ := Aside0.mk ((by rw [hw]; exact below_set (HB.out) GB13.out : Below w.heap.size w w22)); clear HO_4; clear BK124; clear BK131; clear HB; have HO_4 := n0_; have BK124 := n1_; have BK131 := n2_; have HB := n3_; clear n0_ n1_ n2_ n3_; clear hg hw hp_))
                      repeat (go_quiet (first | ((with_reducible refine gate_dst (N := 6) rfl ?_); refine box_event ?hg (N := 6) ?hd (cs := #[.int .i64 0, .int .i64 0]) (t := 41) ?hr ?_; (case hd => rfl); (case hg => rfl); (case hr => first | (go_simp; done) | (go_simp; rfl)); intro gb124 hg w14 hbox hb; have n0_ := Aside0.mk (Kd.R_below (by (with_reducible repeat (first | apply Kd.R_alloc | apply Kd.R_drewN | apply Kd.R_drew)); exact HO_4.out) hb); have n1_ := Aside0.mk (below_step (by repeat (first | (with_reducible first | exact HB.out | apply below_alloc | apply pw_below_drewN | apply below_drew1) | exact HB.out)) hb); have n2_ := Aside0.mk (hbox); have n3_ := Aside0.mk ((by rw [hg]; exact (below_size (by repeat (first | (with_reducible first | exact HB.out | apply below_alloc | apply pw_below_drewN | apply below_drew1) | exact HB.out))) : w.heap.size ≤ gb124)); have n4_ := Aside0.mk ((by rw [hg]; exact (below_size (by repeat (first | (with_reducible first | exact HB.out | apply below_alloc | apply pw_below_drewN | apply below_drew1) | exact HB.out))) : w.heap.size ≤ gb124)); clear HO_4; clear HB; have HO_4 := n0_; have HB := n1_; have BK124 := n2_; have GW124 := n3_; have GE124 := n4_; clear n0_ n1_ n2_ n3_ n4_; clear hb hbox hg; have hcz15_0 : w14.cell? ⟨gb124, 0, none⟩ = some (.int .i64 0) := (blk_cell BK124.out 0).trans rfl; have hcz15_1 : w14.cell? ⟨gb124, 1, none⟩ = some (.int .i64 0) := (blk_cell BK124.out 1).trans rfl; have hfz15_0 := blk_frozen BK124.out 0; have hfz15_1 := blk_frozen BK124.out 1) | (go_at_call 25; (with_reducible refine (code_may.calls ((rd_T41 l0 x24_1).f0) ((rd_T41 l0 x24_1).f1) t125 t126 t127 t128 t129 true _ A10.out).mono ?_); rintro e w16 ⟨rfl, hb⟩; have n0_ := Aside0.mk (Kd.R_below (by (with_reducible repeat (first | apply Kd.R_alloc | apply Kd.R_drewN | apply Kd.R_drew)); exact (Kd.R_mono (Kd.R_far (p := ⟨gb124, 1, none⟩) (Kd.R_far (p := ⟨gb124, 0, none⟩) (Kd.R_types HO_4.out BK124.out (by decide)) (fun _ hk => hk.2) (.int .i64 ((rd_T41 l0 x24_1).f0))) (fun _ hk => hk.2) (.int .i64 ((rd_T41 l0 x24_1).f1))) (fun _ h_ => h_.1))) hb); have n1_ := Aside0.mk (blk_below (g := gb124) (o := .cells #[.int .i64 ((rd_T41 l0 x24_1).f0), .int .i64 ((rd_T41 l0 x24_1).f1)] 41 (0, 0)) (by (with_reducible repeat (first | refine blk_drewN ?_ _ | refine blk_drew ?_ | refine blk_alloc ?_ _)); refine blk_put (cs := #[.int .i64 ((rd_T41 l0 x24_1).f0), .int .i64 0]) ?_ 1 _ rfl; (with_reducible repeat (first | refine blk_drewN ?_ _ | refine blk_drew ?_ | refine blk_alloc ?_ _)); refine blk_put (cs := #[.int .i64 0, .int .i64 0]) ?_ 0 _ rfl; (with_reducible repeat (first | refine blk_drewN ?_ _ | refine blk_drew ?_ | refine blk_alloc ?_ _)); exact BK124.out) hb); have n2_ := Aside0.mk (below_step (by repeat (first | (with_reducible first | exact HB.out | apply below_alloc | apply pw_below_drewN | apply below_drew1 | refine below_set ?_ GE124.out) | exact HB.out)) hb); clear HO_4; clear BK124; clear HB; have HO_4 := n0_; have BK124 := n1_; have HB := n2_; clear n0_ n1_ n2_; (try clear hb); (try clear hb2); (try clear hk); (try clear hi)) | ((with_reducible refine gate_dst (N := 7) rfl ?_); refine box_event ?hg (N := 7) ?hd (cs := #[.int .i64 0, .int .i64 0, .int .i64 0, .int .i64 0, .bool false]) (t := 56) ?hr ?_; (case hd => rfl); (case hg => rfl); (case hr => first | (go_simp; done) | (go_simp; rfl)); intro gb131 hg w17 hbox hb; have n0_ := Aside0.mk (Kd.R_below (by (with_reducible repeat (first | apply Kd.R_alloc | apply Kd.R_drewN | apply Kd.R_drew)); exact HO_4.out) hb); have n1_ := Aside0.mk (blk_below (g := gb124) (o := .cells #[.int .i64 ((rd_T41 l0 x24_1).f0), .int .i64 ((rd_T41 l0 x24_1).f1)] 41 (0, 0)) (by (with_reducible repeat (first | refine blk_drewN ?_ _ | refine blk_drew ?_ | refine blk_alloc ?_ _)); exact BK124.out) hb); have n2_ := Aside0.mk (below_step (by repeat (first | (with_reducible first | exact HB.out | apply below_alloc | apply pw_below_drewN | apply below_drew1 | refine below_set ?_ GE124.out) | exact HB.out)) hb); have n3_ := Aside0.mk (hbox); have n4_ := Aside0.mk ((by rw [hg]; exact (below_size (by repeat (first | (with_reducible first | exact HB.out | apply below_alloc | apply pw_below_drewN | apply below_drew1 | refine below_set ?_ GE124.out) | exact HB.out))) : w.heap.size ≤ gb131)); have n5_ := Aside0.mk ((by rw [hg]; exact (below_size (by repeat (first | (with_reducible first | exact HB.out | apply below_alloc | apply pw_below_drewN | apply below_drew1 | refine below_set ?_ GE124.out) | exact HB.out))) : w.heap.size ≤ gb131)); have n6_ := Aside0.mk ((by rw [hg]; exact Nat.ne_of_lt (blk_lt (g := gb124) (o := .cells #[.int .i64 ((rd_T41 l0 x24_1).f0), .int .i64 ((rd_T41 l0 x24_1).f1)] 41 (0, 0)) (by (with_reducible repeat (first | refine blk_drewN ?_ _ | refine blk_drew ?_ | refine blk_alloc ?_ _)); exact BK124.out)) : gb124 ≠ gb131)); have n7_ := Aside0.mk ((by rw [hg]; exact Nat.ne_of_gt (blk_lt (g := gb124) (o := .cells #[.int .i64 ((rd_T41 l0 x24_1).f0), .int .i64 ((rd_T41 l0 x24_1).f1)] 41 (0, 0)) (by (with_reducible repeat (first | refine blk_drewN ?_ _ | refine blk_drew ?_ | refine blk_alloc ?_ _)); exact BK124.out)) : gb131 ≠ gb124)); clear HO_4; clear BK124; clear HB; have HO_4 := n0_; have BK124 := n1_; have HB := n2_; have BK131 := n3_; have GW131 := n4_; have GE131 := n5_; have NB124_131 := n6_; have NB131_124 := n7_; clear n0_ n1_ n2_ n3_ n4_ n5_ n6_ n7_; clear hb hbox hg; have hnb18 := NB131_124.out; have hnc18 := NB124_131.out; have hcz19_0 : w17.cell? ⟨gb131, 0, none⟩ = some (.int .i64 0) := (blk_cell BK131.out 0).trans rfl; have hcz19_1 : w17.cell? ⟨gb131, 1, none⟩ = some (.int .i64 0) := (blk_cell BK131.out 1).trans rfl; have hcz19_2 : w17.cell? ⟨gb131, 2, none⟩ = some (.int .i64 0) := (blk_cell BK131.out 2).trans rfl; have hcz19_3 : w17.cell? ⟨gb131, 3, none⟩ = some (.int .i64 0) := (blk_cell BK131.out 3).trans rfl; have hcz19_4 : w17.cell? ⟨gb131, 4, none⟩ = some (.bool false) := (blk_cell BK131.out 4).trans rfl; have hfz19_0 := blk_frozen BK131.out 0; have hfz19_1 := blk_frozen BK131.out 1; have hfz19_2 := blk_frozen BK131.out 2; have hfz19_3 := blk_frozen BK131.out 3; have hfz19_4 := blk_frozen BK131.out 4) | ((with_reducible refine gate_store (t := 56) (p := 7) rfl ?_); (try (rw [drewN_self w17]; generalize hq_ : World.drewN w17 _ = w17; have n0_ := Aside0.mk (Kd.R_at hq_ HO_4.out); have n1_ := Aside0.mk (blk_at hq_ BK124.out); have n2_ := Aside0.mk (blk_at hq_ BK131.out); have n3_ := Aside0.mk (below_at hq_ HB.out); clear hq_ HO_4 BK124 BK131 HB; have HO_4 := n0_; have BK124 := n1_; have BK131 := n2_; have HB := n3_; clear n0_ n1_ n2_ n3_)); refine store_event (t := 56) (p := 7) (v := ?vo_w20) (w1 := (((((w17.setCell ⟨gb131, 0, none⟩ (.int .i64 t125)).setCell ⟨gb131, 1, none⟩ (.int .i64 t126)).setCell ⟨gb131, 2, none⟩ (.int .i64 t127)).setCell ⟨gb131, 3, none⟩ (.int .i64 t128)).setCell ⟨gb131, 4, none⟩ (.bool t129))) ?hg ?ho ?hn ?hr ?_; (case ho => rfl); (case hg => rfl); (case hn => rfl); (case hr => first | (go_simp; done) | (go_simp; rfl)); intro w20 hw; have n0_ : Aside0 (Kd.R (Kd.int .i64) 3 w20 w.heap.size (fun _ => True) v121 x4_1) := ⟨(by rw [hw]; exact (by (with_reducible repeat (first | apply Kd.R_alloc | apply Kd.R_drewN | apply Kd.R_drew)); exact Kd.R_mono (Kd.R_far (p := ⟨gb131, 4, none⟩) (Kd.R_far (p := ⟨gb131, 3, none⟩) (Kd.R_far (p := ⟨gb131, 2, none⟩) (Kd.R_far (p := ⟨gb131, 1, none⟩) (Kd.R_far (p := ⟨gb131, 0, none⟩) (Kd.R_types HO_4.out BK131.out (by decide)) (fun _ hk => hk.2) (.int .i64 t125)) (fun _ hk => hk.2) (.int .i64 t126)) (fun _ hk => hk.2) (.int .i64 t127)) (fun _ hk => hk.2) (.int .i64 t128)) (fun _ hk => hk.2) (.bool t129)) (fun _ hk => trivial)))⟩; have n1_ : Aside0 (w20.heap[gb124]? = some (.cells #[.int .i64 ((rd_T41 l0 x24_1).f0), .int .i64 ((rd_T41 l0 x24_1).f1)] 41 (0, 0))) := ⟨(by rw [hw]; exact (by (with_reducible repeat (first | refine blk_drewN ?_ _ | refine blk_drew ?_ | refine blk_alloc ?_ _)); refine blk_far ?_ NB124_131.out _; (with_reducible repeat (first | refine blk_drewN ?_ _ | refine blk_drew ?_ | refine blk_alloc ?_ _)); refine blk_far ?_ NB124_131.out _; (with_reducible repeat (first | refine blk_drewN ?_ _ | refine blk_drew ?_ | refine blk_alloc ?_ _)); refine blk_far ?_ NB124_131.out _; (with_reducible repeat (first | refine blk_drewN ?_ _ | refine blk_drew ?_ | refine blk_alloc ?_ _)); refine blk_far ?_ NB124_131.out _; (with_reducible repeat (first | refine blk_drewN ?_ _ | refine blk_drew ?_ | refine blk_alloc ?_ _)); refine blk_far ?_ NB124_131.out _; (with_reducible repeat (first | refine blk_drewN ?_ _ | refine blk_drew ?_ | refine blk_alloc ?_ _)); exact BK124.out))⟩; have n2_ : Aside0 (w20.heap[gb131]? = some (.cells #[.int .i64 t125, .int .i64 t126, .int .i64 t127, .int .i64 t128, .bool t129] 56 (0, 0))) := ⟨(by rw [hw]; exact (by (with_reducible repeat (first | refine blk_drewN ?_ _ | refine blk_drew ?_ | refine blk_alloc ?_ _)); refine blk_put (cs := #[.int .i64 t125, .int .i64 t126, .int .i64 t127, .int .i64 t128, .bool false]) ?_ 4 _ rfl; (with_reducible repeat (first | refine blk_drewN ?_ _ | refine blk_drew ?_ | refine blk_alloc ?_ _)); refine blk_put (cs := #[.int .i64 t125, .int .i64 t126, .int .i64 t127, .int .i64 0, .bool false]) ?_ 3 _ rfl; (with_reducible repeat (first | refine blk_drewN ?_ _ | refine blk_drew ?_ | refine blk_alloc ?_ _)); refine blk_put (cs := #[.int .i64 t125, .int .i64 t126, .int .i64 0, .int .i64 0, .bool false]) ?_ 2 _ rfl; (with_reducible repeat (first | refine blk_drewN ?_ _ | refine blk_drew ?_ | refine blk_alloc ?_ _)); refine blk_put (cs := #[.int .i64 t125, .int .i64 0, .int .i64 0, .int .i64 0, .bool false]) ?_ 1 _ rfl; (with_reducible repeat (first | refine blk_drewN ?_ _ | refine blk_drew ?_ | refine blk_alloc ?_ _)); refine blk_put (cs := #[.int .i64 0, .int .i64 0, .int .i64 0, .int .i64 0, .bool false]) ?_ 0 _ rfl; (with_reducible repeat (first | refine blk_drewN ?_ _ | refine blk_drew ?_ | refine blk_alloc ?_ _)); exact BK131.out))⟩; have n3_ : Aside0 (Below w.heap.size w w20) := ⟨(by rw [hw]; exact (by repeat (first | (with_reducible first | exact HB.out | apply below_alloc | apply pw_below_drewN | apply below_drew1 | refine below_set ?_ GE124.out | refine below_set ?_ GE131.out) | exact HB.out)))⟩; clear hw; clear HO_4; clear BK124; clear BK131; clear HB; have HO_4 := n0_; have BK124 := n1_; have BK131 := n2_; have HB := n3_; clear n0_ n1_ n2_ n3_; have p13 : 0 ≤ (x24_1 : Int) := of_decide_eq_true (by first | (with_reducible assumption) | assumption); have q13 : (x24_1 : Int) < ((x4_1.length : Int) : Int) := of_decide_eq_true (by first | (with_reducible assumption) | assumption); obtain ⟨go13, co13, eo13, gb13, gl13, cl13, HG13⟩ := Kd.R_form HO_4.out (by omega); (first | cases eo13 | (injection eo13 with ea_ en_ ec_; (first | subst ea_ | (injection ea_ with ea_; subst ea_)); subst ec_; clear en_)); have GB13 := Aside0.mk gb13; have GG13 := Aside0.mk HG13; clear gb13 gl13 HG13; obtain ⟨hx13_0, hf13_0⟩ := Kd.R_celln 0 HO_4.out (x24_1 : Int) p13 q13; replace p13 := eq_true p13; replace q13 := eq_true q13; obtain ⟨hy21_, hz21_⟩ := Kd.R_celln 0 HO_4.out (x24_1 : Int) (of_decide_eq_true (by first | (with_reducible assumption) | assumption)) (of_decide_eq_true (by first | (with_reducible assumption) | assumption)); have HP21 := Kd.R_putg HO_4.out (x24_1 : Int) (-1)) | ((with_reducible refine gate_store (t := 3) (p := 38) rfl ?_); (try (rw [drewN_self w20]; generalize hq_ : World.drewN w20 _ = w20; have n0_ := Aside0.mk (Kd.R_at hq_ HO_4.out); have n1_ := Aside0.mk (blk_at hq_ BK124.out); have n2_ := Aside0.mk (blk_at hq_ BK131.out); have n3_ := Aside0.mk (below_at hq_ HB.out); clear hq_ HO_4 BK124 BK131 HB; have HO_4 := n0_; have BK124 := n1_; have BK131 := n2_; have HB := n3_; clear n0_ n1_ n2_ n3_; (try (obtain ⟨hy21_, hz21_⟩ := Kd.R_celln 0 HO_4.out (x24_1 : Int) (of_decide_eq_true (by first | (with_reducible assumption) | assumption)) (of_decide_eq_true (by first | (with_reducible assumption) | assumption)))); (try (have HP21 := Kd.R_putg HO_4.out (x24_1 : Int) (-1))))); refine store_event (t := 3) (p := 38) (v := ?vo_w22) (w1 := (w20.setCell ⟨go13, (x24_1 : Int).toNat, none⟩ (.int .i64 (-1)))) ?hg ?ho ?hn ?hr ?_; (case ho => rfl); (case hg => rfl); (case hn => rfl); (case hr => first | (go_simp; done) | (go_simp; rfl)); intro w22 hw; have hg : w20.grownBy w22 (some go13) := (by rw [hw]; exact HP21.2); have hp_ : Kd.R (Kd.int .i64) 3 w22 w.heap.size (fun _ => True) (.slice (some ⟨go13, 0, none⟩) x4_1.length co13) y132 := (by rw [hw, Ny132.out]; exact HP21.1); clear HP21; have n0_ := Aside0.mk (hp_); have n1_ := Aside0.mk (blk_grown (g := gb124) (o := .cells #[.int .i64 ((rd_T41 l0 x24_1).f0), .int .i64 ((rd_T41 l0 x24_1).f1)] 41 (0, 0)) (by (with_reducible repeat (first | refine blk_drewN ?_ _ | refine blk_drew ?_ | refine blk_alloc ?_ _)); exact BK124.out) hg (Kd.R_ne HO_4.out BK124.out (by decide))); have n2_ := Aside0.mk (blk_grown (g := gb131) (o := .cells #[.int .i64 t125, .int .i64 t126, .int .i64 t127, .int .i64 t128, .bool t129] 56 (0, 0)) (by (with_reducible repeat (first | refine blk_drewN ?_ _ | refine blk_drew ?_ | refine blk_alloc ?_ _)); exact BK131.out) hg (Kd.R_ne HO_4.out BK131.out (by decide))); have n3_ := Aside0.mk ((by rw [hw]; exact below_set (HB.out) GB13.out : Below w.heap.size w w22)); clear HO_4; clear BK124; clear BK131; clear HB; have HO_4 := n0_; have BK124 := n1_; have BK131 := n2_; have HB := n3_; clear n0_ n1_ n2_ n3_; clear hg hw hp_)); try go_wp2_with (first | ((with_reducible refine gate_dst (N := 6) rfl ?_); refine box_event ?hg (N := 6) ?hd (cs := #[.int .i64 0, .int .i64 0]) (t := 41) ?hr ?_; (case hd => rfl); (case hg => rfl); (case hr => first | (go_simp; done) | (go_simp; rfl)); intro gb124 hg w14 hbox hb; have n0_ := Aside0.mk (Kd.R_below (by (with_reducible repeat (first | apply Kd.R_alloc | apply Kd.R_drewN | apply Kd.R_drew)); exact HO_4.out) hb); have n1_ := Aside0.mk (below_step (by repeat (first | (with_reducible first | exact HB.out | apply below_alloc | apply pw_below_drewN | apply below_drew1) | exact HB.out)) hb); have n2_ := Aside0.mk (hbox); have n3_ := Aside0.mk ((by rw [hg]; exact (below_size (by repeat (first | (with_reducible first | exact HB.out | apply below_alloc | apply pw_below_drewN | apply below_drew1) | exact HB.out))) : w.heap.size ≤ gb124)); have n4_ := Aside0.mk ((by rw [hg]; exact (below_size (by repeat (first | (with_reducible first | exact HB.out | apply below_alloc | apply pw_below_drewN | apply below_drew1) | exact HB.out))) : w.heap.size ≤ gb124)); clear HO_4; clear HB; have HO_4 := n0_; have HB := n1_; have BK124 := n2_; have GW124 := n3_; have GE124 := n4_; clear n0_ n1_ n2_ n3_ n4_; clear hb hbox hg; have hcz15_0 : w14.cell? ⟨gb124, 0, none⟩ = some (.int .i64 0) := (blk_cell BK124.out 0).trans rfl; have hcz15_1 : w14.cell? ⟨gb124, 1, none⟩ = some (.int .i64 0) := (blk_cell BK124.out 1).trans rfl; have hfz15_0 := blk_frozen BK124.out 0; have hfz15_1 := blk_frozen BK124.out 1) | (go_at_call 25; (with_reducible refine (code_may.calls ((rd_T41 l0 x24_1).f0) ((rd_T41 l0 x24_1).f1) t125 t126 t127 t128 t129 true _ A10.out).mono ?_); rintro e w16 ⟨rfl, hb⟩; have n0_ := Aside0.mk (Kd.R_below (by (with_reducible repeat (first | apply Kd.R_alloc | apply Kd.R_drewN | apply Kd.R_drew)); exact (Kd.R_mono (Kd.R_far (p := ⟨gb124, 1, none⟩) (Kd.R_far (p := ⟨gb124, 0, none⟩) (Kd.R_types HO_4.out BK124.out (by decide)) (fun _ hk => hk.2) (.int .i64 ((rd_T41 l0 x24_1).f0))) (fun _ hk => hk.2) (.int .i64 ((rd_T41 l0 x24_1).f1))) (fun _ h_ => h_.1))) hb); have n1_ := Aside0.mk (blk_below (g := gb124) (o := .cells #[.int .i64 ((rd_T41 l0 x24_1).f0), .int .i64 ((rd_T41 l0 x24_1).f1)] 41 (0, 0)) (by (with_reducible repeat (first | refine blk_drewN ?_ _ | refine blk_drew ?_ | refine blk_alloc ?_ _)); refine blk_put (cs := #[.int .i64 ((rd_T41 l0 x24_1).f0), .int .i64 0]) ?_ 1 _ rfl; (with_reducible repeat (first | refine blk_drewN ?_ _ | refine blk_drew ?_ | refine blk_alloc ?_ _)); refine blk_put (cs := #[.int .i64 0, .int .i64 0]) ?_ 0 _ rfl; (with_reducible repeat (first | refine blk_drewN ?_ _ | refine blk_drew ?_ | refine blk_alloc ?_ _)); exact BK124.out) hb); have n2_ := Aside0.mk (below_step (by repeat (first | (with_reducible first | exact HB.out | apply below_alloc | apply pw_below_drewN | apply below_drew1 | refine below_set ?_ GE124.out) | exact HB.out)) hb); clear HO_4; clear BK124; clear HB; have HO_4 := n0_; have BK124 := n1_; have HB := n2_; clear n0_ n1_ n2_; (try clear hb); (try clear hb2); (try clear hk); (try clear hi)) | ((with_reducible refine gate_dst (N := 7) rfl ?_); refine box_event ?hg (N := 7) ?hd (cs := #[.int .i64 0, .int .i64 0, .int .i64 0, .int .i64 0, .bool false]) (t := 56) ?hr ?_; (case hd => rfl); (case hg => rfl); (case hr => first | (go_simp; done) | (go_simp; rfl)); intro gb131 hg w17 hbox hb; have n0_ := Aside0.mk (Kd.R_below (by (with_reducible repeat (first | apply Kd.R_alloc | apply Kd.R_drewN | apply Kd.R_drew)); exact HO_4.out) hb); have n1_ := Aside0.mk (blk_below (g := gb124) (o := .cells #[.int .i64 ((rd_T41 l0 x24_1).f0), .int .i64 ((rd_T41 l0 x24_1).f1)] 41 (0, 0)) (by (with_reducible repeat (first | refine blk_drewN ?_ _ | refine blk_drew ?_ | refine blk_alloc ?_ _)); exact BK124.out) hb); have n2_ := Aside0.mk (below_step (by repeat (first | (with_reducible first | exact HB.out | apply below_alloc | apply pw_below_drewN | apply below_drew1 | refine below_set ?_ GE124.out) | exact HB.out)) hb); have n3_ := Aside0.mk (hbox); have n4_ := Aside0.mk ((by rw [hg]; exact (below_size (by repeat (first | (with_reducible first | exact HB.out | apply below_alloc | apply pw_below_drewN | apply below_drew1 | refine below_set ?_ GE124.out) | exact HB.out))) : w.heap.size ≤ gb131)); have n5_ := Aside0.mk ((by rw [hg]; exact (below_size (by repeat (first | (with_reducible first | exact HB.out | apply below_alloc | apply pw_below_drewN | apply below_drew1 | refine below_set ?_ GE124.out) | exact HB.out))) : w.heap.size ≤ gb131)); have n6_ := Aside0.mk ((by rw [hg]; exact Nat.ne_of_lt (blk_lt (g := gb124) (o := .cells #[.int .i64 ((rd_T41 l0 x24_1).f0), .int .i64 ((rd_T41 l0 x24_1).f1)] 41 (0, 0)) (by (with_reducible repeat (first | refine blk_drewN ?_ _ | refine blk_drew ?_ | refine blk_alloc ?_ _)); exact BK124.out)) : gb124 ≠ gb131)); have n7_ := Aside0.mk ((by rw [hg]; exact Nat.ne_of_gt (blk_lt (g := gb124) (o := .cells #[.int .i64 ((rd_T41 l0 x24_1).f0), .int .i64 ((rd_T41 l0 x24_1).f1)] 41 (0, 0)) (by (with_reducible repeat (first | refine blk_drewN ?_ _ | refine blk_drew ?_ | refine blk_alloc ?_ _)); exact BK124.out)) : gb131 ≠ gb124)); clear HO_4; clear BK124; clear HB; have HO_4 := n0_; have BK124 := n1_; have HB := n2_; have BK131 := n3_; have GW131 := n4_; have GE131 := n5_; have NB124_131 := n6_; have NB131_124 := n7_; clear n0_ n1_ n2_ n3_ n4_ n5_ n6_ n7_; clear hb hbox hg; have hnb18 := NB131_124.out; have hnc18 := NB124_131.out; have hcz19_0 : w17.cell? ⟨gb131, 0, none⟩ = some (.int .i64 0) := (blk_cell BK131.out 0).trans rfl; have hcz19_1 : w17.cell? ⟨gb131, 1, none⟩ = some (.int .i64 0) := (blk_cell BK131.out 1).trans rfl; have hcz19_2 : w17.cell? ⟨gb131, 2, none⟩ = some (.int .i64 0) := (blk_cell BK131.out 2).trans rfl; have hcz19_3 : w17.cell? ⟨gb131, 3, none⟩ = some (.int .i64 0) := (blk_cell BK131.out 3).trans rfl; have hcz19_4 : w17.cell? ⟨gb131, 4, none⟩ = some (.bool false) := (blk_cell BK131.out 4).trans rfl; have hfz19_0 := blk_frozen BK131.out 0; have hfz19_1 := blk_frozen BK131.out 1; have hfz19_2 := blk_frozen BK131.out 2; have hfz19_3 := blk_frozen BK131.out 3; have hfz19_4 := blk_frozen BK131.out 4) | ((with_reducible refine gate_store (t := 56) (p := 7) rfl ?_); (try (rw [drewN_self w17]; generalize hq_ : World.drewN w17 _ = w17; have n0_ := Aside0.mk (Kd.R_at hq_ HO_4.out); have n1_ := Aside0.mk (blk_at hq_ BK124.out); have n2_ := Aside0.mk (blk_at hq_ BK131.out); have n3_ := Aside0.mk (below_at hq_ HB.out); clear hq_ HO_4 BK124 BK131 HB; have HO_4 := n0_; have BK124 := n1_; have BK131 := n2_; have HB := n3_; clear n0_ n1_ n2_ n3_)); refine store_event (t := 56) (p := 7) (v := ?vo_w20) (w1 := (((((w17.setCell ⟨gb131, 0, none⟩ (.int .i64 t125)).setCell ⟨gb131, 1, none⟩ (.int .i64 t126)).setCell ⟨gb131, 2, none⟩ (.int .i64 t127)).setCell ⟨gb131, 3, none⟩ (.int .i64 t128)).setCell ⟨gb131, 4, none⟩ (.bool t129))) ?hg ?ho ?hn ?hr ?_; (case ho => rfl); (case hg => rfl); (case hn => rfl); (case hr => first | (go_simp; done) | (go_simp; rfl)); intro w20 hw; have n0_ : Aside0 (Kd.R (Kd.int .i64) 3 w20 w.heap.size (fun _ => True) v121 x4_1) := ⟨(by rw [hw]; exact (by (with_reducible repeat (first | apply Kd.R_alloc | apply Kd.R_drewN | apply Kd.R_drew)); exact Kd.R_mono (Kd.R_far (p := ⟨gb131, 4, none⟩) (Kd.R_far (p := ⟨gb131, 3, none⟩) (Kd.R_far (p := ⟨gb131, 2, none⟩) (Kd.R_far (p := ⟨gb131, 1, none⟩) (Kd.R_far (p := ⟨gb131, 0, none⟩) (Kd.R_types HO_4.out BK131.out (by decide)) (fun _ hk => hk.2) (.int .i64 t125)) (fun _ hk => hk.2) (.int .i64 t126)) (fun _ hk => hk.2) (.int .i64 t127)) (fun _ hk => hk.2) (.int .i64 t128)) (fun _ hk => hk.2) (.bool t129)) (fun _ hk => trivial)))⟩; have n1_ : Aside0 (w20.heap[gb124]? = some (.cells #[.int .i64 ((rd_T41 l0 x24_1).f0), .int .i64 ((rd_T41 l0 x24_1).f1)] 41 (0, 0))) := ⟨(by rw [hw]; exact (by (with_reducible repeat (first | refine blk_drewN ?_ _ | refine blk_drew ?_ | refine blk_alloc ?_ _)); refine blk_far ?_ NB124_131.out _; (with_reducible repeat (first | refine blk_drewN ?_ _ | refine blk_drew ?_ | refine blk_alloc ?_ _)); refine blk_far ?_ NB124_131.out _; (with_reducible repeat (first | refine blk_drewN ?_ _ | refine blk_drew ?_ | refine blk_alloc ?_ _)); refine blk_far ?_ NB124_131.out _; (with_reducible repeat (first | refine blk_drewN ?_ _ | refine blk_drew ?_ | refine blk_alloc ?_ _)); refine blk_far ?_ NB124_131.out _; (with_reducible repeat (first | refine blk_drewN ?_ _ | refine blk_drew ?_ | refine blk_alloc ?_ _)); refine blk_far ?_ NB124_131.out _; (with_reducible repeat (first | refine blk_drewN ?_ _ | refine blk_drew ?_ | refine blk_alloc ?_ _)); exact BK124.out))⟩; have n2_ : Aside0 (w20.heap[gb131]? = some (.cells #[.int .i64 t125, .int .i64 t126, .int .i64 t127, .int .i64 t128, .bool t129] 56 (0, 0))) := ⟨(by rw [hw]; exact (by (with_reducible repeat (first | refine blk_drewN ?_ _ | refine blk_drew ?_ | refine blk_alloc ?_ _)); refine blk_put (cs := #[.int .i64 t125, .int .i64 t126, .int .i64 t127, .int .i64 t128, .bool false]) ?_ 4 _ rfl; (with_reducible repeat (first | refine blk_drewN ?_ _ | refine blk_drew ?_ | refine blk_alloc ?_ _)); refine blk_put (cs := #[.int .i64 t125, .int .i64 t126, .int .i64 t127, .int .i64 0, .bool false]) ?_ 3 _ rfl; (with_reducible repeat (first | refine blk_drewN ?_ _ | refine blk_drew ?_ | refine blk_alloc ?_ _)); refine blk_put (cs := #[.int .i64 t125, .int .i64 t126, .int .i64 0, .int .i64 0, .bool false]) ?_ 2 _ rfl; (with_reducible repeat (first | refine blk_drewN ?_ _ | refine blk_drew ?_ | refine blk_alloc ?_ _)); refine blk_put (cs := #[.int .i64 t125, .int .i64 0, .int .i64 0, .int .i64 0, .bool false]) ?_ 1 _ rfl; (with_reducible repeat (first | refine blk_drewN ?_ _ | refine blk_drew ?_ | refine blk_alloc ?_ _)); refine blk_put (cs := #[.int .i64 0, .int .i64 0, .int .i64 0, .int .i64 0, .bool false]) ?_ 0 _ rfl; (with_reducible repeat (first | refine blk_drewN ?_ _ | refine blk_drew ?_ | refine blk_alloc ?_ _)); exact BK131.out))⟩; have n3_ : Aside0 (Below w.heap.size w w20) := ⟨(by rw [hw]; exact (by repeat (first | (with_reducible first | exact HB.out | apply below_alloc | apply pw_below_drewN | apply below_drew1 | refine below_set ?_ GE124.out | refine below_set ?_ GE131.out) | exact HB.out)))⟩; clear hw; clear HO_4; clear BK124; clear BK131; clear HB; have HO_4 := n0_; have BK124 := n1_; have BK131 := n2_; have HB := n3_; clear n0_ n1_ n2_ n3_; have p13 : 0 ≤ (x24_1 : Int) := of_decide_eq_true (by first | (with_reducible assumption) | assumption); have q13 : (x24_1 : Int) < ((x4_1.length : Int) : Int) := of_decide_eq_true (by first | (with_reducible assumption) | assumption); obtain ⟨go13, co13, eo13, gb13, gl13, cl13, HG13⟩ := Kd.R_form HO_4.out (by omega); (first | cases eo13 | (injection eo13 with ea_ en_ ec_; (first | subst ea_ | (injection ea_ with ea_; subst ea_)); subst ec_; clear en_)); have GB13 := Aside0.mk gb13; have GG13 := Aside0.mk HG13; clear gb13 gl13 HG13; obtain ⟨hx13_0, hf13_0⟩ := Kd.R_celln 0 HO_4.out (x24_1 : Int) p13 q13; replace p13 := eq_true p13; replace q13 := eq_true q13; obtain ⟨hy21_, hz21_⟩ := Kd.R_celln 0 HO_4.out (x24_1 : Int) (of_decide_eq_true (by first | (with_reducible assumption) | assumption)) (of_decide_eq_true (by first | (with_reducible assumption) | assumption)); have HP21 := Kd.R_putg HO_4.out (x24_1 : Int) (-1)) | ((with_reducible refine gate_store (t := 3) (p := 38) rfl ?_); (try (rw [drewN_self w20]; generalize hq_ : World.drewN w20 _ = w20; have n0_ := Aside0.mk (Kd.R_at hq_ HO_4.out); have n1_ := Aside0.mk (blk_at hq_ BK124.out); have n2_ := Aside0.mk (blk_at hq_ BK131.out); have n3_ := Aside0.mk (below_at hq_ HB.out); clear hq_ HO_4 BK124 BK131 HB; have HO_4 := n0_; have BK124 := n1_; have BK131 := n2_; have HB := n3_; clear n0_ n1_ n2_ n3_; (try (obtain ⟨hy21_, hz21_⟩ := Kd.R_celln 0 HO_4.out (x24_1 : Int) (of_decide_eq_true (by first | (with_reducible assumption) | assumption)) (of_decide_eq_true (by first | (with_reducible assumption) | assumption)))); (try (have HP21 := Kd.R_putg HO_4.out (x24_1 : Int) (-1))))); refine store_event (t := 3) (p := 38) (v := ?vo_w22) (w1 := (w20.setCell ⟨go13, (x24_1 : Int).toNat, none⟩ (.int .i64 (-1)))) ?hg ?ho ?hn ?hr ?_; (case ho => rfl); (case hg => rfl); (case hn => rfl); (case hr => first | (go_simp; done) | (go_simp; rfl)); intro w22 hw; have hg : w20.grownBy w22 (some go13) := (by rw [hw]; exact HP21.2); have hp_ : Kd.R (Kd.int .i64) 3 w22 w.heap.size (fun _ => True) (.slice (some ⟨go13, 0, none⟩) x4_1.length co13) y132 := (by rw [hw, Ny132.out]; exact HP21.1); clear HP21; have n0_ := Aside0.mk (hp_); have n1_ := Aside0.mk (blk_grown (g := gb124) (o := .cells #[.int .i64 ((rd_T41 l0 x24_1).f0), .int .i64 ((rd_T41 l0 x24_1).f1)] 41 (0, 0)) (by (with_reducible repeat (first | refine blk_drewN ?_ _ | refine blk_drew ?_ | refine blk_alloc ?_ _)); exact BK124.out) hg (Kd.R_ne HO_4.out BK124.out (by decide))); have n2_ := Aside0.mk (blk_grown (g := gb131) (o := .cells #[.int .i64 t125, .int .i64 t126, .int .i64 t127, .int .i64 t128, .bool t129] 56 (0, 0)) (by (with_reducible repeat (first | refine blk_drewN ?_ _ | refine blk_drew ?_ | refine blk_alloc ?_ _)); exact BK131.out) hg (Kd.R_ne HO_4.out BK131.out (by decide))); have n3_ := Aside0.mk ((by rw [hw]; exact below_set (HB.out) GB13.out : Below w.heap.size w w22)); clear HO_4; clear BK124; clear BK131; clear HB; have HO_4 := n0_; have BK124 := n1_; have BK131 := n2_; have HB := n3_; clear n0_ n1_ n2_ n3_; clear hg hw hp_)))
                      go_roundg k1
                      case measure => have := HK1.out; omega
                      case rel => exact ⟨(y132), (wrap64 (x24_1 + 1)), (by first | rfl | (simp; done) | (simp [*]; done)), H', ⟨by have := HK1.out; omega⟩, ⟨by (with_reducible repeat (first | apply Kd.R_alloc | apply Kd.R_drewN | apply Kd.R_drew)); exact HO_4.out⟩, ⟨by repeat (first | (with_reducible first | exact HB.out | apply below_alloc | apply pw_below_drewN | apply below_drew1 | refine below_set ?_ GE124.out | refine below_set ?_ GE131.out) | exact HB.out)⟩⟩
                    · rw [if_neg c12] at H
                      exact absurd H (by simp)
                  · replace c11 := Bool.eq_false_iff.mpr c11
                    subst c11
                    have H1 : (some (([] : List Int), 2)) = some (r1, r2) := by rw [if_neg (show ¬ (false = true) by decide)] at H; exact H
                    clear H
                    have H := H1
                    clear H1
                    simp only [Option.some.injEq, Prod.mk.injEq] at H
                    obtain ⟨rfl, rfl⟩ := H
                    have p123 : 0 ≤ (x24_1 : Int) := of_decide_eq_true (by first | (with_reducible assumption) | assumption)
                    have q123 : x24_1 < (l0.length : Int) := of_decide_eq_true (by first | (with_reducible assumption) | assumption)
                    obtain ⟨ad123, e123, hx123_0, hx123_1⟩ := at_T41 HR0.out x24_1 p123 q123
                    cases e123
                    replace hx123_0 := (HB.out.cell (World.block_lt_of_cell? w _ hx123_0)).trans hx123_0
                    replace hx123_1 := (HB.out.cell (World.block_lt_of_cell? w _ hx123_1)).trans hx123_1
                    replace p123 := eq_true p123
                    replace q123 := eq_true q123
                    go_wp2_with (first | ((with_reducible refine gate_dst (N := 6) rfl ?_); refine box_event ?hg (N := 6) ?hd (cs := #[.int .i64 0, .int .i64 0]) (t := 41) ?hr ?_; (case hd => rfl); (case hg => rfl); (case hr => first | (go_simp; done) | (go_simp; rfl)); intro gb124 hg w23 hbox hb; have n0_ := Aside0.mk (Kd.R_below (by (with_reducible repeat (first | apply Kd.R_alloc | apply Kd.R_drewN | apply Kd.R_drew)); exact HO_4.out) hb); have n1_ := Aside0.mk (below_step (by repeat (first | (with_reducible first | exact HB.out | apply below_alloc | apply pw_below_drewN | apply below_drew1) | exact HB.out)) hb); have n2_ := Aside0.mk (hbox); have n3_ := Aside0.mk ((by rw [hg]; exact (below_size (by repeat (first | (with_reducible first | exact HB.out | apply below_alloc | apply pw_below_drewN | apply below_drew1) | exact HB.out))) : w.heap.size ≤ gb124)); have n4_ := Aside0.mk ((by rw [hg]; exact (below_size (by repeat (first | (with_reducible first | exact HB.out | apply below_alloc | apply pw_below_drewN | apply below_drew1) | exact HB.out))) : w.heap.size ≤ gb124)); clear HO_4; clear HB; have HO_4 := n0_; have HB := n1_; have BK124 := n2_; have GW124 := n3_; have GE124 := n4_; clear n0_ n1_ n2_ n3_ n4_; clear hb hbox hg; have hcz24_0 : w23.cell? ⟨gb124, 0, none⟩ = some (.int .i64 0) := (blk_cell BK124.out 0).trans rfl; have hcz24_1 : w23.cell? ⟨gb124, 1, none⟩ = some (.int .i64 0) := (blk_cell BK124.out 1).trans rfl; have hfz24_0 := blk_frozen BK124.out 0; have hfz24_1 := blk_frozen BK124.out 1) | (go_at_call 25; (with_reducible refine (code_may.calls ((rd_T41 l0 x24_1).f0) ((rd_T41 l0 x24_1).f1) t125 t126 t127 t128 t129 false _ A10.out).mono ?_); rintro e w25 ⟨rfl, hb⟩; have n0_ := Aside0.mk (Kd.R_below (by (with_reducible repeat (first | apply Kd.R_alloc | apply Kd.R_drewN | apply Kd.R_drew)); exact (Kd.R_mono (Kd.R_far (p := ⟨gb124, 1, none⟩) (Kd.R_far (p := ⟨gb124, 0, none⟩) (Kd.R_types HO_4.out BK124.out (by decide)) (fun _ hk => hk.2) (.int .i64 ((rd_T41 l0 x24_1).f0))) (fun _ hk => hk.2) (.int .i64 ((rd_T41 l0 x24_1).f1))) (fun _ h_ => h_.1))) hb); have n1_ := Aside0.mk (blk_below (g := gb124) (o := .cells #[.int .i64 ((rd_T41 l0 x24_1).f0), .int .i64 ((rd_T41 l0 x24_1).f1)] 41 (0, 0)) (by (with_reducible repeat (first | refine blk_drewN ?_ _ | refine blk_drew ?_ | refine blk_alloc ?_ _)); refine blk_put (cs := #[.int .i64 ((rd_T41 l0 x24_1).f0), .int .i64 0]) ?_ 1 _ rfl; (with_reducible repeat (first | refine blk_drewN ?_ _ | refine blk_drew ?_ | refine blk_alloc ?_ _)); refine blk_put (cs := #[.int .i64 0, .int .i64 0]) ?_ 0 _ rfl; (with_reducible repeat (first | refine blk_drewN ?_ _ | refine blk_drew ?_ | refine blk_alloc ?_ _)); exact BK124.out) hb); have n2_ := Aside0.mk (below_step (by repeat (first | (with_reducible first | exact HB.out | apply below_alloc | apply pw_below_drewN | apply below_drew1 | refine below_set ?_ GE124.out) | exact HB.out)) hb); clear HO_4; clear BK124; clear HB; have HO_4 := n0_; have BK124 := n1_; have HB := n2_; clear n0_ n1_ n2_; (try clear hb); (try clear hb2); (try clear hk); (try clear hi)) | ((with_reducible refine gate_dst (N := 7) rfl ?_); refine box_event ?hg (N := 7) ?hd (cs := #[.int .i64 0, .int .i64 0, .int .i64 0, .int .i64 0, .bool false]) (t := 56) ?hr ?_; (case hd => rfl); (case hg => rfl); (case hr => first | (go_simp; done) | (go_simp; rfl)); intro gb131 hg w26 hbox hb; have n0_ := Aside0.mk (Kd.R_below (by (with_reducible repeat (first | apply Kd.R_alloc | apply Kd.R_drewN | apply Kd.R_drew)); exact HO_4.out) hb); have n1_ := Aside0.mk (blk_below (g := gb124) (o := .cells #[.int .i64 ((rd_T41 l0 x24_1).f0), .int .i64 ((rd_T41 l0 x24_1).f1)] 41 (0, 0)) (by (with_reducible repeat (first | refine blk_drewN ?_ _ | refine blk_drew ?_ | refine blk_alloc ?_ _)); exact BK124.out) hb); have n2_ := Aside0.mk (below_step (by repeat (first | (with_reducible first | exact HB.out | apply below_alloc | apply pw_below_drewN | apply below_drew1 | refine below_set ?_ GE124.out) | exact HB.out)) hb); have n3_ := Aside0.mk (hbox); have n4_ := Aside0.mk ((by rw [hg]; exact (below_size (by repeat (first | (with_reducible first | exact HB.out | apply below_alloc | apply pw_below_drewN | apply below_drew1 | refine below_set ?_ GE124.out) | exact HB.out))) : w.heap.size ≤ gb131)); have n5_ := Aside0.mk ((by rw [hg]; exact (below_size (by repeat (first | (with_reducible first | exact HB.out | apply below_alloc | apply pw_below_drewN | apply below_drew1 | refine below_set ?_ GE124.out) | exact HB.out))) : w.heap.size ≤ gb131)); have n6_ := Aside0.mk ((by rw [hg]; exact Nat.ne_of_lt (blk_lt (g := gb124) (o := .cells #[.int .i64 ((rd_T41 l0 x24_1).f0), .int .i64 ((rd_T41 l0 x24_1).f1)] 41 (0, 0)) (by (with_reducible repeat (first | refine blk_drewN ?_ _ | refine blk_drew ?_ | refine blk_alloc ?_ _)); exact BK124.out)) : gb124 ≠ gb131)); have n7_ := Aside0.mk ((by rw [hg]; exact Nat.ne_of_gt (blk_lt (g := gb124) (o := .cells #[.int .i64 ((rd_T41 l0 x24_1).f0), .int .i64 ((rd_T41 l0 x24_1).f1)] 41 (0, 0)) (by (with_reducible repeat (first | refine blk_drewN ?_ _ | refine blk_drew ?_ | refine blk_alloc ?_ _)); exact BK124.out)) : gb131 ≠ gb124)); clear HO_4; clear BK124; clear HB; have HO_4 := n0_; have BK124 := n1_; have HB := n2_; have BK131 := n3_; have GW131 := n4_; have GE131 := n5_; have NB124_131 := n6_; have NB131_124 := n7_; clear n0_ n1_ n2_ n3_ n4_ n5_ n6_ n7_; clear hb hbox hg; have hnb27 := NB131_124.out; have hnc27 := NB124_131.out; have hcz28_0 : w26.cell? ⟨gb131, 0, none⟩ = some (.int .i64 0) := (blk_cell BK131.out 0).trans rfl; have hcz28_1 : w26.cell? ⟨gb131, 1, none⟩ = some (.int .i64 0) := (blk_cell BK131.out 1).trans rfl; have hcz28_2 : w26.cell? ⟨gb131, 2, none⟩ = some (.int .i64 0) := (blk_cell BK131.out 2).trans rfl; have hcz28_3 : w26.cell? ⟨gb131, 3, none⟩ = some (.int .i64 0) := (blk_cell BK131.out 3).trans rfl; have hcz28_4 : w26.cell? ⟨gb131, 4, none⟩ = some (.bool false) := (blk_cell BK131.out 4).trans rfl; have hfz28_0 := blk_frozen BK131.out 0; have hfz28_1 := blk_frozen BK131.out 1; have hfz28_2 := blk_frozen BK131.out 2; have hfz28_3 := blk_frozen BK131.out 3; have hfz28_4 := blk_frozen BK131.out 4))
                    repeat (go_quiet (first | ((with_reducible refine gate_dst (N := 6) rfl ?_); refine box_event ?hg (N := 6) ?hd (cs := #[.int .i64 0, .int .i64 0]) (t := 41) ?hr ?_; (case hd => rfl); (case hg => rfl); (case hr => first | (go_simp; done) | (go_simp; rfl)); intro gb124 hg w23 hbox hb; have n0_ := Aside0.mk (Kd.R_below (by (with_reducible repeat (first | apply Kd.R_alloc | apply Kd.R_drewN | apply Kd.R_drew)); exact HO_4.out) hb); have n1_ := Aside0.mk (below_step (by repeat (first | (with_reducible first | exact HB.out | apply below_alloc | apply pw_below_drewN | apply below_drew1) | exact HB.out)) hb); have n2_ := Aside0.mk (hbox); have n3_ := Aside0.mk ((by rw [hg]; exact (below_size (by repeat (first | (with_reducible first | exact HB.out | apply below_alloc | apply pw_below_drewN | apply below_drew1) | exact HB.out))) : w.heap.size ≤ gb124)); have n4_ := Aside0.mk ((by rw [hg]; exact (below_size (by repeat (first | (with_reducible first | exact HB.out | apply below_alloc | apply pw_below_drewN | apply below_drew1) | exact HB.out))) : w.heap.size ≤ gb124)); clear HO_4; clear HB; have HO_4 := n0_; have HB := n1_; have BK124 := n2_; have GW124 := n3_; have GE124 := n4_; clear n0_ n1_ n2_ n3_ n4_; clear hb hbox hg; have hcz24_0 : w23.cell? ⟨gb124, 0, none⟩ = some (.int .i64 0) := (blk_cell BK124.out 0).trans rfl; have hcz24_1 : w23.cell? ⟨gb124, 1, none⟩ = some (.int .i64 0) := (blk_cell BK124.out 1).trans rfl; have hfz24_0 := blk_frozen BK124.out 0; have hfz24_1 := blk_frozen BK124.out 1) | (go_at_call 25; (with_reducible refine (code_may.calls ((rd_T41 l0 x24_1).f0) ((rd_T41 l0 x24_1).f1) t125 t126 t127 t128 t129 false _ A10.out).mono ?_); rintro e w25 ⟨rfl, hb⟩; have n0_ := Aside0.mk (Kd.R_below (by (with_reducible repeat (first | apply Kd.R_alloc | apply Kd.R_drewN | apply Kd.R_drew)); exact (Kd.R_mono (Kd.R_far (p := ⟨gb124, 1, none⟩) (Kd.R_far (p := ⟨gb124, 0, none⟩) (Kd.R_types HO_4.out BK124.out (by decide)) (fun _ hk => hk.2) (.int .i64 ((rd_T41 l0 x24_1).f0))) (fun _ hk => hk.2) (.int .i64 ((rd_T41 l0 x24_1).f1))) (fun _ h_ => h_.1))) hb); have n1_ := Aside0.mk (blk_below (g := gb124) (o := .cells #[.int .i64 ((rd_T41 l0 x24_1).f0), .int .i64 ((rd_T41 l0 x24_1).f1)] 41 (0, 0)) (by (with_reducible repeat (first | refine blk_drewN ?_ _ | refine blk_drew ?_ | refine blk_alloc ?_ _)); refine blk_put (cs := #[.int .i64 ((rd_T41 l0 x24_1).f0), .int .i64 0]) ?_ 1 _ rfl; (with_reducible repeat (first | refine blk_drewN ?_ _ | refine blk_drew ?_ | refine blk_alloc ?_ _)); refine blk_put (cs := #[.int .i64 0, .int .i64 0]) ?_ 0 _ rfl; (with_reducible repeat (first | refine blk_drewN ?_ _ | refine blk_drew ?_ | refine blk_alloc ?_ _)); exact BK124.out) hb); have n2_ := Aside0.mk (below_step (by repeat (first | (with_reducible first | exact HB.out | apply below_alloc | apply pw_below_drewN | apply below_drew1 | refine below_set ?_ GE124.out) | exact HB.out)) hb); clear HO_4; clear BK124; clear HB; have HO_4 := n0_; have BK124 := n1_; have HB := n2_; clear n0_ n1_ n2_; (try clear hb); (try clear hb2); (try clear hk); (try clear hi)) | ((with_reducible refine gate_dst (N := 7) rfl ?_); refine box_event ?hg (N := 7) ?hd (cs := #[.int .i64 0, .int .i64 0, .int .i64 0, .int .i64 0, .bool false]) (t := 56) ?hr ?_; (case hd => rfl); (case hg => rfl); (case hr => first | (go_simp; done) | (go_simp; rfl)); intro gb131 hg w26 hbox hb; have n0_ := Aside0.mk (Kd.R_below (by (with_reducible repeat (first | apply Kd.R_alloc | apply Kd.R_drewN | apply Kd.R_drew)); exact HO_4.out) hb); have n1_ := Aside0.mk (blk_below (g := gb124) (o := .cells #[.int .i64 ((rd_T41 l0 x24_1).f0), .int .i64 ((rd_T41 l0 x24_1).f1)] 41 (0, 0)) (by (with_reducible repeat (first | refine blk_drewN ?_ _ | refine blk_drew ?_ | refine blk_alloc ?_ _)); exact BK124.out) hb); have n2_ := Aside0.mk (below_step (by repeat (first | (with_reducible first | exact HB.out | apply below_alloc | apply pw_below_drewN | apply below_drew1 | refine below_set ?_ GE124.out) | exact HB.out)) hb); have n3_ := Aside0.mk (hbox); have n4_ := Aside0.mk ((by rw [hg]; exact (below_size (by repeat (first | (with_reducible first | exact HB.out | apply below_alloc | apply pw_below_drewN | apply below_drew1 | refine below_set ?_ GE124.out) | exact HB.out))) : w.heap.size ≤ gb131)); have n5_ := Aside0.mk ((by rw [hg]; exact (below_size (by repeat (first | (with_reducible first | exact HB.out | apply below_alloc | apply pw_below_drewN | apply below_drew1 | refine below_set ?_ GE124.out) | exact HB.out))) : w.heap.size ≤ gb131)); have n6_ := Aside0.mk ((by rw [hg]; exact Nat.ne_of_lt (blk_lt (g := gb124) (o := .cells #[.int .i64 ((rd_T41 l0 x24_1).f0), .int .i64 ((rd_T41 l0 x24_1).f1)] 41 (0, 0)) (by (with_reducible repeat (first | refine blk_drewN ?_ _ | refine blk_drew ?_ | refine blk_alloc ?_ _)); exact BK124.out)) : gb124 ≠ gb131)); have n7_ := Aside0.mk ((by rw [hg]; exact Nat.ne_of_gt (blk_lt (g := gb124) (o := .cells #[.int .i64 ((rd_T41 l0 x24_1).f0), .int .i64 ((rd_T41 l0 x24_1).f1)] 41 (0, 0)) (by (with_reducible repeat (first | refine blk_drewN ?_ _ | refine blk_drew ?_ | refine blk_alloc ?_ _)); exact BK124.out)) : gb131 ≠ gb124)); clear HO_4; clear BK124; clear HB; have HO_4 := n0_; have BK124 := n1_; have HB := n2_; have BK131 := n3_; have GW131 := n4_; have GE131 := n5_; have NB124_131 := n6_; have NB131_124 := n7_; clear n0_ n1_ n2_ n3_ n4_ n5_ n6_ n7_; clear hb hbox hg; have hnb27 := NB131_124.out; have hnc27 := NB124_131.out; have hcz28_0 : w26.cell? ⟨gb131, 0, none⟩ = some (.int .i64 0) := (blk_cell BK131.out 0).trans rfl; have hcz28_1 : w26.cell? ⟨gb131, 1, none⟩ = some (.int .i64 0) := (blk_cell BK131.out 1).trans rfl; have hcz28_2 : w26.cell? ⟨gb131, 2, none⟩ = some (.int .i64 0) := (blk_cell BK131.out 2).trans rfl; have hcz28_3 : w26.cell? ⟨gb131, 3, none⟩ = some (.int .i64 0) := (blk_cell BK131.out 3).trans rfl; have hcz28_4 : w26.cell? ⟨gb131, 4, none⟩ = some (.bool false) := (blk_cell BK131.out 4).trans rfl; have hfz28_0 := blk_frozen BK131.out 0; have hfz28_1 := blk_frozen BK131.out 1; have hfz28_2 := blk_frozen BK131.out 2; have hfz28_3 := blk_frozen BK131.out 3; have hfz28_4 := blk_frozen BK131.out 4)); try go_wp2_with (first | ((with_reducible refine gate_dst (N := 6) rfl ?_); refine box_event ?hg (N := 6) ?hd (cs := #[.int .i64 0, .int .i64 0]) (t := 41) ?hr ?_; (case hd => rfl); (case hg => rfl); (case hr => first | (go_simp; done) | (go_simp; rfl)); intro gb124 hg w23 hbox hb; have n0_ := Aside0.mk (Kd.R_below (by (with_reducible repeat (first | apply Kd.R_alloc | apply Kd.R_drewN | apply Kd.R_drew)); exact HO_4.out) hb); have n1_ := Aside0.mk (below_step (by repeat (first | (with_reducible first | exact HB.out | apply below_alloc | apply pw_below_drewN | apply below_drew1) | exact HB.out)) hb); have n2_ := Aside0.mk (hbox); have n3_ := Aside0.mk ((by rw [hg]; exact (below_size (by repeat (first | (with_reducible first | exact HB.out | apply below_alloc | apply pw_below_drewN | apply below_drew1) | exact HB.out))) : w.heap.size ≤ gb124)); have n4_ := Aside0.mk ((by rw [hg]; exact (below_size (by repeat (first | (with_reducible first | exact HB.out | apply below_alloc | apply pw_below_drewN | apply below_drew1) | exact HB.out))) : w.heap.size ≤ gb124)); clear HO_4; clear HB; have HO_4 := n0_; have HB := n1_; have BK124 := n2_; have GW124 := n3_; have GE124 := n4_; clear n0_ n1_ n2_ n3_ n4_; clear hb hbox hg; have hcz24_0 : w23.cell? ⟨gb124, 0, none⟩ = some (.int .i64 0) := (blk_cell BK124.out 0).trans rfl; have hcz24_1 : w23.cell? ⟨gb124, 1, none⟩ = some (.int .i64 0) := (blk_cell BK124.out 1).trans rfl; have hfz24_0 := blk_frozen BK124.out 0; have hfz24_1 := blk_frozen BK124.out 1) | (go_at_call 25; (with_reducible refine (code_may.calls ((rd_T41 l0 x24_1).f0) ((rd_T41 l0 x24_1).f1) t125 t126 t127 t128 t129 false _ A10.out).mono ?_); rintro e w25 ⟨rfl, hb⟩; have n0_ := Aside0.mk (Kd.R_below (by (with_reducible repeat (first | apply Kd.R_alloc | apply Kd.R_drewN | apply Kd.R_drew)); exact (Kd.R_mono (Kd.R_far (p := ⟨gb124, 1, none⟩) (Kd.R_far (p := ⟨gb124, 0, none⟩) (Kd.R_types HO_4.out BK124.out (by decide)) (fun _ hk => hk.2) (.int .i64 ((rd_T41 l0 x24_1).f0))) (fun _ hk => hk.2) (.int .i64 ((rd_T41 l0 x24_1).f1))) (fun _ h_ => h_.1))) hb); have n1_ := Aside0.mk (blk_below (g := gb124) (o := .cells #[.int .i64 ((rd_T41 l0 x24_1).f0), .int .i64 ((rd_T41 l0 x24_1).f1)] 41 (0, 0)) (by (with_reducible repeat (first | refine blk_drewN ?_ _ | refine blk_drew ?_ | refine blk_alloc ?_ _)); refine blk_put (cs := #[.int .i64 ((rd_T41 l0 x24_1).f0), .int .i64 0]) ?_ 1 _ rfl; (with_reducible repeat (first | refine blk_drewN ?_ _ | refine blk_drew ?_ | refine blk_alloc ?_ _)); refine blk_put (cs := #[.int .i64 0, .int .i64 0]) ?_ 0 _ rfl; (with_reducible repeat (first | refine blk_drewN ?_ _ | refine blk_drew ?_ | refine blk_alloc ?_ _)); exact BK124.out) hb); have n2_ := Aside0.mk (below_step (by repeat (first | (with_reducible first | exact HB.out | apply below_alloc | apply pw_below_drewN | apply below_drew1 | refine below_set ?_ GE124.out) | exact HB.out)) hb); clear HO_4; clear BK124; clear HB; have HO_4 := n0_; have BK124 := n1_; have HB := n2_; clear n0_ n1_ n2_; (try clear hb); (try clear hb2); (try clear hk); (try clear hi)) | ((with_reducible refine gate_dst (N := 7) rfl ?_); refine box_event ?hg (N := 7) ?hd (cs := #[.int .i64 0, .int .i64 0, .int .i64 0, .int .i64 0, .bool false]) (t := 56) ?hr ?_; (case hd => rfl); (case hg => rfl); (case hr => first | (go_simp; done) | (go_simp; rfl)); intro gb131 hg w26 hbox hb; have n0_ := Aside0.mk (Kd.R_below (by (with_reducible repeat (first | apply Kd.R_alloc | apply Kd.R_drewN | apply Kd.R_drew)); exact HO_4.out) hb); have n1_ := Aside0.mk (blk_below (g := gb124) (o := .cells #[.int .i64 ((rd_T41 l0 x24_1).f0), .int .i64 ((rd_T41 l0 x24_1).f1)] 41 (0, 0)) (by (with_reducible repeat (first | refine blk_drewN ?_ _ | refine blk_drew ?_ | refine blk_alloc ?_ _)); exact BK124.out) hb); have n2_ := Aside0.mk (below_step (by repeat (first | (with_reducible first | exact HB.out | apply below_alloc | apply pw_below_drewN | apply below_drew1 | refine below_set ?_ GE124.out) | exact HB.out)) hb); have n3_ := Aside0.mk (hbox); have n4_ := Aside0.mk ((by rw [hg]; exact (below_size (by repeat (first | (with_reducible first | exact HB.out | apply below_alloc | apply pw_below_drewN | apply below_drew1 | refine below_set ?_ GE124.out) | exact HB.out))) : w.heap.size ≤ gb131)); have n5_ := Aside0.mk ((by rw [hg]; exact (below_size (by repeat (first | (with_reducible first | exact HB.out | apply below_alloc | apply pw_below_drewN | apply below_drew1 | refine below_set ?_ GE124.out) | exact HB.out))) : w.heap.size ≤ gb131)); have n6_ := Aside0.mk ((by rw [hg]; exact Nat.ne_of_lt (blk_lt (g := gb124) (o := .cells #[.int .i64 ((rd_T41 l0 x24_1).f0), .int .i64 ((rd_T41 l0 x24_1).f1)] 41 (0, 0)) (by (with_reducible repeat (first | refine blk_drewN ?_ _ | refine blk_drew ?_ | refine blk_alloc ?_ _)); exact BK124.out)) : gb124 ≠ gb131)); have n7_ := Aside0.mk ((by rw [hg]; exact Nat.ne_of_gt (blk_lt (g := gb124) (o := .cells #[.int .i64 ((rd_T41 l0 x24_1).f0), .int .i64 ((rd_T41 l0 x24_1).f1)] 41 (0, 0)) (by (with_reducible repeat (first | refine blk_drewN ?_ _ | refine blk_drew ?_ | refine blk_alloc ?_ _)); exact BK124.out)) : gb131 ≠ gb124)); clear HO_4; clear BK124; clear HB; have HO_4 := n0_; have BK124 := n1_; have HB := n2_; have BK131 := n3_; have GW131 := n4_; have GE131 := n5_; have NB124_131 := n6_; have NB131_124 := n7_; clear n0_ n1_ n2_ n3_ n4_ n5_ n6_ n7_; clear hb hbox hg; have hnb27 := NB131_124.out; have hnc27 := NB124_131.out; have hcz28_0 : w26.cell? ⟨gb131, 0, none⟩ = some (.int .i64 0) := (blk_cell BK131.out 0).trans rfl; have hcz28_1 : w26.cell? ⟨gb131, 1, none⟩ = some (.int .i64 0) := (blk_cell BK131.out 1).trans rfl; have hcz28_2 : w26.cell? ⟨gb131, 2, none⟩ = some (.int .i64 0) := (blk_cell BK131.out 2).trans rfl; have hcz28_3 : w26.cell? ⟨gb131, 3, none⟩ = some (.int .i64 0) := (blk_cell BK131.out 3).trans rfl; have hcz28_4 : w26.cell? ⟨gb131, 4, none⟩ = some (.bool false) := (blk_cell BK131.out 4).trans rfl; have hfz28_0 := blk_frozen BK131.out 0; have hfz28_1 := blk_frozen BK131.out 1; have hfz28_2 := blk_frozen BK131.out 2; have hfz28_3 := blk_frozen BK131.out 3; have hfz28_4 := blk_frozen BK131.out 4)))
                    go_ret2
                    exact ⟨_, by first | rfl | (simp [errW_none, errW_some] <;> rfl) | (simp [*, errW_none, errW_some] <;> rfl), by first | exact Kd.R_nil _ _ _ _ _ | exact Kd.N_nil _ _ _ _ _ | exact Kd.V_nil _ _ _ _ _ | exact Kd.Q_nil _ _ _ _ _ | exact Kd.S_nil _ _ _ _ _, by repeat (first | (with_reducible first | exact HB.out | apply below_alloc | apply pw_below_drewN | apply below_drew1 | refine below_set ?_ GE124.out | refine below_set ?_ GE131.out) | exact HB.out)⟩
                · rw [if_neg c9] at H
                  exact absurd H (by simp)
              · rw [if_neg c8] at H
                exact absurd H (by simp)
            · rw [if_neg c7] at H
              have c7b0 : decide (x24_1 < (l0.length : Int)) = false := decide_eq_false c7
              clear c7
              by_cases c29 : (l0.length : Int) = 0
              · rw [if_pos c29] at H
                have c29b0 : ((l0.length : Int) == 0) = true := beq_iff_eq.mpr c29
                have c29b1 : ((l0.length : Int) != 0) = false := bne_eq_false_iff_eq.mpr c29
                clear c29
                simp only [Option.some.injEq, Prod.mk.injEq] at H
                obtain ⟨rfl, rfl⟩ := H
                go_wp2
                repeat (go_quiet (fail); try go_wp2)
                go_ret2
                exact ⟨_, by first | rfl | (simp [errW_none, errW_some] <;> rfl) | (simp [*, errW_none, errW_some] <;> rfl), by first | exact Kd.R_nil _ _ _ _ _ | exact Kd.N_nil _ _ _ _ _ | exact Kd.V_nil _ _ _ _ _ | exact Kd.Q_nil _ _ _ _ _ | exact Kd.S_nil _ _ _ _ _, by repeat (first | (with_reducible first | exact HB.out | apply below_alloc | apply pw_below_drewN | apply below_drew1) | exact HB.out)⟩
              · rw [if_neg c29] at H
                have c29b0 : ((l0.length : Int) == 0) = false := beq_eq_false_iff_ne.mpr c29
                have c29b1 : ((l0.length : Int) != 0) = true := bne_iff_ne.mpr c29
                have c29b2 : ¬ (l0 = []) := fun h_ => c29 (by rw [h_]; rfl)
                by_cases c30 : 0 < (x4_1.length : Int)
                · rw [if_pos c30] at H
                  have c30b0 : decide (0 < (x4_1.length : Int)) = true := decide_eq_true c30
                  have c30b1 : decide (0 < x4_1.length) = true := decide_eq_true (by omega)
                  clear c30
                  obtain ⟨y133, hy133⟩ : ∃ y_ : List Int, y_ = (x4_1.set (0 : Int).toNat 0) := ⟨_, rfl⟩
                  replace H : (code_Depths.l1 k1 l0 y133 (([0] : List Int))) = some (r1, r2) := by first | (rw [hy133]; with_reducible exact H) | (have H2_ := (Option.bind_some _ _).symm.trans H; rw [hy133]; with_reducible exact H2_) | (have H2_ := (Option.bind_some _ _).symm.trans H; with_reducible exact H2_) | with_reducible exact H | (rw [hy133]; exact H) | exact H
                  have Ny133 := Aside0.mk hy133
                  clear hy133
                  obtain ⟨y134, hy134⟩ : ∃ y_ : List Int, y_ = (([0] : List Int)) := ⟨_, rfl⟩
                  replace H : (code_Depths.l1 k1 l0 y133 y134) = some (r1, r2) := by first | (rw [hy134]; with_reducible exact H) | (have H2_ := (Option.bind_some _ _).symm.trans H; rw [hy134]; with_reducible exact H2_) | (have H2_ := (Option.bind_some _ _).symm.trans H; with_reducible exact H2_) | with_reducible exact H | (rw [hy134]; exact H) | exact H
                  have Ny134 := Aside0.mk hy134
                  clear hy134
                  have H' := Aside0.mk H
                  clear H
                  have p31 : 0 ≤ (0 : Int) := (by omega)
                  have q31 : (0 : Int) < ((x4_1.length : Int) : Int) := of_decide_eq_true (by first | (with_reducible assumption) | assumption)
                  have qi31 : (0 < x4_1.length) = True := eq_true (by omega)
                  obtain ⟨go31, co31, eo31, gb31, gl31, cl31, HG31⟩ := Kd.R_form HO_4.out (by omega)
                  (first | cases eo31 | (injection eo31 with ea_ en_ ec_; (first | subst ea_ | (injection ea_ with ea_; subst ea_)); subst ec_; clear en_))
                  have GB31 := Aside0.mk gb31
                  have GG31 := Aside0.mk HG31
                  clear gb31 gl31 HG31
                  obtain ⟨hx31_0, hf31_0⟩ := Kd.R_celln 0 HO_4.out (0 : Int) p31 q31
                  (try rw [show ((0 : Int)).toNat = 0 from rfl] at hx31_0)
                  (try simp only [Nat.reduceMul, Nat.zero_mul, Nat.zero_add, Nat.reduceAdd] at hx31_0)
                  (try rw [show ((0 : Int)).toNat = 0 from rfl] at hf31_0)
                  (try simp only [Nat.reduceMul, Nat.zero_mul, Nat.zero_add, Nat.reduceAdd] at hf31_0)
                  replace p31 := eq_true p31
                  replace q31 := eq_true q31
                  have HP32 := Kd.R_putg HO_4.out (0 : Int) 0
                  go_wp2_with (first | ((with_reducible refine gate_store (t := 3) (p := 44) rfl ?_); (try (rw [drewN_self wr]; generalize hq_ : World.drewN wr _ = wr; have n0_ := Aside0.mk (Kd.R_at hq_ HO_4.out); have n1_ := Aside0.mk (below_at hq_ HB.out); clear hq_ HO_4 HB; have HO_4 := n0_; have HB := n1_; clear n0_ n1_; (try (have HP32 := Kd.R_putg HO_4.out (0 : Int) 0)))); refine store_event (t := 3) (p := 44) (v := ?vo_w33) (w1 := (wr.setCell ⟨go31, (0 : Int).toNat, none⟩ (.int .i64 0))) ?hg ?ho ?hn ?hr ?_; (case ho => rfl); (case hg => rfl); (case hn => rfl); (case hr => first | (go_simp; done) | (go_simp; rfl)); intro w33 hw; have hg : wr.grownBy w33 (some go31) := (by rw [hw]; exact HP32.2); have hp_ : Kd.R (Kd.int .i64) 3 w33 w.heap.size (fun _ => True) (.slice (some ⟨go31, 0, none⟩) x4_1.length co31) y133 := (by rw [hw, Ny133.out]; exact HP32.1); clear HP32; have n0_ := Aside0.mk (hp_); have n1_ := Aside0.mk ((by rw [hw]; exact below_set (HB.out) GB31.out : Below w.heap.size w w33)); clear HO_4; clear HB; have HO_4 := n0_; have HB := n1_; clear n0_ n1_; clear hg hw hp_) | ((with_reducible refine gate_dst (N := 45) rfl ?_); refine Kd.R_lit (Kd.int .i64) _ 3 ?hg (N := 45) ?hd (xs := ([0] : List Int)) (inner := [.int .i64 0]) (ok := fun _ => True) (okp := fun _ => True) ?hr ?hp (fun _ hk => hk) trivial (Below.refl _ _) (Nat.le_refl _) (by simp) ?_; (case hd => rfl); (case hg => rfl); (case hr => first | (go_simp; done) | (go_simp; rfl)); (case hp => exact (Reps.one (show Kd.M (Kd.int .i64) _ _ _ 0 [.int .i64 0] from rfl) (Reps.none _ _))); intro v135 w34 ho35 hb hg_ hnew_; clear hg_ hnew_; (first | rw [← Ny134.out] at ho35 | (simp only [Int.reduceToNat] at ho35; rw [← Ny134.out] at ho35)); have n0_ := Aside0.mk (Kd.R_elder' (by (with_reducible repeat (first | apply Kd.R_alloc | apply Kd.R_drewN | apply Kd.R_drew)); exact HO_4.out) (Kd.R_base ho35) hb); have n1_ := Aside0.mk (Kd.R_lower (Kd.R_new' ho35 (Kd.R_lt (by (with_reducible repeat (first | apply Kd.R_alloc | apply Kd.R_drewN | apply Kd.R_drew)); exact HO_4.out))) (below_size (by repeat (first | (with_reducible first | exact HB.out | apply below_alloc | apply pw_below_drewN | apply below_drew1) | exact HB.out)))); have n2_ := Aside0.mk (below_step (by repeat (first | (with_reducible first | exact HB.out | apply below_alloc | apply pw_below_drewN | apply below_drew1) | exact HB.out)) hb); clear HO_4; clear HB; have HO_4 := n0_; have HO136 := n1_; have HB := n2_; clear n0_ n1_ n2_; clear hb ho35))
                  repeat (go_quiet (first | ((with_reducible refine gate_store (t := 3) (p := 44) rfl ?_); (try (rw [drewN_self wr]; generalize hq_ : World.drewN wr _ = wr; have n0_ := Aside0.mk (Kd.R_at hq_ HO_4.out); have n1_ := Aside0.mk (below_at hq_ HB.out); clear hq_ HO_4 HB; have HO_4 := n0_; have HB := n1_; clear n0_ n1_; (try (have HP32 := Kd.R_putg HO_4.out (0 : Int) 0)))); refine store_event (t := 3) (p := 44) (v := ?vo_w33) (w1 := (wr.setCell ⟨go31, (0 : Int).toNat, none⟩ (.int .i64 0))) ?hg ?ho ?hn ?hr ?_; (case ho => rfl); (case hg => rfl); (case hn => rfl); (case hr => first | (go_simp; done) | (go_simp; rfl)); intro w33 hw; have hg : wr.grownBy w33 (some go31) := (by rw [hw]; exact HP32.2); have hp_ : Kd.R (Kd.int .i64) 3 w33 w.heap.size (fun _ => True) (.slice (some ⟨go31, 0, none⟩) x4_1.length co31) y133 := (by rw [hw, Ny133.out]; exact HP32.1); clear HP32; have n0_ := Aside0.mk (hp_); have n1_ := Aside0.mk ((by rw [hw]; exact below_set (HB.out) GB31.out : Below w.heap.size w w33)); clear HO_4; clear HB; have HO_4 := n0_; have HB := n1_; clear n0_ n1_; clear hg hw hp_) | ((with_reducible refine gate_dst (N := 45) rfl ?_); refine Kd.R_lit (Kd.int .i64) _ 3 ?hg (N := 45) ?hd (xs := ([0] : List Int)) (inner := [.int .i64 0]) (ok := fun _ => True) (okp := fun _ => True) ?hr ?hp (fun _ hk => hk) trivial (Below.refl _ _) (Nat.le_refl _) (by simp) ?_; (case hd => rfl); (case hg => rfl); (case hr => first | (go_simp; done) | (go_simp; rfl)); (case hp => exact (Reps.one (show Kd.M (Kd.int .i64) _ _ _ 0 [.int .i64 0] from rfl) (Reps.none _ _))); intro v135 w34 ho35 hb hg_ hnew_; clear hg_ hnew_; (first | rw [← Ny134.out] at ho35 | (simp only [Int.reduceToNat] at ho35; rw [← Ny134.out] at ho35)); have n0_ := Aside0.mk (Kd.R_elder' (by (with_reducible repeat (first | apply Kd.R_alloc | apply Kd.R_drewN | apply Kd.R_drew)); exact HO_4.out) (Kd.R_base ho35) hb); have n1_ := Aside0.mk (Kd.R_lower (Kd.R_new' ho35 (Kd.R_lt (by (with_reducible repeat (first | apply Kd.R_alloc | apply Kd.R_drewN | apply Kd.R_drew)); exact HO_4.out))) (below_size (by repeat (first | (with_reducible first | exact HB.out | apply below_alloc | apply pw_below_drewN | apply below_drew1) | exact HB.out)))); have n2_ := Aside0.mk (below_step (by repeat (first | (with_reducible first | exact HB.out | apply below_alloc | apply pw_below_drewN | apply below_drew1) | exact HB.out)) hb); clear HO_4; clear HB; have HO_4 := n0_; have HO136 := n1_; have HB := n2_; clear n0_ n1_ n2_; clear hb ho35)); try go_wp2_with (first | ((with_reducible refine gate_store (t := 3) (p := 44) rfl ?_); (try (rw [drewN_self wr]; generalize hq_ : World.drewN wr _ = wr; have n0_ := Aside0.mk (Kd.R_at hq_ HO_4.out); have n1_ := Aside0.mk (below_at hq_ HB.out); clear hq_ HO_4 HB; have HO_4 := n0_; have HB := n1_; clear n0_ n1_; (try (have HP32 := Kd.R_putg HO_4.out (0 : Int) 0)))); refine store_event (t := 3) (p := 44) (v := ?vo_w33) (w1 := (wr.setCell ⟨go31, (0 : Int).toNat, none⟩ (.int .i64 0))) ?hg ?ho ?hn ?hr ?_; (case ho => rfl); (case hg => rfl); (case hn => rfl); (case hr => first | (go_simp; done) | (go_simp; rfl)); intro w33 hw; have hg : wr.grownBy w33 (some go31) := (by rw [hw]; exact HP32.2); have hp_ : Kd.R (Kd.int .i64) 3 w33 w.heap.size (fun _ => True) (.slice (some ⟨go31, 0, none⟩) x4_1.length co31) y133 := (by rw [hw, Ny133.out]; exact HP32.1); clear HP32; have n0_ := Aside0.mk (hp_); have n1_ := Aside0.mk ((by rw [hw]; exact below_set (HB.out) GB31.out : Below w.heap.size w w33)); clear HO_4; clear HB; have HO_4 := n0_; have HB := n1_; clear n0_ n1_; clear hg hw hp_) | ((with_reducible refine gate_dst (N := 45) rfl ?_); refine Kd.R_lit (Kd.int .i64) _ 3 ?hg (N := 45) ?hd (xs := ([0] : List Int)) (inner := [.int .i64 0]) (ok := fun _ => True) (okp := fun _ => True) ?hr ?hp (fun _ hk => hk) trivial (Below.refl _ _) (Nat.le_refl _) (by simp) ?_; (case hd => rfl); (case hg => rfl); (case hr => first | (go_simp; done) | (go_simp; rfl)); (case hp => exact (Reps.one (show Kd.M (Kd.int .i64) _ _ _ 0 [.int .i64 0] from rfl) (Reps.none _ _))); intro v135 w34 ho35 hb hg_ hnew_; clear hg_ hnew_; (first | rw [← Ny134.out] at ho35 | (simp only [Int.reduceToNat] at ho35; rw [← Ny134.out] at ho35)); have n0_ := Aside0.mk (Kd.R_elder' (by (with_reducible repeat (first | apply Kd.R_alloc | apply Kd.R_drewN | apply Kd.R_drew)); exact HO_4.out) (Kd.R_base ho35) hb); have n1_ := Aside0.mk (Kd.R_lower (Kd.R_new' ho35 (Kd.R_lt (by (with_reducible repeat (first | apply Kd.R_alloc | apply Kd.R_drewN | apply Kd.R_drew)); exact HO_4.out))) (below_size (by repeat (first | (with_reducible first | exact HB.out | apply below_alloc | apply pw_below_drewN | apply below_drew1) | exact HB.out)))); have n2_ := Aside0.mk (below_step (by repeat (first | (with_reducible first | exact HB.out | apply below_alloc | apply pw_below_drewN | apply below_drew1) | exact HB.out)) hb); clear HO_4; clear HB; have HO_4 := n0_; have HO136 := n1_; have HB := n2_; clear n0_ n1_ n2_; clear hb ho35)))
                  go_loopg [9] k1 (fun kq v9 w' => ∃ (x4_2 : List Int) (x9_2 : List Int), Aside0 (code_Depths.l1 kq l0 x4_2 x9_2 = some (r1, r2)) ∧ Aside0 (kq ≤ k1) ∧ Aside0 (Kd.R (Kd.int .i64) 3 w' w.heap.size (fun k_ => some k_ ≠ (v9 : Value).ownBlock) (.slice (some ⟨go31, 0, none⟩) x4_1.length co31) x4_2) ∧ Aside0 (Kd.R (Kd.int .i64) 3 w' w.heap.size (fun k_ => some k_ ≠ ((.slice (some ⟨go31, 0, none⟩) x4_1.length co31) : Value).ownBlock) v9 x9_2) ∧ Aside0 (Below w.heap.size w w'))
                  case atStart => exact ⟨(y133), (y134), H', ⟨Nat.le_refl _⟩, ⟨by (with_reducible repeat (first | apply Kd.R_alloc | apply Kd.R_drewN | apply Kd.R_drew)); exact Kd.R_mono HO_4.out (fun _ hk => hk.2)⟩, ⟨by (with_reducible repeat (first | apply Kd.R_alloc | apply Kd.R_drewN | apply Kd.R_drew)); exact Kd.R_mono HO136.out (fun _ hk => hk.2)⟩, ⟨by repeat (first | (with_reducible first | exact HB.out | apply below_alloc | apply pw_below_drewN | apply below_drew1) | exact HB.out)⟩⟩
                  case round =>
                    clear H'
                    try clear c1
                    try clear p1
                    try clear q1
                    try clear hx1
                    try clear hf1
                    try clear c2
                    try clear c2b0
                    try clear c2b1
                    try clear p2
                    try clear c3
                    try clear c3b0
                    try clear c3b1
                    try clear p3
                    try clear q3
                    try clear hx3
                    try clear qi3
                    try clear hf3
                    try clear c4
                    try clear c4b0
                    try clear c4b1
                    try clear p6
                    try clear c7
                    try clear c7b0
                    try clear c8
                    try clear c8b0
                    try clear c9
                    try clear c9b0
                    try clear c11
                    try clear c12
                    try clear c12b0
                    try clear p12
                    try clear q12
                    try clear hx12
                    try clear p13
                    try clear q13
                    try clear hx13
                    try clear hf13
                    try clear c18
                    try clear c27
                    try clear c29
                    try clear c29b0
                    try clear c29b1
                    try clear c29b2
                    try clear c30
                    try clear c30b0
                    try clear c30b1
                    try clear p31
                    try clear q31
                    try clear hx31
                    try clear qi31
                    try clear hf31
                    try clear hcz15_0
                    try clear hcz15_1
                    try clear hcz19_0
                    try clear hcz19_1
                    try clear hcz19_2
                    try clear hcz19_3
                    try clear hcz19_4
                    try clear hcz24_0
                    try clear hcz24_1
                    try clear hcz28_0
                    try clear hcz28_1
                    try clear hcz28_2
                    try clear hcz28_3
                    try clear hcz28_4
                    try clear hfz15_0
                    try clear hfz15_1
                    try clear hfz19_0
                    try clear hfz19_1
                    try clear hfz19_2
                    try clear hfz19_3
                    try clear hfz19_4
                    try clear hfz24_0
                    try clear hfz24_1
                    try clear hfz28_0
                    try clear hfz28_1
                    try clear hfz28_2
                    try clear hfz28_3
                    try clear hfz28_4
                    try clear hx123_0
                    try clear hx123_1
                    try clear hx13_0
                    try clear hx31_0
                    try clear p123
                    try clear p13
                    try clear p2
                    try clear p31
                    try clear q123
                    try clear q13
                    try clear q31
                    obtain ⟨x4_2, x9_2, HA, HK2, HO_4, HO_9, HB⟩ := hrel
                    have hl4_2 := (Kd.R_reads' HO_4.out).1
                    rw [hl4_2] at HO_4
                    (try simp only [hl4_2])
                    (try simp only [hl4_2] at HO_9)
                    cases gk with
                    | zero => exact absurd HA.out (by simp [code_Depths.l1])
                    | succ k2 =>
                      have H := HA.out
                      clear HA
                      simp only [code_Depths.l1] at H
                      by_cases c36 : (x9_2.length : Int) > 0
                      · rw [if_pos c36] at H
                        have c36b0 : decide (0 < (x9_2.length : Int)) = true := decide_eq_true c36
                        have c36b1 : decide (0 < x9_2.length) = true := decide_eq_true (by omega)
                        clear c36
                        obtain ⟨ji37, hji37⟩ : ∃ j_ : Int, (wrap64 ((x9_2.length : Int) - 1)) = j_ := ⟨_, rfl⟩
                        replace H : (if 0 ≤ (ji37) then (if (ji37) < (x9_2.length : Int) then (if (ji37) ≤ (x9_2.length : Int) then ((some (x9_2.take ((ji37) : Int).toNat : List Int)).bind fun y138 => (if 0 ≤ (rd x9_2 (ji37)) then (if (rd x9_2 (ji37)) < (l0.length : Int) then ((code_may.f ((rd_T41 l0 (rd x9_2 (ji37))).f0) ((rd_T41 l0 (rd x9_2 (ji37))).f1)).bind fun bt142 => (if (rd x9_2 (ji37)) < (x4_2.length : Int) then (if (rd x4_2 (rd x9_2 (ji37))) < bt142.1 then (code_Depths.j2 k2 l0 x4_2 y138 (rd x9_2 (ji37)) (wrap64 ((wrap64 ((rd x4_2 (rd x9_2 (ji37))) - bt142.1)) + bt142.2.1)) true) else (code_Depths.j2 k2 l0 x4_2 y138 (rd x9_2 (ji37)) (wrap64 ((wrap64 ((rd x4_2 (rd x9_2 (ji37))) - bt142.1)) + bt142.2.1)) (decide ((wrap64 ((wrap64 ((rd x4_2 (rd x9_2 (ji37))) - bt142.1)) + bt142.2.1)) > 16)))) else (none))) else (none)) else (none))) else (none)) else (none)) else (none)) = some (r1, r2) := by first | (rw [hji37] at H; exact H) | (simp only [hji37] at H ⊢; exact H)
                        have hji37w : (IntKind.i64.wrap ((x9_2.length : Int) - 1)) = ji37 := (i64_w _).trans hji37
                        by_cases c38 : 0 ≤ (ji37)
                        · rw [if_pos c38] at H
                          have c38b0 : decide (0 ≤ (ji37)) = true := decide_eq_true c38
                          clear c38
                          by_cases c39 : (ji37) < (x9_2.length : Int)
                          · rw [if_pos c39] at H
                            have c39b0 : decide ((ji37) < (x9_2.length : Int)) = true := decide_eq_true c39
                            clear c39
                            by_cases c40 : (ji37) ≤ (x9_2.length : Int)
                            · rw [if_pos c40] at H
                              have c40b0 := eq_true c40
                              have c40b1 : decide ((ji37) ≤ (x9_2.length : Int)) = true := decide_eq_true c40
                              clear c40
                              obtain ⟨y138, hy138⟩ : ∃ y_ : List Int, y_ = (x9_2.take ((ji37) : Int).toNat) := ⟨_, rfl⟩
                              replace H : (if 0 ≤ (rd x9_2 (ji37)) then (if (rd x9_2 (ji37)) < (l0.length : Int) then ((code_may.f ((rd_T41 l0 (rd x9_2 (ji37))).f0) ((rd_T41 l0 (rd x9_2 (ji37))).f1)).bind fun bt142 => (if (rd x9_2 (ji37)) < (x4_2.length : Int) then (if (rd x4_2 (rd x9_2 (ji37))) < bt142.1 then (code_Depths.j2 k2 l0 x4_2 y138 (rd x9_2 (ji37)) (wrap64 ((wrap64 ((rd x4_2 (rd x9_2 (ji37))) - bt142.1)) + bt142.2.1)) true) else (code_Depths.j2 k2 l0 x4_2 y138 (rd x9_2 (ji37)) (wrap64 ((wrap64 ((rd x4_2 (rd x9_2 (ji37))) - bt142.1)) + bt142.2.1)) (decide ((wrap64 ((wrap64 ((rd x4_2 (rd x9_2 (ji37))) - bt142.1)) + bt142.2.1)) > 16)))) else (none))) else (none)) else (none)) = some (r1, r2) := by first | (rw [hy138]; with_reducible exact H) | (have H2_ := (Option.bind_some _ _).symm.trans H; rw [hy138]; with_reducible exact H2_) | (have H2_ := (Option.bind_some _ _).symm.trans H; with_reducible exact H2_) | with_reducible exact H | (rw [hy138]; exact H) | exact H
                              have Ny138 := Aside0.mk hy138
                              clear hy138
                              by_cases c41 : 0 ≤ (rd x9_2 (ji37))
                              · rw [if_pos c41] at H
                                have c41b0 : decide (0 ≤ (rd x9_2 (ji37))) = true := decide_eq_true c41
                                clear c41
                                by_cases c42 : (rd x9_2 (ji37)) < (l0.length : Int)
                                · rw [if_pos c42] at H
                                  have c42b0 : decide ((rd x9_2 (ji37)) < (l0.length : Int)) = true := decide_eq_true c42
                                  clear c42
                                  replace H := Option.bind_eq_some_iff.mp H
                                  obtain ⟨⟨t142, t143, t144, t145, t146, t147⟩, A430, H⟩ := H
                                  replace H : (if (rd x9_2 (ji37)) < (x4_2.length : Int) then (if (rd x4_2 (rd x9_2 (ji37))) < t142 then (code_Depths.j2 k2 l0 x4_2 y138 (rd x9_2 (ji37)) (wrap64 ((wrap64 ((rd x4_2 (rd x9_2 (ji37))) - t142)) + t143)) true) else (code_Depths.j2 k2 l0 x4_2 y138 (rd x9_2 (ji37)) (wrap64 ((wrap64 ((rd x4_2 (rd x9_2 (ji37))) - t142)) + t143)) (decide ((wrap64 ((wrap64 ((rd x4_2 (rd x9_2 (ji37))) - t142)) + t143)) > 16)))) else (none)) = some (r1, r2) := H
                                  have A43 := Aside0.mk A430
                                  clear A430
                                  by_cases c44 : (rd x9_2 (ji37)) < (x4_2.length : Int)
                                  · rw [if_pos c44] at H
                                    have c44b0 : decide ((rd x9_2 (ji37)) < (x4_2.length : Int)) = true := decide_eq_true c44
                                    clear c44
                                    have HC45 := Aside0.mk H
                                    clear H
                                    obtain ⟨Ao46, co46, eo46⟩ := Kd.R_slice HO_9.out
                                    subst eo46
                                    have p137 : 0 ≤ ((ji37) : Int) := of_decide_eq_true (by first | (with_reducible assumption) | assumption)
                                    have q137 : (ji37) < (x9_2.length : Int) := of_decide_eq_true (by first | (with_reducible assumption) | assumption)
                                    obtain ⟨ad137, e137, hx137_0⟩ := Kd.at_int (Kd.R_reads' HO_9.out).2.2 (ji37) p137 q137
                                    cases e137
                                    replace p137 := eq_true p137
                                    replace q137 := eq_true q137
                                    have q47 : ((ji37) : Int) ≤ ((x9_2.length : Int) : Int) := of_decide_eq_true (by first | (with_reducible assumption) | assumption)
                                    obtain ⟨i047, hi047, _, hsz47, _⟩ := info_parts info3
                                    have hcut47 := cut_to (P := Try.prog) 24 3 .i64 Try.underlying24 hi047 (some ad137) x9_2.length co46 (ji37) (of_decide_eq_true (by first | (with_reducible assumption) | assumption)) q47 (Kd.R_reads' HO_9.out).2.1
                                    have hr47 := Kd.R_take (m := ((ji37) : Int).toNat) HO_9.out (by omega)
                                    have hy47 : y138.length = ((ji37) : Int).toNat := (by rw [Ny138.out, List.length_take]; omega)
                                    rw [← Ny138.out] at hr47
                                    rw [← hy47] at hr47 hcut47
                                    clear hy47 hi047 hsz47 HO_9
                                    have HO140 := Aside0.mk hr47
                                    clear hr47
                                    replace q47 := eq_true q47
                                    have p141 : 0 ≤ ((rd x9_2 (ji37)) : Int) := of_decide_eq_true (by first | (with_reducible assumption) | assumption)
                                    have q141 : (rd x9_2 (ji37)) < (l0.length : Int) := of_decide_eq_true (by first | (with_reducible assumption) | assumption)
                                    obtain ⟨ad141, e141, hx141_0, hx141_1⟩ := at_T41 HR0.out (rd x9_2 (ji37)) p141 q141
                                    cases e141
                                    replace hx141_0 := (HB.out.cell (World.block_lt_of_cell? w _ hx141_0)).trans hx141_0
                                    replace hx141_1 := (HB.out.cell (World.block_lt_of_cell? w _ hx141_1)).trans hx141_1
                                    replace p141 := eq_true p141
                                    replace q141 := eq_true q141
                                    go_upto_region 21 with (first | (go_at_call 25; (with_reducible refine (code_may.calls ((rd_T41 l0 (rd x9_2 (ji37))).f0) ((rd_T41 l0 (rd x9_2 (ji37))).f1) t142 t143 t144 t145 t146 t147 _ A43.out).mono ?_); rintro e w48 ⟨rfl, hb⟩; have n0_ := Aside0.mk (Kd.R_below (by (with_reducible repeat (first | apply Kd.R_alloc | apply Kd.R_drewN | apply Kd.R_drew)); exact HO_4.out) hb); have n1_ := Aside0.mk (Kd.R_below (by (with_reducible repeat (first | apply Kd.R_alloc | apply Kd.R_drewN | apply Kd.R_drew)); exact HO140.out) hb); have n2_ := Aside0.mk (below_step (by repeat (first | (with_reducible first | exact HB.out | apply below_alloc | apply pw_below_drewN | apply below_drew1) | exact HB.out)) hb); clear HO_4; clear HO140; clear HB; have HO_4 := n0_; have HO140 := n1_; have HB := n2_; clear n0_ n1_ n2_; (try clear hb); (try clear hb2); (try clear hk); (try clear hi)) | ((with_reducible refine gate_dst (N := 11) rfl ?_); refine box_event ?hg (N := 11) ?hd (cs := #[.int .i64 0, .int .i64 0, .int .i64 0, .int .i64 0, .bool false]) (t := 56) ?hr ?_; (case hd => rfl); (case hg => rfl); (case hr => first | (go_simp; done) | (go_simp; rfl)); intro gb148 hg w49 hbox hb; have n0_ := Aside0.mk (Kd.R_below (by (with_reducible repeat (first | apply Kd.R_alloc | apply Kd.R_drewN | apply Kd.R_drew)); exact HO_4.out) hb); have n1_ := Aside0.mk (Kd.R_below (by (with_reducible repeat (first | apply Kd.R_alloc | apply Kd.R_drewN | apply Kd.R_drew)); exact HO140.out) hb); have n2_ := Aside0.mk (below_step (by repeat (first | (with_reducible first | exact HB.out | apply below_alloc | apply pw_below_drewN | apply below_drew1) | exact HB.out)) hb); have n3_ := Aside0.mk (hbox); have n4_ := Aside0.mk ((by rw [hg]; exact (below_size (by repeat (first | (with_reducible first | exact HB.out | apply below_alloc | apply pw_below_drewN | apply below_drew1) | exact HB.out))) : w.heap.size ≤ gb148)); have n5_ := Aside0.mk ((by rw [hg]; exact (below_size (by repeat (first | (with_reducible first | exact HB.out | apply below_alloc | apply pw_below_drewN | apply below_drew1) | exact HB.out))) : w.heap.size ≤ gb148)); clear HO_4; clear HO140; clear HB; have HO_4 := n0_; have HO140 := n1_; have HB := n2_; have BK148 := n3_; have GW148 := n4_; have GE148 := n5_; clear n0_ n1_ n2_ n3_ n4_ n5_; clear hb hbox hg; have hcz50_0 : w49.cell? ⟨gb148, 0, none⟩ = some (.int .i64 0) := (blk_cell BK148.out 0).trans rfl; have hcz50_1 : w49.cell? ⟨gb148, 1, none⟩ = some (.int .i64 0) := (blk_cell BK148.out 1).trans rfl; have hcz50_2 : w49.cell? ⟨gb148, 2, none⟩ = some (.int .i64 0) := (blk_cell BK148.out 2).trans rfl; have hcz50_3 : w49.cell? ⟨gb148, 3, none⟩ = some (.int .i64 0) := (blk_cell BK148.out 3).trans rfl; have hcz50_4 : w49.cell? ⟨gb148, 4, none⟩ = some (.bool false) := (blk_cell BK148.out 4).trans rfl; have hfz50_0 := blk_frozen BK148.out 0; have hfz50_1 := blk_frozen BK148.out 1; have hfz50_2 := blk_frozen BK148.out 2; have hfz50_3 := blk_frozen BK148.out 3; have hfz50_4 := blk_frozen BK148.out 4; have p149 : 0 ≤ ((rd x9_2 (ji37)) : Int) := of_decide_eq_true (by first | (with_reducible assumption) | assumption); have q149 : (rd x9_2 (ji37)) < (x4_2.length : Int) := of_decide_eq_true (by first | (with_reducible assumption) | assumption); obtain ⟨ad149, e149, hx149_0⟩ := Kd.at_int (Kd.R_reads' HO_4.out).2.2 (rd x9_2 (ji37)) p149 q149; obtain rfl : (⟨go31, 0, none⟩ : Addr) = ad149 := (by injection e149); (first | simp only [add_plain] at hx149_0 | simp only [add_at] at hx149_0 | simp only [Addr.add, Nat.zero_add] at hx149_0 | skip); have hn149_0 : (⟨go31, 0, none⟩ : Addr).block ≠ gb148 := Kd.own_blk (Kd.R_ne HO_4.out BK148.out (by decide)); have hn149_1 : (⟨go31, 0, none⟩ : Addr).block ≠ gb148 := Kd.own_blk (Kd.R_ne HO_4.out BK148.out (by decide)); have hn149_2 : (⟨go31, 0, none⟩ : Addr).block ≠ gb148 := Kd.own_blk (Kd.R_ne HO_4.out BK148.out (by decide)); have hn149_3 : (⟨go31, 0, none⟩ : Addr).block ≠ gb148 := Kd.own_blk (Kd.R_ne HO_4.out BK148.out (by decide)); have hn149_4 : (⟨go31, 0, none⟩ : Addr).block ≠ gb148 := Kd.own_blk (Kd.R_ne HO_4.out BK148.out (by decide)); replace hx149_0 := (cell_far (p := ⟨gb148, 0, none⟩) (by first | (rw [add_block]; exact hn149_0) | (show (Addr.add _ _).block ≠ _; rw [add_block]; exact hn149_0) | exact hn149_0) (.int .i64 t142)).trans hx149_0; replace hx149_0 := (cell_far (p := ⟨gb148, 1, none⟩) (by first | (rw [add_block]; exact hn149_1) | (show (Addr.add _ _).block ≠ _; rw [add_block]; exact hn149_1) | exact hn149_1) (.int .i64 t143)).trans hx149_0; replace hx149_0 := (cell_far (p := ⟨gb148, 2, none⟩) (by first | (rw [add_block]; exact hn149_2) | (show (Addr.add _ _).block ≠ _; rw [add_block]; exact hn149_2) | exact hn149_2) (.int .i64 t144)).trans hx149_0; replace hx149_0 := (cell_far (p := ⟨gb148, 3, none⟩) (by first | (rw [add_block]; exact hn149_3) | (show (Addr.add _ _).block ≠ _; rw [add_block]; exact hn149_3) | exact hn149_3) (.int .i64 t145)).trans hx149_0; replace hx149_0 := (cell_far (p := ⟨gb148, 4, none⟩) (by first | (rw [add_block]; exact hn149_4) | (show (Addr.add _ _).block ≠ _; rw [add_block]; exact hn149_4) | exact hn149_4) (.bool t146)).trans hx149_0; (try have hy149_0 := fun (n_ : Nat) => (show (((((((w49.drewN n_).setCell ⟨gb148, 0, none⟩ (.int .i64 t142)).setCell ⟨gb148, 1, none⟩ (.int .i64 t143)).setCell ⟨gb148, 2, none⟩ (.int .i64 t144)).setCell ⟨gb148, 3, none⟩ (.int .i64 t145)).setCell ⟨gb148, 4, none⟩ (.bool t146))).cell? _ = some _ from hx149_0)); clear hn149_0; clear hn149_1; clear hn149_2; clear hn149_3; clear hn149_4; replace p149 := eq_true p149; replace q149 := eq_true q149))
                                    repeat (go_quiet (first | (go_at_call 25; (with_reducible refine (code_may.calls ((rd_T41 l0 (rd x9_2 (ji37))).f0) ((rd_T41 l0 (rd x9_2 (ji37))).f1) t142 t143 t144 t145 t146 t147 _ A43.out).mono ?_); rintro e w48 ⟨rfl, hb⟩; have n0_ := Aside0.mk (Kd.R_below (by (with_reducible repeat (first | apply Kd.R_alloc | apply Kd.R_drewN | apply Kd.R_drew)); exact HO_4.out) hb); have n1_ := Aside0.mk (Kd.R_below (by (with_reducible repeat (first | apply Kd.R_alloc | apply Kd.R_drewN | apply Kd.R_drew)); exact HO140.out) hb); have n2_ := Aside0.mk (below_step (by repeat (first | (with_reducible first | exact HB.out | apply below_alloc | apply pw_below_drewN | apply below_drew1) | exact HB.out)) hb); clear HO_4; clear HO140; clear HB; have HO_4 := n0_; have HO140 := n1_; have HB := n2_; clear n0_ n1_ n2_; (try clear hb); (try clear hb2); (try clear hk); (try clear hi)) | ((with_reducible refine gate_dst (N := 11) rfl ?_); refine box_event ?hg (N := 11) ?hd (cs := #[.int .i64 0, .int .i64 0, .int .i64 0, .int .i64 0, .bool false]) (t := 56) ?hr ?_; (case hd => rfl); (case hg => rfl); (case hr => first | (go_simp; done) | (go_simp; rfl)); intro gb148 hg w49 hbox hb; have n0_ := Aside0.mk (Kd.R_below (by (with_reducible repeat (first | apply Kd.R_alloc | apply Kd.R_drewN | apply Kd.R_drew)); exact HO_4.out) hb); have n1_ := Aside0.mk (Kd.R_below (by (with_reducible repeat (first | apply Kd.R_alloc | apply Kd.R_drewN | apply Kd.R_drew)); exact HO140.out) hb); have n2_ := Aside0.mk (below_step (by repeat (first | (with_reducible first | exact HB.out | apply below_alloc | apply pw_below_drewN | apply below_drew1) | exact HB.out)) hb); have n3_ := Aside0.mk (hbox); have n4_ := Aside0.mk ((by rw [hg]; exact (below_size (by repeat (first | (with_reducible first | exact HB.out | apply below_alloc | apply pw_below_drewN | apply below_drew1) | exact HB.out))) : w.heap.size ≤ gb148)); have n5_ := Aside0.mk ((by rw [hg]; exact (below_size (by repeat (first | (with_reducible first | exact HB.out | apply below_alloc | apply pw_below_drewN | apply below_drew1) | exact HB.out))) : w.heap.size ≤ gb148)); clear HO_4; clear HO140; clear HB; have HO_4 := n0_; have HO140 := n1_; have HB := n2_; have BK148 := n3_; have GW148 := n4_; have GE148 := n5_; clear n0_ n1_ n2_ n3_ n4_ n5_; clear hb hbox hg; have hcz50_0 : w49.cell? ⟨gb148, 0, none⟩ = some (.int .i64 0) := (blk_cell BK148.out 0).trans rfl; have hcz50_1 : w49.cell? ⟨gb148, 1, none⟩ = some (.int .i64 0) := (blk_cell BK148.out 1).trans rfl; have hcz50_2 : w49.cell? ⟨gb148, 2, none⟩ = some (.int .i64 0) := (blk_cell BK148.out 2).trans rfl; have hcz50_3 : w49.cell? ⟨gb148, 3, none⟩ = some (.int .i64 0) := (blk_cell BK148.out 3).trans rfl; have hcz50_4 : w49.cell? ⟨gb148, 4, none⟩ = some (.bool false) := (blk_cell BK148.out 4).trans rfl; have hfz50_0 := blk_frozen BK148.out 0; have hfz50_1 := blk_frozen BK148.out 1; have hfz50_2 := blk_frozen BK148.out 2; have hfz50_3 := blk_frozen BK148.out 3; have hfz50_4 := blk_frozen BK148.out 4; have p149 : 0 ≤ ((rd x9_2 (ji37)) : Int) := of_decide_eq_true (by first | (with_reducible assumption) | assumption); have q149 : (rd x9_2 (ji37)) < (x4_2.length : Int) := of_decide_eq_true (by first | (with_reducible assumption) | assumption); obtain ⟨ad149, e149, hx149_0⟩ := Kd.at_int (Kd.R_reads' HO_4.out).2.2 (rd x9_2 (ji37)) p149 q149; obtain rfl : (⟨go31, 0, none⟩ : Addr) = ad149 := (by injection e149); (first | simp only [add_plain] at hx149_0 | simp only [add_at] at hx149_0 | simp only [Addr.add, Nat.zero_add] at hx149_0 | skip); have hn149_0 : (⟨go31, 0, none⟩ : Addr).block ≠ gb148 := Kd.own_blk (Kd.R_ne HO_4.out BK148.out (by decide)); have hn149_1 : (⟨go31, 0, none⟩ : Addr).block ≠ gb148 := Kd.own_blk (Kd.R_ne HO_4.out BK148.out (by decide)); have hn149_2 : (⟨go31, 0, none⟩ : Addr).block ≠ gb148 := Kd.own_blk (Kd.R_ne HO_4.out BK148.out (by decide)); have hn149_3 : (⟨go31, 0, none⟩ : Addr).block ≠ gb148 := Kd.own_blk (Kd.R_ne HO_4.out BK148.out (by decide)); have hn149_4 : (⟨go31, 0, none⟩ : Addr).block ≠ gb148 := Kd.own_blk (Kd.R_ne HO_4.out BK148.out (by decide)); replace hx149_0 := (cell_far (p := ⟨gb148, 0, none⟩) (by first | (rw [add_block]; exact hn149_0) | (show (Addr.add _ _).block ≠ _; rw [add_block]; exact hn149_0) | exact hn149_0) (.int .i64 t142)).trans hx149_0; replace hx149_0 := (cell_far (p := ⟨gb148, 1, none⟩) (by first | (rw [add_block]; exact hn149_1) | (show (Addr.add _ _).block ≠ _; rw [add_block]; exact hn149_1) | exact hn149_1) (.int .i64 t143)).trans hx149_0; replace hx149_0 := (cell_far (p := ⟨gb148, 2, none⟩) (by first | (rw [add_block]; exact hn149_2) | (show (Addr.add _ _).block ≠ _; rw [add_block]; exact hn149_2) | exact hn149_2) (.int .i64 t144)).trans hx149_0; replace hx149_0 := (cell_far (p := ⟨gb148, 3, none⟩) (by first | (rw [add_block]; exact hn149_3) | (show (Addr.add _ _).block ≠ _; rw [add_block]; exact hn149_3) | exact hn149_3) (.int .i64 t145)).trans hx149_0; replace hx149_0 := (cell_far (p := ⟨gb148, 4, none⟩) (by first | (rw [add_block]; exact hn149_4) | (show (Addr.add _ _).block ≠ _; rw [add_block]; exact hn149_4) | exact hn149_4) (.bool t146)).trans hx149_0; (try have hy149_0 := fun (n_ : Nat) => (show (((((((w49.drewN n_).setCell ⟨gb148, 0, none⟩ (.int .i64 t142)).setCell ⟨gb148, 1, none⟩ (.int .i64 t143)).setCell ⟨gb148, 2, none⟩ (.int .i64 t144)).setCell ⟨gb148, 3, none⟩ (.int .i64 t145)).setCell ⟨gb148, 4, none⟩ (.bool t146))).cell? _ = some _ from hx149_0)); clear hn149_0; clear hn149_1; clear hn149_2; clear hn149_3; clear hn149_4; replace p149 := eq_true p149; replace q149 := eq_true q149)); go_upto_region 21 with (first | (go_at_call 25; (with_reducible refine (code_may.calls ((rd_T41 l0 (rd x9_2 (ji37))).f0) ((rd_T41 l0 (rd x9_2 (ji37))).f1) t142 t143 t144 t145 t146 t147 _ A43.out).mono ?_); rintro e w48 ⟨rfl, hb⟩; have n0_ := Aside0.mk (Kd.R_below (by (with_reducible repeat (first | apply Kd.R_alloc | apply Kd.R_drewN | apply Kd.R_drew)); exact HO_4.out) hb); have n1_ := Aside0.mk (Kd.R_below (by (with_reducible repeat (first | apply Kd.R_alloc | apply Kd.R_drewN | apply Kd.R_drew)); exact HO140.out) hb); have n2_ := Aside0.mk (below_step (by repeat (first | (with_reducible first | exact HB.out | apply below_alloc | apply pw_below_drewN | apply below_drew1) | exact HB.out)) hb); clear HO_4; clear HO140; clear HB; have HO_4 := n0_; have HO140 := n1_; have HB := n2_; clear n0_ n1_ n2_; (try clear hb); (try clear hb2); (try clear hk); (try clear hi)) | ((with_reducible refine gate_dst (N := 11) rfl ?_); refine box_event ?hg (N := 11) ?hd (cs := #[.int .i64 0, .int .i64 0, .int .i64 0, .int .i64 0, .bool false]) (t := 56) ?hr ?_; (case hd => rfl); (case hg => rfl); (case hr => first | (go_simp; done) | (go_simp; rfl)); intro gb148 hg w49 hbox hb; have n0_ := Aside0.mk (Kd.R_below (by (with_reducible repeat (first | apply Kd.R_alloc | apply Kd.R_drewN | apply Kd.R_drew)); exact HO_4.out) hb); have n1_ := Aside0.mk (Kd.R_below (by (with_reducible repeat (first | apply Kd.R_alloc | apply Kd.R_drewN | apply Kd.R_drew)); exact HO140.out) hb); have n2_ := Aside0.mk (below_step (by repeat (first | (with_reducible first | exact HB.out | apply below_alloc | apply pw_below_drewN | apply below_drew1) | exact HB.out)) hb); have n3_ := Aside0.mk (hbox); have n4_ := Aside0.mk ((by rw [hg]; exact (below_size (by repeat (first | (with_reducible first | exact HB.out | apply below_alloc | apply pw_below_drewN | apply below_drew1) | exact HB.out))) : w.heap.size ≤ gb148)); have n5_ := Aside0.mk ((by rw [hg]; exact (below_size (by repeat (first | (with_reducible first | exact HB.out | apply below_alloc | apply pw_below_drewN | apply below_drew1) | exact HB.out))) : w.heap.size ≤ gb148)); clear HO_4; clear HO140; clear HB; have HO_4 := n0_; have HO140 := n1_; have HB := n2_; have BK148 := n3_; have GW148 := n4_; have GE148 := n5_; clear n0_ n1_ n2_ n3_ n4_ n5_; clear hb hbox hg; have hcz50_0 : w49.cell? ⟨gb148, 0, none⟩ = some (.int .i64 0) := (blk_cell BK148.out 0).trans rfl; have hcz50_1 : w49.cell? ⟨gb148, 1, none⟩ = some (.int .i64 0) := (blk_cell BK148.out 1).trans rfl; have hcz50_2 : w49.cell? ⟨gb148, 2, none⟩ = some (.int .i64 0) := (blk_cell BK148.out 2).trans rfl; have hcz50_3 : w49.cell? ⟨gb148, 3, none⟩ = some (.int .i64 0) := (blk_cell BK148.out 3).trans rfl; have hcz50_4 : w49.cell? ⟨gb148, 4, none⟩ = some (.bool false) := (blk_cell BK148.out 4).trans rfl; have hfz50_0 := blk_frozen BK148.out 0; have hfz50_1 := blk_frozen BK148.out 1; have hfz50_2 := blk_frozen BK148.out 2; have hfz50_3 := blk_frozen BK148.out 3; have hfz50_4 := blk_frozen BK148.out 4; have p149 : 0 ≤ ((rd x9_2 (ji37)) : Int) := of_decide_eq_true (by first | (with_reducible assumption) | assumption); have q149 : (rd x9_2 (ji37)) < (x4_2.length : Int) := of_decide_eq_true (by first | (with_reducible assumption) | assumption); obtain ⟨ad149, e149, hx149_0⟩ := Kd.at_int (Kd.R_reads' HO_4.out).2.2 (rd x9_2 (ji37)) p149 q149; obtain rfl : (⟨go31, 0, none⟩ : Addr) = ad149 := (by injection e149); (first | simp only [add_plain] at hx149_0 | simp only [add_at] at hx149_0 | simp only [Addr.add, Nat.zero_add] at hx149_0 | skip); have hn149_0 : (⟨go31, 0, none⟩ : Addr).block ≠ gb148 := Kd.own_blk (Kd.R_ne HO_4.out BK148.out (by decide)); have hn149_1 : (⟨go31, 0, none⟩ : Addr).block ≠ gb148 := Kd.own_blk (Kd.R_ne HO_4.out BK148.out (by decide)); have hn149_2 : (⟨go31, 0, none⟩ : Addr).block ≠ gb148 := Kd.own_blk (Kd.R_ne HO_4.out BK148.out (by decide)); have hn149_3 : (⟨go31, 0, none⟩ : Addr).block ≠ gb148 := Kd.own_blk (Kd.R_ne HO_4.out BK148.out (by decide)); have hn149_4 : (⟨go31, 0, none⟩ : Addr).block ≠ gb148 := Kd.own_blk (Kd.R_ne HO_4.out BK148.out (by decide)); replace hx149_0 := (cell_far (p := ⟨gb148, 0, none⟩) (by first | (rw [add_block]; exact hn149_0) | (show (Addr.add _ _).block ≠ _; rw [add_block]; exact hn149_0) | exact hn149_0) (.int .i64 t142)).trans hx149_0; replace hx149_0 := (cell_far (p := ⟨gb148, 1, none⟩) (by first | (rw [add_block]; exact hn149_1) | (show (Addr.add _ _).block ≠ _; rw [add_block]; exact hn149_1) | exact hn149_1) (.int .i64 t143)).trans hx149_0; replace hx149_0 := (cell_far (p := ⟨gb148, 2, none⟩) (by first | (rw [add_block]; exact hn149_2) | (show (Addr.add _ _).block ≠ _; rw [add_block]; exact hn149_2) | exact hn149_2) (.int .i64 t144)).trans hx149_0; replace hx149_0 := (cell_far (p := ⟨gb148, 3, none⟩) (by first | (rw [add_block]; exact hn149_3) | (show (Addr.add _ _).block ≠ _; rw [add_block]; exact hn149_3) | exact hn149_3) (.int .i64 t145)).trans hx149_0; replace hx149_0 := (cell_far (p := ⟨gb148, 4, none⟩) (by first | (rw [add_block]; exact hn149_4) | (show (Addr.add _ _).block ≠ _; rw [add_block]; exact hn149_4) | exact hn149_4) (.bool t146)).trans hx149_0; (try have hy149_0 := fun (n_ : Nat) => (show (((((((w49.drewN n_).setCell ⟨gb148, 0, none⟩ (.int .i64 t142)).setCell ⟨gb148, 1, none⟩ (.int .i64 t143)).setCell ⟨gb148, 2, none⟩ (.int .i64 t144)).setCell ⟨gb148, 3, none⟩ (.int .i64 t145)).setCell ⟨gb148, 4, none⟩ (.bool t146))).cell? _ = some _ from hx149_0)); clear hn149_0; clear hn149_1; clear hn149_2; clear hn149_3; clear hn149_4; replace p149 := eq_true p149; replace q149 := eq_true q149)))
                                    (try simp only [Act.put, List.setIfInBounds_toArray, List.set_cons_zero, List.set_cons_succ])
                                    go_cut [88] (fun v88 wc => ∃ (kq : Nat) (x88_44 : Bool), v88 = .bool x88_44 ∧ Aside0 (code_Depths.j2 kq l0 x4_2 y138 (rd x9_2 (ji37)) (wrap64 ((wrap64 ((rd x4_2 (rd x9_2 (ji37))) - t142)) + t143)) x88_44 = some (r1, r2)) ∧ Aside0 (kq ≤ k2) ∧ Aside0 (Kd.R (Kd.int .i64) 3 wc w.heap.size (fun k_ => some k_ ≠ ((.slice (some ad137) y138.length co46) : Value).ownBlock) (.slice (some ⟨go31, 0, none⟩) x4_2.length co31) x4_2) ∧ Aside0 (Kd.R (Kd.int .i64) 3 wc w.heap.size (fun k_ => some k_ ≠ ((.slice (some ⟨go31, 0, none⟩) x4_2.length co31) : Value).ownBlock) (.slice (some ad137) y138.length co46) y138) ∧ Aside0 (wc.heap[gb148]? = some (.cells #[.int .i64 t142, .int .i64 t143, .int .i64 t144, .int .i64 t145, .bool t146] 56 (0, 0))) ∧ Aside0 (Below w.heap.size w wc))
                                    case first =>
                                      have H := HC45.out
                                      clear HC45
                                      by_cases c51 : (rd x4_2 (rd x9_2 (ji37))) < t142
                                      · rw [if_pos c51] at H
                                        have c51b0 : decide ((rd x4_2 (rd x9_2 (ji37))) < t142) = true := decide_eq_true c51
                                        clear c51
                                        (first | rw [c51b0] | (simp only [i64_w, i32_w]; rw [c51b0]) | skip)
                                        have H' := Aside0.mk H
                                        clear H
                                        have p150 : 0 ≤ ((rd x9_2 (ji37)) : Int) := of_decide_eq_true (by first | (with_reducible assumption) | assumption)
                                        have q150 : (rd x9_2 (ji37)) < (x4_2.length : Int) := of_decide_eq_true (by first | (with_reducible assumption) | assumption)
                                        obtain ⟨ad150, e150, hx150_0⟩ := Kd.at_int (Kd.R_reads' HO_4.out).2.2 (rd x9_2 (ji37)) p150 q150
                                        obtain rfl : (⟨go31, 0, none⟩ : Addr) = ad150 := (by injection e150)
                                        (first | simp only [add_plain] at hx150_0 | simp only [add_at] at hx150_0 | simp only [Addr.add, Nat.zero_add] at hx150_0 | skip)
                                        have hn150_0 : (⟨go31, 0, none⟩ : Addr).block ≠ gb148 := Kd.own_blk (Kd.R_ne HO_4.out BK148.out (by decide))
                                        have hn150_1 : (⟨go31, 0, none⟩ : Addr).block ≠ gb148 := Kd.own_blk (Kd.R_ne HO_4.out BK148.out (by decide))
                                        have hn150_2 : (⟨go31, 0, none⟩ : Addr).block ≠ gb148 := Kd.own_blk (Kd.R_ne HO_4.out BK148.out (by decide))
                                        have hn150_3 : (⟨go31, 0, none⟩ : Addr).block ≠ gb148 := Kd.own_blk (Kd.R_ne HO_4.out BK148.out (by decide))
                                        have hn150_4 : (⟨go31, 0, none⟩ : Addr).block ≠ gb148 := Kd.own_blk (Kd.R_ne HO_4.out BK148.out (by decide))
                                        replace hx150_0 := (cell_far (p := ⟨gb148, 0, none⟩) (by first | (rw [add_block]; exact hn150_0) | (show (Addr.add _ _).block ≠ _; rw [add_block]; exact hn150_0) | exact hn150_0) (.int .i64 t142)).trans hx150_0
                                        replace hx150_0 := (cell_far (p := ⟨gb148, 1, none⟩) (by first | (rw [add_block]; exact hn150_1) | (show (Addr.add _ _).block ≠ _; rw [add_block]; exact hn150_1) | exact hn150_1) (.int .i64 t143)).trans hx150_0
                                        replace hx150_0 := (cell_far (p := ⟨gb148, 2, none⟩) (by first | (rw [add_block]; exact hn150_2) | (show (Addr.add _ _).block ≠ _; rw [add_block]; exact hn150_2) | exact hn150_2) (.int .i64 t144)).trans hx150_0
                                        replace hx150_0 := (cell_far (p := ⟨gb148, 3, none⟩) (by first | (rw [add_block]; exact hn150_3) | (show (Addr.add _ _).block ≠ _; rw [add_block]; exact hn150_3) | exact hn150_3) (.int .i64 t145)).trans hx150_0
                                        replace hx150_0 := (cell_far (p := ⟨gb148, 4, none⟩) (by first | (rw [add_block]; exact hn150_4) | (show (Addr.add _ _).block ≠ _; rw [add_block]; exact hn150_4) | exact hn150_4) (.bool t146)).trans hx150_0
                                        (try have hy150_0 := fun (n_ : Nat) => (show (((((((w49.drewN n_).setCell ⟨gb148, 0, none⟩ (.int .i64 t142)).setCell ⟨gb148, 1, none⟩ (.int .i64 t143)).setCell ⟨gb148, 2, none⟩ (.int .i64 t144)).setCell ⟨gb148, 3, none⟩ (.int .i64 t145)).setCell ⟨gb148, 4, none⟩ (.bool t146))).cell? _ = some _ from hx150_0))
                                        clear hn150_0
                                        clear hn150_1
                                        clear hn150_2
                                        clear hn150_3
                                        clear hn150_4
                                        replace p150 := eq_true p150
                                        replace q150 := eq_true q150
                                        have hcz52_0 : w49.cell? ⟨gb148, 0, none⟩ = some (.int .i64 0) := (blk_cell BK148.out 0).trans rfl
                                        have hcz52_1 : w49.cell? ⟨gb148, 1, none⟩ = some (.int .i64 0) := (blk_cell BK148.out 1).trans rfl
                                        have hcz52_2 : w49.cell? ⟨gb148, 2, none⟩ = some (.int .i64 0) := (blk_cell BK148.out 2).trans rfl
                                        have hcz52_3 : w49.cell? ⟨gb148, 3, none⟩ = some (.int .i64 0) := (blk_cell BK148.out 3).trans rfl
                                        have hcz52_4 : w49.cell? ⟨gb148, 4, none⟩ = some (.bool false) := (blk_cell BK148.out 4).trans rfl
                                        have hfz52_0 := blk_frozen BK148.out 0
                                        have hfz52_1 := blk_frozen BK148.out 1
                                        have hfz52_2 := blk_frozen BK148.out 2
                                        have hfz52_3 := blk_frozen BK148.out 3
                                        have hfz52_4 := blk_frozen BK148.out 4
                                        go_wp2
                                        repeat (go_quiet (fail); try go_wp2)
                                        go_meet
                                        case rel => exact ⟨_, (true), (by first | rfl | (simp; done) | (simp [*]; done)), H', ⟨by have := HK1.out; have := HK2.out; first | omega | exact Nat.le_refl _⟩, ⟨by (try simp only [hl4_2]); (with_reducible repeat (first | apply Kd.R_alloc | apply Kd.R_drewN | apply Kd.R_drew)); exact Kd.R_mono (Kd.R_far (p := ⟨gb148, 4, none⟩) (Kd.R_far (p := ⟨gb148, 3, none⟩) (Kd.R_far (p := ⟨gb148, 2, none⟩) (Kd.R_far (p := ⟨gb148, 1, none⟩) (Kd.R_far (p := ⟨gb148, 0, none⟩) (Kd.R_types HO_4.out BK148.out (by decide)) (fun _ hk => hk.2) (.int .i64 t142)) (fun _ hk => hk.2) (.int .i64 t143)) (fun _ hk => hk.2) (.int .i64 t144)) (fun _ hk => hk.2) (.int .i64 t145)) (fun _ hk => hk.2) (.bool t146)) (fun _ hk => hk.1)⟩, ⟨by (try simp only [hl4_2]); (with_reducible repeat (first | apply Kd.R_alloc | apply Kd.R_drewN | apply Kd.R_drew)); exact Kd.R_mono (Kd.R_far (p := ⟨gb148, 4, none⟩) (Kd.R_far (p := ⟨gb148, 3, none⟩) (Kd.R_far (p := ⟨gb148, 2, none⟩) (Kd.R_far (p := ⟨gb148, 1, none⟩) (Kd.R_far (p := ⟨gb148, 0, none⟩) (Kd.R_types HO140.out BK148.out (by decide)) (fun _ hk => hk.2) (.int .i64 t142)) (fun _ hk => hk.2) (.int .i64 t143)) (fun _ hk => hk.2) (.int .i64 t144)) (fun _ hk => hk.2) (.int .i64 t145)) (fun _ hk => hk.2) (.bool t146)) (fun _ hk => hk.1)⟩, ⟨by (try simp only [hl4_2]); (with_reducible repeat (first | refine blk_drewN ?_ _ | refine blk_drew ?_ | refine blk_alloc ?_ _)); refine blk_put (cs := #[.int .i64 t142, .int .i64 t143, .int .i64 t144, .int .i64 t145, .bool false]) ?_ 4 _ rfl; (with_reducible repeat (first | refine blk_drewN ?_ _ | refine blk_drew ?_ | refine blk_alloc ?_ _)); refine blk_put (cs := #[.int .i64 t142, .int .i64 t143, .int .i64 t144, .int .i64 0, .bool false]) ?_ 3 _ rfl; (with_reducible repeat (first | refine blk_drewN ?_ _ | refine blk_drew ?_ | refine blk_alloc ?_ _)); refine blk_put (cs := #[.int .i64 t142, .int .i64 t143, .int .i64 0, .int .i64 0, .bool false]) ?_ 2 _ rfl; (with_reducible repeat (first | refine blk_drewN ?_ _ | refine blk_drew ?_ | refine blk_alloc ?_ _)); refine blk_put (cs := #[.int .i64 t142, .int .i64 0, .int .i64 0, .int .i64 0, .bool false]) ?_ 1 _ rfl; (with_reducible repeat (first | refine blk_drewN ?_ _ | refine blk_drew ?_ | refine blk_alloc ?_ _)); refine blk_put (cs := #[.int .i64 0, .int .i64 0, .int .i64 0, .int .i64 0, .bool false]) ?_ 0 _ rfl; (with_reducible repeat (first | refine blk_drewN ?_ _ | refine blk_drew ?_ | refine blk_alloc ?_ _)); exact BK148.out⟩, ⟨by repeat (first | (with_reducible first | exact HB.out | apply below_alloc | apply pw_below_drewN | apply below_drew1 | refine below_set ?_ GE148.out) | exact HB.out)⟩⟩
                                      · rw [if_neg c51] at H
                                        have c51b0 : decide ((rd x4_2 (rd x9_2 (ji37))) < t142) = false := decide_eq_false c51
                                        clear c51
                                        (first | rw [c51b0] | (simp only [i64_w, i32_w]; rw [c51b0]) | skip)
                                        have H' := Aside0.mk H
                                        clear H
                                        have p150 : 0 ≤ ((rd x9_2 (ji37)) : Int) := of_decide_eq_true (by first | (with_reducible assumption) | assumption)
                                        have q150 : (rd x9_2 (ji37)) < (x4_2.length : Int) := of_decide_eq_true (by first | (with_reducible assumption) | assumption)
                                        obtain ⟨ad150, e150, hx150_0⟩ := Kd.at_int (Kd.R_reads' HO_4.out).2.2 (rd x9_2 (ji37)) p150 q150
                                        obtain rfl : (⟨go31, 0, none⟩ : Addr) = ad150 := (by injection e150)
                                        (first | simp only [add_plain] at hx150_0 | simp only [add_at] at hx150_0 | simp only [Addr.add, Nat.zero_add] at hx150_0 | skip)
                                        have hn150_0 : (⟨go31, 0, none⟩ : Addr).block ≠ gb148 := Kd.own_blk (Kd.R_ne HO_4.out BK148.out (by decide))
                                        have hn150_1 : (⟨go31, 0, none⟩ : Addr).block ≠ gb148 := Kd.own_blk (Kd.R_ne HO_4.out BK148.out (by decide))
                                        have hn150_2 : (⟨go31, 0, none⟩ : Addr).block ≠ gb148 := Kd.own_blk (Kd.R_ne HO_4.out BK148.out (by decide))
                                        have hn150_3 : (⟨go31, 0, none⟩ : Addr).block ≠ gb148 := Kd.own_blk (Kd.R_ne HO_4.out BK148.out (by decide))
                                        have hn150_4 : (⟨go31, 0, none⟩ : Addr).block ≠ gb148 := Kd.own_blk (Kd.R_ne HO_4.out BK148.out (by decide))
                                        replace hx150_0 := (cell_far (p := ⟨gb148, 0, none⟩) (by first | (rw [add_block]; exact hn150_0) | (show (Addr.add _ _).block ≠ _; rw [add_block]; exact hn150_0) | exact hn150_0) (.int .i64 t142)).trans hx150_0
                                        replace hx150_0 := (cell_far (p := ⟨gb148, 1, none⟩) (by first | (rw [add_block]; exact hn150_1) | (show (Addr.add _ _).block ≠ _; rw [add_block]; exact hn150_1) | exact hn150_1) (.int .i64 t143)).trans hx150_0
                                        replace hx150_0 := (cell_far (p := ⟨gb148, 2, none⟩) (by first | (rw [add_block]; exact hn150_2) | (show (Addr.add _ _).block ≠ _; rw [add_block]; exact hn150_2) | exact hn150_2) (.int .i64 t144)).trans hx150_0
                                        replace hx150_0 := (cell_far (p := ⟨gb148, 3, none⟩) (by first | (rw [add_block]; exact hn150_3) | (show (Addr.add _ _).block ≠ _; rw [add_block]; exact hn150_3) | exact hn150_3) (.int .i64 t145)).trans hx150_0
                                        replace hx150_0 := (cell_far (p := ⟨gb148, 4, none⟩) (by first | (rw [add_block]; exact hn150_4) | (show (Addr.add _ _).block ≠ _; rw [add_block]; exact hn150_4) | exact hn150_4) (.bool t146)).trans hx150_0
                                        (try have hy150_0 := fun (n_ : Nat) => (show (((((((w49.drewN n_).setCell ⟨gb148, 0, none⟩ (.int .i64 t142)).setCell ⟨gb148, 1, none⟩ (.int .i64 t143)).setCell ⟨gb148, 2, none⟩ (.int .i64 t144)).setCell ⟨gb148, 3, none⟩ (.int .i64 t145)).setCell ⟨gb148, 4, none⟩ (.bool t146))).cell? _ = some _ from hx150_0))
                                        clear hn150_0
                                        clear hn150_1
                                        clear hn150_2
                                        clear hn150_3
                                        clear hn150_4
                                        replace p150 := eq_true p150
                                        replace q150 := eq_true q150
                                        have hcz53_0 : w49.cell? ⟨gb148, 0, none⟩ = some (.int .i64 0) := (blk_cell BK148.out 0).trans rfl
                                        have hcz53_1 : w49.cell? ⟨gb148, 1, none⟩ = some (.int .i64 0) := (blk_cell BK148.out 1).trans rfl
                                        have hcz53_2 : w49.cell? ⟨gb148, 2, none⟩ = some (.int .i64 0) := (blk_cell BK148.out 2).trans rfl
                                        have hcz53_3 : w49.cell? ⟨gb148, 3, none⟩ = some (.int .i64 0) := (blk_cell BK148.out 3).trans rfl
                                        have hcz53_4 : w49.cell? ⟨gb148, 4, none⟩ = some (.bool false) := (blk_cell BK148.out 4).trans rfl
                                        have hfz53_0 := blk_frozen BK148.out 0
                                        have hfz53_1 := blk_frozen BK148.out 1
                                        have hfz53_2 := blk_frozen BK148.out 2
                                        have hfz53_3 := blk_frozen BK148.out 3
                                        have hfz53_4 := blk_frozen BK148.out 4
                                        go_wp2
                                        repeat (go_quiet (fail); try go_wp2)
                                        go_meet
                                        case rel => exact ⟨_, (decide ((wrap64 ((wrap64 ((rd x4_2 (rd x9_2 (ji37))) - t142)) + t143)) > 16)), (by first | rfl | (simp; done) | (simp only [← hji37] <;> (first | rfl | simp)) | (simp [*]; done)), H', ⟨by have := HK1.out; have := HK2.out; first | omega | exact Nat.le_refl _⟩, ⟨by (try simp only [hl4_2]); (with_reducible repeat (first | apply Kd.R_alloc | apply Kd.R_drewN | apply Kd.R_drew)); exact Kd.R_mono (Kd.R_far (p := ⟨gb148, 4, none⟩) (Kd.R_far (p := ⟨gb148, 3, none⟩) (Kd.R_far (p := ⟨gb148, 2, none⟩) (Kd.R_far (p := ⟨gb148, 1, none⟩) (Kd.R_far (p := ⟨gb148, 0, none⟩) (Kd.R_types HO_4.out BK148.out (by decide)) (fun _ hk => hk.2) (.int .i64 t142)) (fun _ hk => hk.2) (.int .i64 t143)) (fun _ hk => hk.2) (.int .i64 t144)) (fun _ hk => hk.2) (.int .i64 t145)) (fun _ hk => hk.2) (.bool t146)) (fun _ hk => hk.1)⟩, ⟨by (try simp only [hl4_2]); (with_reducible repeat (first | apply Kd.R_alloc | apply Kd.R_drewN | apply Kd.R_drew)); exact Kd.R_mono (Kd.R_far (p := ⟨gb148, 4, none⟩) (Kd.R_far (p := ⟨gb148, 3, none⟩) (Kd.R_far (p := ⟨gb148, 2, none⟩) (Kd.R_far (p := ⟨gb148, 1, none⟩) (Kd.R_far (p := ⟨gb148, 0, none⟩) (Kd.R_types HO140.out BK148.out (by decide)) (fun _ hk => hk.2) (.int .i64 t142)) (fun _ hk => hk.2) (.int .i64 t143)) (fun _ hk => hk.2) (.int .i64 t144)) (fun _ hk => hk.2) (.int .i64 t145)) (fun _ hk => hk.2) (.bool t146)) (fun _ hk => hk.1)⟩, ⟨by (try simp only [hl4_2]); (with_reducible repeat (first | refine blk_drewN ?_ _ | refine blk_drew ?_ | refine blk_alloc ?_ _)); refine blk_put (cs := #[.int .i64 t142, .int .i64 t143, .int .i64 t144, .int .i64 t145, .bool false]) ?_ 4 _ rfl; (with_reducible repeat (first | refine blk_drewN ?_ _ | refine blk_drew ?_ | refine blk_alloc ?_ _)); refine blk_put (cs := #[.int .i64 t142, .int .i64 t143, .int .i64 t144, .int .i64 0, .bool false]) ?_ 3 _ rfl; (with_reducible repeat (first | refine blk_drewN ?_ _ | refine blk_drew ?_ | refine blk_alloc ?_ _)); refine blk_put (cs := #[.int .i64 t142, .int .i64 t143, .int .i64 0, .int .i64 0, .bool false]) ?_ 2 _ rfl; (with_reducible repeat (first | refine blk_drewN ?_ _ | refine blk_drew ?_ | refine blk_alloc ?_ _)); refine blk_put (cs := #[.int .i64 t142, .int .i64 0, .int .i64 0, .int .i64 0, .bool false]) ?_ 1 _ rfl; (with_reducible repeat (first | refine blk_drewN ?_ _ | refine blk_drew ?_ | refine blk_alloc ?_ _)); refine blk_put (cs := #[.int .i64 0, .int .i64 0, .int .i64 0, .int .i64 0, .bool false]) ?_ 0 _ rfl; (with_reducible repeat (first | refine blk_drewN ?_ _ | refine blk_drew ?_ | refine blk_alloc ?_ _)); exact BK148.out⟩, ⟨by repeat (first | (with_reducible first | exact HB.out | apply below_alloc | apply pw_below_drewN | apply below_drew1 | refine below_set ?_ GE148.out) | exact HB.out)⟩⟩
                                    case rest =>
                                      clear HC45
                                      try clear c1
                                      try clear p1
                                      try clear q1
                                      try clear hx1
                                      try clear hf1
                                      try clear c2
                                      try clear c2b0
                                      try clear c2b1
                                      try clear p2
                                      try clear c3
                                      try clear c3b0
                                      try clear c3b1
                                      try clear p3
                                      try clear q3
                                      try clear hx3
                                      try clear qi3
                                      try clear hf3
                                      try clear c4
                                      try clear c4b0
                                      try clear c4b1
                                      try clear q4
                                      try clear c5
                                      try clear p6
                                      try clear c7
                                      try clear c7b0
                                      try clear c8
                                      try clear c8b0
                                      try clear c9
                                      try clear c9b0
                                      try clear c11
                                      try clear c12
                                      try clear c12b0
                                      try clear p12
                                      try clear q12
                                      try clear hx12
                                      try clear p13
                                      try clear q13
                                      try clear hx13
                                      try clear hf13
                                      try clear p14
                                      try clear q14
                                      try clear hx14
                                      try clear p15
                                      try clear q15
                                      try clear hx15
                                      try clear c18
                                      try clear c27
                                      try clear c29
                                      try clear c29b0
                                      try clear c29b1
                                      try clear c29b2
                                      try clear c30
                                      try clear c30b0
                                      try clear c30b1
                                      try clear p31
                                      try clear q31
                                      try clear hx31
                                      try clear qi31
                                      try clear hf31
                                      try clear c36
                                      try clear c36b0
                                      try clear c36b1
                                      try clear c38
                                      try clear c38b0
                                      try clear c39
                                      try clear c39b0
                                      try clear c40
                                      try clear c40b0
                                      try clear c40b1
                                      try clear c41
                                      try clear c41b0
                                      try clear c42
                                      try clear c42b0
                                      try clear c44
                                      try clear c44b0
                                      try clear q47
                                      try clear c51
                                      try clear c51b0
                                      try clear hcz15_0
                                      try clear hcz15_1
                                      try clear hcz19_0
                                      try clear hcz19_1
                                      try clear hcz19_2
                                      try clear hcz19_3
                                      try clear hcz19_4
                                      try clear hcz24_0
                                      try clear hcz24_1
                                      try clear hcz28_0
                                      try clear hcz28_1
                                      try clear hcz28_2
                                      try clear hcz28_3
                                      try clear hcz28_4
                                      try clear hcz50_0
                                      try clear hcz50_1
                                      try clear hcz50_2
                                      try clear hcz50_3
                                      try clear hcz50_4
                                      try clear hcz52_0
                                      try clear hcz52_1
                                      try clear hcz52_2
                                      try clear hcz52_3
                                      try clear hcz52_4
                                      try clear hcz53_0
                                      try clear hcz53_1
                                      try clear hcz53_2
                                      try clear hcz53_3
                                      try clear hcz53_4
                                      try clear hfz15_0
                                      try clear hfz15_1
                                      try clear hfz19_0
                                      try clear hfz19_1
                                      try clear hfz19_2
                                      try clear hfz19_3
                                      try clear hfz19_4
                                      try clear hfz24_0
                                      try clear hfz24_1
                                      try clear hfz28_0
                                      try clear hfz28_1
                                      try clear hfz28_2
                                      try clear hfz28_3
                                      try clear hfz28_4
                                      try clear hfz50_0
                                      try clear hfz50_1
                                      try clear hfz50_2
                                      try clear hfz50_3
                                      try clear hfz50_4
                                      try clear hfz52_0
                                      try clear hfz52_1
                                      try clear hfz52_2
                                      try clear hfz52_3
                                      try clear hfz52_4
                                      try clear hfz53_0
                                      try clear hfz53_1
                                      try clear hfz53_2
                                      try clear hfz53_3
                                      try clear hfz53_4
                                      try clear hx123_0
                                      try clear hx123_1
                                      try clear hx137_0
                                      try clear hx13_0
                                      try clear hx141_0
                                      try clear hx141_1
                                      try clear hx149_0
                                      try clear hx150_0
                                      try clear hx31_0
                                      try clear p1
                                      try clear p12
                                      try clear p123
                                      try clear p13
                                      try clear p137
                                      try clear p141
                                      try clear p149
                                      try clear p150
                                      try clear p2
                                      try clear p3
                                      try clear p31
                                      try clear p6
                                      try clear q1
                                      try clear q12
                                      try clear q123
                                      try clear q13
                                      try clear q137
                                      try clear q141
                                      try clear q149
                                      try clear q150
                                      try clear q3
                                      try clear q31
                                      try clear q47
                                      obtain ⟨kq, x88_44, rfl, HA, HJ44, HO_4, HO_9, BK148, HB⟩ := hcut
                                      cases kq with
                                      | zero => exact absurd HA.out (by simp [code_Depths.j2])
                                      | succ kj44 =>
                                        have H := HA.out
                                        clear HA
                                        simp only [code_Depths.j2] at H
                                        by_cases c54 : x88_44 = true
                                        · subst c54
                                          have H1 : (some (([] : List Int), 12)) = some (r1, r2) := by rw [if_pos rfl] at H; exact H
                                          clear H
                                          have H := H1
                                          clear H1
                                          simp only [Option.some.injEq, Prod.mk.injEq] at H
                                          obtain ⟨rfl, rfl⟩ := H
                                          go_wp2
                                          repeat (go_quiet (fail); try go_wp2)
                                          go_ret2
                                          exact ⟨_, by first | rfl | (simp [errW_none, errW_some] <;> rfl) | (simp only [← hji37]; first | rfl | (simp [errW_none, errW_some] <;> rfl)) | (simp [*, errW_none, errW_some] <;> rfl), by first | exact Kd.R_nil _ _ _ _ _ | exact Kd.N_nil _ _ _ _ _ | exact Kd.V_nil _ _ _ _ _ | exact Kd.Q_nil _ _ _ _ _ | exact Kd.S_nil _ _ _ _ _, by repeat (first | (with_reducible first | exact HB.out | apply below_alloc | apply pw_below_drewN | apply below_drew1 | refine below_set ?_ GE148.out) | exact HB.out)⟩
                                        · replace c54 := Bool.eq_false_iff.mpr c54
                                          subst c54
                                          have H1 : (if 0 ≤ (rd x9_2 (ji37)) then (if (rd x9_2 (ji37)) < (l0.length : Int) then ((code_behind.f ((rd_T41 l0 (rd x9_2 (ji37))).f0) ((rd_T41 l0 (rd x9_2 (ji37))).f1) (rd x9_2 (ji37))).bind fun t152 => (code_Depths.l2 kj44 l0 x4_2 y138 (wrap64 ((wrap64 ((rd x4_2 (rd x9_2 (ji37))) - t142)) + t143)) t152 (t152.length : Int) 0)) else (none)) else (none)) = some (r1, r2) := by rw [if_neg (show ¬ (false = true) by decide)] at H; exact H
                                          clear H
                                          have H := H1
                                          clear H1
                                          by_cases c55 : 0 ≤ (rd x9_2 (ji37))
                                          · rw [if_pos c55] at H
                                            have c55b0 : decide (0 ≤ (rd x9_2 (ji37))) = true := decide_eq_true c55
                                            clear c55
                                            by_cases c56 : (rd x9_2 (ji37)) < (l0.length : Int)
                                            · rw [if_pos c56] at H
                                              have c56b0 : decide ((rd x9_2 (ji37)) < (l0.length : Int)) = true := decide_eq_true c56
                                              clear c56
                                              replace H := Option.bind_eq_some_iff.mp H
                                              obtain ⟨t152, A570, H⟩ := H
                                              replace H : (code_Depths.l2 kj44 l0 x4_2 y138 (wrap64 ((wrap64 ((rd x4_2 (rd x9_2 (ji37))) - t142)) + t143)) t152 (t152.length : Int) 0) = some (r1, r2) := H
                                              have A57 := Aside0.mk A570
                                              clear A570
                                              have H' := Aside0.mk H
                                              clear H
                                              have p151 : 0 ≤ ((rd x9_2 (ji37)) : Int) := of_decide_eq_true (by first | (with_reducible assumption) | assumption)
                                              have q151 : (rd x9_2 (ji37)) < (l0.length : Int) := of_decide_eq_true (by first | (with_reducible assumption) | assumption)
                                              obtain ⟨ad151, e151, hx151_0, hx151_1⟩ := at_T41 HR0.out (rd x9_2 (ji37)) p151 q151
                                              obtain rfl : ad141 = ad151 := (by injection e151)
                                              replace hx151_0 := (HB.out.cell (World.block_lt_of_cell? w _ hx151_0)).trans hx151_0
                                              replace hx151_1 := (HB.out.cell (World.block_lt_of_cell? w _ hx151_1)).trans hx151_1
                                              replace p151 := eq_true p151
                                              replace q151 := eq_true q151
                                              go_wp2_with (first | (go_at_call 26; (with_reducible refine (code_behind.calls ((rd_T41 l0 (rd x9_2 (ji37))).f0) ((rd_T41 l0 (rd x9_2 (ji37))).f1) (rd x9_2 (ji37)) t152 _ A57.out).mono ?_); rintro e w58 ⟨v153, rfl, ho0, hb⟩; have n0_ := Aside0.mk (Kd.R_elder' (by (with_reducible repeat (first | apply Kd.R_alloc | apply Kd.R_drewN | apply Kd.R_drew)); exact HO_4.out) (Kd.R_base ho0) hb); have n1_ := Aside0.mk (Kd.R_elder' (by (with_reducible repeat (first | apply Kd.R_alloc | apply Kd.R_drewN | apply Kd.R_drew)); exact HO_9.out) (Kd.R_base ho0) hb); have n2_ := Aside0.mk (Kd.R_lower (Kd.R_new' (Kd.R_new' ho0 (Kd.R_lt (by (with_reducible repeat (first | apply Kd.R_alloc | apply Kd.R_drewN | apply Kd.R_drew)); exact HO_4.out))) (Kd.R_lt (by (with_reducible repeat (first | apply Kd.R_alloc | apply Kd.R_drewN | apply Kd.R_drew)); exact HO_9.out))) (below_size (by repeat (first | (with_reducible first | exact HB.out | apply below_alloc | apply pw_below_drewN | apply below_drew1 | refine below_set ?_ GE148.out) | exact HB.out)))); have n3_ := Aside0.mk (blk_below (g := gb148) (o := .cells #[.int .i64 t142, .int .i64 t143, .int .i64 t144, .int .i64 t145, .bool t146] 56 (0, 0)) (by (with_reducible repeat (first | refine blk_drewN ?_ _ | refine blk_drew ?_ | refine blk_alloc ?_ _)); exact BK148.out) hb); have n4_ := Aside0.mk (below_step (by repeat (first | (with_reducible first | exact HB.out | apply below_alloc | apply pw_below_drewN | apply below_drew1 | refine below_set ?_ GE148.out) | exact HB.out)) hb); clear HO_4; clear HO_9; clear BK148; clear HB; have HO_4 := n0_; have HO_9 := n1_; have HO154 := n2_; have BK148 := n3_; have HB := n4_; clear n0_ n1_ n2_ n3_ n4_; (try clear hb); (try clear hb2); (try clear hk); (try clear hi); (try clear ho0); obtain ⟨Ao59, co59, eo59⟩ := Kd.R_slice HO154.out; subst eo59))
                                              repeat (go_quiet (first | (go_at_call 26; (with_reducible refine (code_behind.calls ((rd_T41 l0 (rd x9_2 (ji37))).f0) ((rd_T41 l0 (rd x9_2 (ji37))).f1) (rd x9_2 (ji37)) t152 _ A57.out).mono ?_); rintro e w58 ⟨v153, rfl, ho0, hb⟩; have n0_ := Aside0.mk (Kd.R_elder' (by (with_reducible repeat (first | apply Kd.R_alloc | apply Kd.R_drewN | apply Kd.R_drew)); exact HO_4.out) (Kd.R_base ho0) hb); have n1_ := Aside0.mk (Kd.R_elder' (by (with_reducible repeat (first | apply Kd.R_alloc | apply Kd.R_drewN | apply Kd.R_drew)); exact HO_9.out) (Kd.R_base ho0) hb); have n2_ := Aside0.mk (Kd.R_lower (Kd.R_new' (Kd.R_new' ho0 (Kd.R_lt (by (with_reducible repeat (first | apply Kd.R_alloc | apply Kd.R_drewN | apply Kd.R_drew)); exact HO_4.out))) (Kd.R_lt (by (with_reducible repeat (first | apply Kd.R_alloc | apply Kd.R_drewN | apply Kd.R_drew)); exact HO_9.out))) (below_size (by repeat (first | (with_reducible first | exact HB.out | apply below_alloc | apply pw_below_drewN | apply below_drew1 | refine below_set ?_ GE148.out) | exact HB.out)))); have n3_ := Aside0.mk (blk_below (g := gb148) (o := .cells #[.int .i64 t142, .int .i64 t143, .int .i64 t144, .int .i64 t145, .bool t146] 56 (0, 0)) (by (with_reducible repeat (first | refine blk_drewN ?_ _ | refine blk_drew ?_ | refine blk_alloc ?_ _)); exact BK148.out) hb); have n4_ := Aside0.mk (below_step (by repeat (first | (with_reducible first | exact HB.out | apply below_alloc | apply pw_below_drewN | apply below_drew1 | refine below_set ?_ GE148.out) | exact HB.out)) hb); clear HO_4; clear HO_9; clear BK148; clear HB; have HO_4 := n0_; have HO_9 := n1_; have HO154 := n2_; have BK148 := n3_; have HB := n4_; clear n0_ n1_ n2_ n3_ n4_; (try clear hb); (try clear hb2); (try clear hk); (try clear hi); (try clear ho0); obtain ⟨Ao59, co59, eo59⟩ := Kd.R_slice HO154.out; subst eo59)); try go_wp2_with (first | (go_at_call 26; (with_reducible refine (code_behind.calls ((rd_T41 l0 (rd x9_2 (ji37))).f0) ((rd_T41 l0 (rd x9_2 (ji37))).f1) (rd x9_2 (ji37)) t152 _ A57.out).mono ?_); rintro e w58 ⟨v153, rfl, ho0, hb⟩; have n0_ := Aside0.mk (Kd.R_elder' (by (with_reducible repeat (first | apply Kd.R_alloc | apply Kd.R_drewN | apply Kd.R_drew)); exact HO_4.out) (Kd.R_base ho0) hb); have n1_ := Aside0.mk (Kd.R_elder' (by (with_reducible repeat (first | apply Kd.R_alloc | apply Kd.R_drewN | apply Kd.R_drew)); exact HO_9.out) (Kd.R_base ho0) hb); have n2_ := Aside0.mk (Kd.R_lower (Kd.R_new' (Kd.R_new' ho0 (Kd.R_lt (by (with_reducible repeat (first | apply Kd.R_alloc | apply Kd.R_drewN | apply Kd.R_drew)); exact HO_4.out))) (Kd.R_lt (by (with_reducible repeat (first | apply Kd.R_alloc | apply Kd.R_drewN | apply Kd.R_drew)); exact HO_9.out))) (below_size (by repeat (first | (with_reducible first | exact HB.out | apply below_alloc | apply pw_below_drewN | apply below_drew1 | refine below_set ?_ GE148.out) | exact HB.out)))); have n3_ := Aside0.mk (blk_below (g := gb148) (o := .cells #[.int .i64 t142, .int .i64 t143, .int .i64 t144, .int .i64 t145, .bool t146] 56 (0, 0)) (by (with_reducible repeat (first | refine blk_drewN ?_ _ | refine blk_drew ?_ | refine blk_alloc ?_ _)); exact BK148.out) hb); have n4_ := Aside0.mk (below_step (by repeat (first | (with_reducible first | exact HB.out | apply below_alloc | apply pw_below_drewN | apply below_drew1 | refine below_set ?_ GE148.out) | exact HB.out)) hb); clear HO_4; clear HO_9; clear BK148; clear HB; have HO_4 := n0_; have HO_9 := n1_; have HO154 := n2_; have BK148 := n3_; have HB := n4_; clear n0_ n1_ n2_ n3_ n4_; (try clear hb); (try clear hb2); (try clear hk); (try clear hi); (try clear ho0); obtain ⟨Ao59, co59, eo59⟩ := Kd.R_slice HO154.out; subst eo59)))
                                              go_loopg [9, 96] kj44 (fun kq v9 v96 w' => ∃ (x4_4 : List Int) (x9_4 : List Int) (x96_4 : Int), v96 = .int .i64 x96_4 ∧ Aside0 (code_Depths.l2 kq l0 x4_4 x9_4 (wrap64 ((wrap64 ((rd x4_2 (rd x9_2 (ji37))) - t142)) + t143)) t152 (t152.length : Int) x96_4 = some (r1, r2)) ∧ Aside0 (kq ≤ kj44) ∧ Aside0 (Kd.R (Kd.int .i64) 3 w' w.heap.size (fun k_ => some k_ ≠ (v9 : Value).ownBlock ∧ some k_ ≠ ((.slice Ao59 t152.length co59) : Value).ownBlock) (.slice (some ⟨go31, 0, none⟩) x4_2.length co31) x4_4) ∧ Aside0 (Kd.R (Kd.int .i64) 3 w' w.heap.size (fun k_ => some k_ ≠ ((.slice (some ⟨go31, 0, none⟩) x4_2.length co31) : Value).ownBlock ∧ some k_ ≠ ((.slice Ao59 t152.length co59) : Value).ownBlock) v9 x9_4) ∧ Aside0 (Kd.R (Kd.int .i64) 3 w' w.heap.size (fun k_ => some k_ ≠ ((.slice (some ⟨go31, 0, none⟩) x4_2.length co31) : Value).ownBlock ∧ some k_ ≠ (v9 : Value).ownBlock) (.slice Ao59 t152.length co59) t152) ∧ Aside0 (w'.heap[gb148]? = some (.cells #[.int .i64 t142, .int .i64 t143, .int .i64 t144, .int .i64 t145, .bool t146] 56 (0, 0))) ∧ Aside0 (Below w.heap.size w w'))
                                              case atStart => exact ⟨(x4_2), (y138), (0), (by first | rfl | (simp; done) | (simp [*]; done)), H', ⟨Nat.le_refl _⟩, ⟨by (try simp only [hl4_2]); (with_reducible repeat (first | apply Kd.R_alloc | apply Kd.R_drewN | apply Kd.R_drew)); exact HO_4.out⟩, ⟨by (try simp only [hl4_2]); (with_reducible repeat (first | apply Kd.R_alloc | apply Kd.R_drewN | apply Kd.R_drew)); exact HO_9.out⟩, ⟨by (try simp only [hl4_2]); (with_reducible repeat (first | apply Kd.R_alloc | apply Kd.R_drewN | apply Kd.R_drew)); exact Kd.R_mono HO154.out (fun _ hk => ⟨hk.1.2, hk.2⟩)⟩, ⟨by (try simp only [hl4_2]); (with_reducible repeat (first | refine blk_drewN ?_ _ | refine blk_drew ?_ | refine blk_alloc ?_ _)); exact BK148.out⟩, ⟨by repeat (first | (with_reducible first | exact HB.out | apply below_alloc | apply pw_below_drewN | apply below_drew1 | refine below_set ?_ GE148.out) | exact HB.out)⟩⟩
                                              case round =>
                                                clear H'
                                                try clear c1
                                                try clear p1
                                                try clear q1
                                                try clear hx1
                                                try clear hf1
                                                try clear c2
                                                try clear c2b0
                                                try clear c2b1
                                                try clear p2
                                                try clear c3
                                                try clear c3b0
                                                try clear c3b1
                                                try clear p3
                                                try clear q3
                                                try clear hx3
                                                try clear qi3
                                                try clear hf3
                                                try clear c4
                                                try clear c4b0
                                                try clear c4b1
                                                try clear q4
                                                try clear c5
                                                try clear p6
                                                try clear c7
                                                try clear c7b0
                                                try clear c8
                                                try clear c8b0
                                                try clear c9
                                                try clear c9b0
                                                try clear c11
                                                try clear c12
                                                try clear c12b0
                                                try clear p12
                                                try clear q12
                                                try clear hx12
                                                try clear p13
                                                try clear q13
                                                try clear hx13
                                                try clear hf13
                                                try clear p14
                                                try clear q14
                                                try clear hx14
                                                try clear p15
                                                try clear q15
                                                try clear hx15
                                                try clear c18
                                                try clear c27
                                                try clear c29
                                                try clear c29b0
                                                try clear c29b1
                                                try clear c29b2
                                                try clear c30
                                                try clear c30b0
                                                try clear c30b1
                                                try clear p31
                                                try clear q31
                                                try clear hx31
                                                try clear qi31
                                                try clear hf31
                                                try clear c36
                                                try clear c36b0
                                                try clear c36b1
                                                try clear c38
                                                try clear c38b0
                                                try clear c39
                                                try clear c39b0
                                                try clear c40
                                                try clear c40b0
                                                try clear c40b1
                                                try clear c41
                                                try clear c41b0
                                                try clear c42
                                                try clear c42b0
                                                try clear c44
                                                try clear c44b0
                                                try clear q47
                                                try clear c51
                                                try clear c51b0
                                                try clear c54
                                                try clear c55
                                                try clear c55b0
                                                try clear c56
                                                try clear c56b0
                                                try clear hcz15_0
                                                try clear hcz15_1
                                                try clear hcz19_0
                                                try clear hcz19_1
                                                try clear hcz19_2
                                                try clear hcz19_3
                                                try clear hcz19_4
                                                try clear hcz24_0
                                                try clear hcz24_1
                                                try clear hcz28_0
                                                try clear hcz28_1
                                                try clear hcz28_2
                                                try clear hcz28_3
                                                try clear hcz28_4
                                                try clear hcz50_0
                                                try clear hcz50_1
                                                try clear hcz50_2
                                                try clear hcz50_3
                                                try clear hcz50_4
                                                try clear hcz52_0
                                                try clear hcz52_1
                                                try clear hcz52_2
                                                try clear hcz52_3
                                                try clear hcz52_4
                                                try clear hcz53_0
                                                try clear hcz53_1
                                                try clear hcz53_2
                                                try clear hcz53_3
                                                try clear hcz53_4
                                                try clear hfz15_0
                                                try clear hfz15_1
                                                try clear hfz19_0
                                                try clear hfz19_1
                                                try clear hfz19_2
                                                try clear hfz19_3
                                                try clear hfz19_4
                                                try clear hfz24_0
                                                try clear hfz24_1
                                                try clear hfz28_0
                                                try clear hfz28_1
                                                try clear hfz28_2
                                                try clear hfz28_3
                                                try clear hfz28_4
                                                try clear hfz50_0
                                                try clear hfz50_1
                                                try clear hfz50_2
                                                try clear hfz50_3
                                                try clear hfz50_4
                                                try clear hfz52_0
                                                try clear hfz52_1
                                                try clear hfz52_2
                                                try clear hfz52_3
                                                try clear hfz52_4
                                                try clear hfz53_0
                                                try clear hfz53_1
                                                try clear hfz53_2
                                                try clear hfz53_3
                                                try clear hfz53_4
                                                try clear hx123_0
                                                try clear hx123_1
                                                try clear hx137_0
                                                try clear hx13_0
                                                try clear hx141_0
                                                try clear hx141_1
                                                try clear hx149_0
                                                try clear hx150_0
                                                try clear hx151_0
                                                try clear hx151_1
                                                try clear hx31_0
                                                try clear p1
                                                try clear p12
                                                try clear p123
                                                try clear p13
                                                try clear p137
                                                try clear p14
                                                try clear p141
                                                try clear p149
                                                try clear p15
                                                try clear p150
                                                try clear p151
                                                try clear p2
                                                try clear p3
                                                try clear p31
                                                try clear p6
                                                try clear q1
                                                try clear q12
                                                try clear q123
                                                try clear q13
                                                try clear q137
                                                try clear q14
                                                try clear q141
                                                try clear q149
                                                try clear q15
                                                try clear q150
                                                try clear q151
                                                try clear q3
                                                try clear q31
                                                try clear q4
                                                try clear q47
                                                obtain ⟨x4_4, x9_4, x96_4, rfl, HA, HK4, HO_4, HO_9, HO_94, BK148, HB⟩ := hrel
                                                have hl4_4 := (Kd.R_reads' HO_4.out).1
                                                rw [hl4_4] at HO_4
                                                (try simp only [hl4_4])
                                                (try simp only [hl4_4] at BK148)
                                                (try simp only [hl4_4] at HO_9)
                                                (try simp only [hl4_4] at HO_94)
                                                cases gk with
                                                | zero => exact absurd HA.out (by simp [code_Depths.l2])
                                                | succ k4 =>
                                                  have H := HA.out
                                                  clear HA
                                                  simp only [code_Depths.l2] at H
                                                  by_cases c60 : x96_4 < (t152.length : Int)
                                                  · rw [if_pos c60] at H
                                                    have c60b0 : decide (x96_4 < (t152.length : Int)) = true := decide_eq_true c60
                                                    clear c60
                                                    by_cases c61 : 0 ≤ x96_4
                                                    · rw [if_pos c61] at H
                                                      have c61b0 : decide (0 ≤ x96_4) = true := decide_eq_true c61
                                                      clear c61
                                                      by_cases c62 : x96_4 < (t152.length : Int)
                                                      · rw [if_pos c62] at H
                                                        have c62b0 : decide (x96_4 < (t152.length : Int)) = true := decide_eq_true c62
                                                        clear c62
                                                        have HC63 := Aside0.mk H
                                                        clear H
                                                        have p155 : 0 ≤ (x96_4 : Int) := of_decide_eq_true (by first | (with_reducible assumption) | assumption)
                                                        have q155 : x96_4 < (t152.length : Int) := of_decide_eq_true (by first | (with_reducible assumption) | assumption)
                                                        obtain ⟨ad155, e155, hx155_0⟩ := Kd.at_int (Kd.R_reads' HO_94.out).2.2 x96_4 p155 q155
                                                        cases e155
                                                        replace p155 := eq_true p155
                                                        replace q155 := eq_true q155
                                                        go_upto_region 26 with (fail)
                                                        repeat (go_quiet (fail); go_upto_region 26 with (fail))
                                                        go_cut [100] (fun v100 wc => ∃ (kq : Nat) (x100_62 : Bool), v100 = .bool x100_62 ∧ Aside0 (code_Depths.j4 kq l0 x4_4 x9_4 (wrap64 ((wrap64 ((rd x4_2 (rd x9_2 (ji37))) - t142)) + t143)) (rd t152 x96_4) t152 (t152.length : Int) x96_4 x100_62 = some (r1, r2)) ∧ Aside0 (kq ≤ k4) ∧ Aside0 (Kd.R (Kd.int .i64) 3 wc w.heap.size (fun k_ => some k_ ≠ (u9 : Value).ownBlock ∧ some k_ ≠ ((.slice (some ad155) t152.length co59) : Value).ownBlock) (.slice (some ⟨go31, 0, none⟩) x4_4.length co31) x4_4) ∧ Aside0 (Kd.R (Kd.int .i64) 3 wc w.heap.size (fun k_ => some k_ ≠ ((.slice (some ⟨go31, 0, none⟩) x4_4.length co31) : Value).ownBlock ∧ some k_ ≠ ((.slice (some ad155) t152.length co59) : Value).ownBlock) u9 x9_4) ∧ Aside0 (Kd.R (Kd.int .i64) 3 wc w.heap.size (fun k_ => some k_ ≠ ((.slice (some ⟨go31, 0, none⟩) x4_4.length co31) : Value).ownBlock ∧ some k_ ≠ (u9 : Value).ownBlock) (.slice (some ad155) t152.length co59) t152) ∧ Aside0 (wc.heap[gb148]? = some (.cells #[.int .i64 t142, .int .i64 t143, .int .i64 t144, .int .i64 t145, .bool t146] 56 (0, 0))) ∧ Aside0 (Below w.heap.size w wc))
                                                        case first =>
                                                          have H := HC63.out
                                                          clear HC63
                                                          by_cases c64 : (rd t152 x96_4) ≥ (l0.length : Int)
                                                          · rw [if_pos c64] at H
                                                            have c64b0 : decide ((l0.length : Int) ≤ (rd t152 x96_4)) = true := decide_eq_true c64
                                                            clear c64
                                                            (first | rw [c64b0] | (simp only [i64_w, i32_w]; rw [c64b0]) | skip)
                                                            have H' := Aside0.mk H
                                                            clear H
                                                            go_wp2
                                                            repeat (go_quiet (fail); try go_wp2)
                                                            go_meet
                                                            case rel => exact ⟨_, (true), (by first | rfl | (simp; done) | (simp [*]; done)), H', ⟨by have := HK1.out; have := HK2.out; have := HJ44.out; have := HK4.out; first | omega | exact Nat.le_refl _⟩, ⟨by (try simp only [hl4_2]); (try simp only [hl4_4]); (with_reducible repeat (first | apply Kd.R_alloc | apply Kd.R_drewN | apply Kd.R_drew)); exact HO_4.out⟩, ⟨by (try simp only [hl4_2]); (try simp only [hl4_4]); (with_reducible repeat (first | apply Kd.R_alloc | apply Kd.R_drewN | apply Kd.R_drew)); exact HO_9.out⟩, ⟨by (try simp only [hl4_2]); (try simp only [hl4_4]); (with_reducible repeat (first | apply Kd.R_alloc | apply Kd.R_drewN | apply Kd.R_drew)); exact HO_94.out⟩, ⟨by (try simp only [hl4_2]); (try simp only [hl4_4]); (with_reducible repeat (first | refine blk_drewN ?_ _ | refine blk_drew ?_ | refine blk_alloc ?_ _)); exact BK148.out⟩, ⟨by repeat (first | (with_reducible first | exact HB.out | apply below_alloc | apply pw_below_drewN | apply below_drew1 | refine below_set ?_ GE148.out) | exact HB.out)⟩⟩
                                                          · rw [if_neg c64] at H
                                                            have c64b0 : decide ((l0.length : Int) ≤ (rd t152 x96_4)) = false := decide_eq_false c64
                                                            clear c64
                                                            (first | rw [c64b0] | (simp only [i64_w, i32_w]; rw [c64b0]) | skip)
                                                            by_cases c65 : 0 ≤ (rd t152 x96_4)
                                                            · rw [if_pos c65] at H
                                                              have c65b0 : decide (0 ≤ (rd t152 x96_4)) = true := decide_eq_true c65
                                                              clear c65
                                                              by_cases c66 : (rd t152 x96_4) < (x4_4.length : Int)
                                                              · rw [if_pos c66] at H
                                                                have c66b0 : decide ((rd t152 x96_4) < (x4_4.length : Int)) = true := decide_eq_true c66
                                                                clear c66
                                                                by_cases c67 : (rd x4_4 (rd t152 x96_4)) ≥ 0
                                                                · rw [if_pos c67] at H
                                                                  have c67b0 : decide (0 ≤ (rd x4_4 (rd t152 x96_4))) = true := decide_eq_true c67
                                                                  clear c67
                                                                  have H' := Aside0.mk H
                                                                  clear H
                                                                  have p156 : 0 ≤ ((rd t152 x96_4) : Int) := of_decide_eq_true (by first | (with_reducible assumption) | assumption)
                                                                  have q156 : (rd t152 x96_4) < (x4_4.length : Int) := of_decide_eq_true (by first | (with_reducible assumption) | assumption)
                                                                  obtain ⟨ad156, e156, hx156_0⟩ := Kd.at_int (Kd.R_reads' HO_4.out).2.2 (rd t152 x96_4) p156 q156
                                                                  obtain rfl : (⟨go31, 0, none⟩ : Addr) = ad156 := (by injection e156)
                                                                  (first | simp only [add_plain] at hx156_0 | simp only [add_at] at hx156_0 | simp only [Addr.add, Nat.zero_add] at hx156_0 | skip)
                                                                  replace p156 := eq_true p156
                                                                  replace q156 := eq_true q156
                                                                  have p157 : 0 ≤ ((rd t152 x96_4) : Int) := of_decide_eq_true (by first | (with_reducible assumption) | assumption)
                                                                  have q157 : (rd t152 x96_4) < (x4_4.length : Int) := of_decide_eq_true (by first | (with_reducible assumption) | assumption)
                                                                  obtain ⟨ad157, e157, hx157_0⟩ := Kd.at_int (Kd.R_reads' HO_4.out).2.2 (rd t152 x96_4) p157 q157
                                                                  obtain rfl : (⟨go31, 0, none⟩ : Addr) = ad157 := (by injection e157)
                                                                  (first | simp only [add_plain] at hx157_0 | simp only [add_at] at hx157_0 | simp only [Addr.add, Nat.zero_add] at hx157_0 | skip)
                                                                  replace p157 := eq_true p157
                                                                  replace q157 := eq_true q157
                                                                  go_wp2
                                                                  repeat (go_quiet (fail); try go_wp2)
                                                                  go_meet
                                                                  case rel => exact ⟨_, (((rd x4_4 (rd t152 x96_4)) != (wrap64 ((wrap64 ((rd x4_2 (rd x9_2 (ji37))) - t142)) + t143)))), (by first | rfl | (simp; done) | (simp only [← hji37] <;> (first | rfl | simp)) | (simp [*]; done)), H', ⟨by have := HK1.out; have := HK2.out; have := HJ44.out; have := HK4.out; first | omega | exact Nat.le_refl _⟩, ⟨by (try simp only [hl4_2]); (try simp only [hl4_4]); (with_reducible repeat (first | apply Kd.R_alloc | apply Kd.R_drewN | apply Kd.R_drew)); exact HO_4.out⟩, ⟨by (try simp only [hl4_2]); (try simp only [hl4_4]); (with_reducible repeat (first | apply Kd.R_alloc | apply Kd.R_drewN | apply Kd.R_drew)); exact HO_9.out⟩, ⟨by (try simp only [hl4_2]); (try simp only [hl4_4]); (with_reducible repeat (first | apply Kd.R_alloc | apply Kd.R_drewN | apply Kd.R_drew)); exact HO_94.out⟩, ⟨by (try simp only [hl4_2]); (try simp only [hl4_4]); (with_reducible repeat (first | refine blk_drewN ?_ _ | refine blk_drew ?_ | refine blk_alloc ?_ _)); exact BK148.out⟩, ⟨by repeat (first | (with_reducible first | exact HB.out | apply below_alloc | apply pw_below_drewN | apply below_drew1 | refine below_set ?_ GE148.out) | exact HB.out)⟩⟩
                                                                · rw [if_neg c67] at H
                                                                  have c67b0 : decide (0 ≤ (rd x4_4 (rd t152 x96_4))) = false := decide_eq_false c67
                                                                  clear c67
                                                                  have H' := Aside0.mk H
                                                                  clear H
                                                                  have p156 : 0 ≤ ((rd t152 x96_4) : Int) := of_decide_eq_true (by first | (with_reducible assumption) | assumption)
                                                                  have q156 : (rd t152 x96_4) < (x4_4.length : Int) := of_decide_eq_true (by first | (with_reducible assumption) | assumption)
                                                                  obtain ⟨ad156, e156, hx156_0⟩ := Kd.at_int (Kd.R_reads' HO_4.out).2.2 (rd t152 x96_4) p156 q156
                                                                  obtain rfl : (⟨go31, 0, none⟩ : Addr) = ad156 := (by injection e156)
                                                                  (first | simp only [add_plain] at hx156_0 | simp only [add_at] at hx156_0 | simp only [Addr.add, Nat.zero_add] at hx156_0 | skip)
                                                                  replace p156 := eq_true p156
                                                                  replace q156 := eq_true q156
                                                                  go_wp2
                                                                  repeat (go_quiet (fail); try go_wp2)
                                                                  go_meet
                                                                  case rel => exact ⟨_, (false), (by first | rfl | (simp; done) | (simp [*]; done)), H', ⟨by have := HK1.out; have := HK2.out; have := HJ44.out; have := HK4.out; first | omega | exact Nat.le_refl _⟩, ⟨by (try simp only [hl4_2]); (try simp only [hl4_4]); (with_reducible repeat (first | apply Kd.R_alloc | apply Kd.R_drewN | apply Kd.R_drew)); exact HO_4.out⟩, ⟨by (try simp only [hl4_2]); (try simp only [hl4_4]); (with_reducible repeat (first | apply Kd.R_alloc | apply Kd.R_drewN | apply Kd.R_drew)); exact HO_9.out⟩, ⟨by (try simp only [hl4_2]); (try simp only [hl4_4]); (with_reducible repeat (first | apply Kd.R_alloc | apply Kd.R_drewN | apply Kd.R_drew)); exact HO_94.out⟩, ⟨by (try simp only [hl4_2]); (try simp only [hl4_4]); (with_reducible repeat (first | refine blk_drewN ?_ _ | refine blk_drew ?_ | refine blk_alloc ?_ _)); exact BK148.out⟩, ⟨by repeat (first | (with_reducible first | exact HB.out | apply below_alloc | apply pw_below_drewN | apply below_drew1 | refine below_set ?_ GE148.out) | exact HB.out)⟩⟩
                                                              · rw [if_neg c66] at H
                                                                exact absurd H (by simp)
                                                            · rw [if_neg c65] at H
                                                              exact absurd H (by simp)
                                                        case rest =>
                                                          clear HC63
                                                          try clear c1
                                                          try clear p1
                                                          try clear q1
                                                          try clear hx1
                                                          try clear hf1
                                                          try clear c2
                                                          try clear c2b0
                                                          try clear c2b1
                                                          try clear p2
                                                          try clear c3
                                                          try clear c3b0
                                                          try clear c3b1
                                                          try clear p3
                                                          try clear q3
                                                          try clear hx3
                                                          try clear qi3
                                                          try clear hf3
                                                          try clear c4
                                                          try clear c4b0
                                                          try clear c4b1
                                                          try clear q4
                                                          try clear c5
                                                          try clear c6
                                                          try clear p6
                                                          try clear c7
                                                          try clear c7b0
                                                          try clear c8
                                                          try clear c8b0
                                                          try clear c9
                                                          try clear c9b0
                                                          try clear c11
                                                          try clear c12
                                                          try clear c12b0
                                                          try clear p12
                                                          try clear q12
                                                          try clear hx12
                                                          try clear p13
                                                          try clear q13
                                                          try clear hx13
                                                          try clear hf13
                                                          try clear p14
                                                          try clear q14
                                                          try clear hx14
                                                          try clear p15
                                                          try clear q15
                                                          try clear hx15
                                                          try clear c18
                                                          try clear c27
                                                          try clear c29
                                                          try clear c29b0
                                                          try clear c29b1
                                                          try clear c29b2
                                                          try clear c30
                                                          try clear c30b0
                                                          try clear c30b1
                                                          try clear p31
                                                          try clear q31
                                                          try clear hx31
                                                          try clear qi31
                                                          try clear hf31
                                                          try clear c36
                                                          try clear c36b0
                                                          try clear c36b1
                                                          try clear c38
                                                          try clear c38b0
                                                          try clear c39
                                                          try clear c39b0
                                                          try clear c40
                                                          try clear c40b0
                                                          try clear c40b1
                                                          try clear c41
                                                          try clear c41b0
                                                          try clear c42
                                                          try clear c42b0
                                                          try clear c44
                                                          try clear c44b0
                                                          try clear q47
                                                          try clear c51
                                                          try clear c51b0
                                                          try clear c54
                                                          try clear c55
                                                          try clear c55b0
                                                          try clear c56
                                                          try clear c56b0
                                                          try clear c60
                                                          try clear c60b0
                                                          try clear c61
                                                          try clear c61b0
                                                          try clear c62
                                                          try clear c62b0
                                                          try clear c64
                                                          try clear c64b0
                                                          try clear p64
                                                          try clear c65
                                                          try clear c65b0
                                                          try clear c66
                                                          try clear c66b0
                                                          try clear c67
                                                          try clear c67b0
                                                          try clear hcz15_0
                                                          try clear hcz15_1
                                                          try clear hcz19_0
                                                          try clear hcz19_1
                                                          try clear hcz19_2
                                                          try clear hcz19_3
                                                          try clear hcz19_4
                                                          try clear hcz24_0
                                                          try clear hcz24_1
                                                          try clear hcz28_0
                                                          try clear hcz28_1
                                                          try clear hcz28_2
                                                          try clear hcz28_3
                                                          try clear hcz28_4
                                                          try clear hcz50_0
                                                          try clear hcz50_1
                                                          try clear hcz50_2
                                                          try clear hcz50_3
                                                          try clear hcz50_4
                                                          try clear hcz52_0
                                                          try clear hcz52_1
                                                          try clear hcz52_2
                                                          try clear hcz52_3
                                                          try clear hcz52_4
                                                          try clear hcz53_0
                                                          try clear hcz53_1
                                                          try clear hcz53_2
                                                          try clear hcz53_3
                                                          try clear hcz53_4
                                                          try clear hfz15_0
                                                          try clear hfz15_1
                                                          try clear hfz19_0
                                                          try clear hfz19_1
                                                          try clear hfz19_2
                                                          try clear hfz19_3
                                                          try clear hfz19_4
                                                          try clear hfz24_0
                                                          try clear hfz24_1
                                                          try clear hfz28_0
                                                          try clear hfz28_1
                                                          try clear hfz28_2
                                                          try clear hfz28_3
                                                          try clear hfz28_4
                                                          try clear hfz50_0
                                                          try clear hfz50_1
                                                          try clear hfz50_2
                                                          try clear hfz50_3
                                                          try clear hfz50_4
                                                          try clear hfz52_0
                                                          try clear hfz52_1
                                                          try clear hfz52_2
                                                          try clear hfz52_3
                                                          try clear hfz52_4
                                                          try clear hfz53_0
                                                          try clear hfz53_1
                                                          try clear hfz53_2
                                                          try clear hfz53_3
                                                          try clear hfz53_4
                                                          try clear hx123_0
                                                          try clear hx123_1
                                                          try clear hx137_0
                                                          try clear hx13_0
                                                          try clear hx141_0
                                                          try clear hx141_1
                                                          try clear hx149_0
                                                          try clear hx150_0
                                                          try clear hx151_0
                                                          try clear hx151_1
                                                          try clear hx155_0
                                                          try clear hx156_0
                                                          try clear hx157_0
                                                          try clear hx31_0
                                                          try clear p1
                                                          try clear p12
                                                          try clear p123
                                                          try clear p13
                                                          try clear p137
                                                          try clear p14
                                                          try clear p141
                                                          try clear p149
                                                          try clear p15
                                                          try clear p150
                                                          try clear p151
                                                          try clear p155
                                                          try clear p156
                                                          try clear p157
                                                          try clear p2
                                                          try clear p3
                                                          try clear p31
                                                          try clear p6
                                                          try clear q1
                                                          try clear q12
                                                          try clear q123
                                                          try clear q13
                                                          try clear q137
                                                          try clear q14
                                                          try clear q141
                                                          try clear q149
                                                          try clear q15
                                                          try clear q150
                                                          try clear q151
                                                          try clear q155
                                                          try clear q156
                                                          try clear q157
                                                          try clear q3
                                                          try clear q31
                                                          try clear q4
                                                          try clear q47
                                                          obtain ⟨kq, x100_62, rfl, HA, HJ62, HO_4, HO_9, HO_94, BK148, HB⟩ := hcut
                                                          cases kq with
                                                          | zero => exact absurd HA.out (by simp [code_Depths.j4])
                                                          | succ kj62 =>
                                                            have H := HA.out
                                                            clear HA
                                                            simp only [code_Depths.j4] at H
                                                            by_cases c68 : x100_62 = true
                                                            · subst c68
                                                              have H1 : (some (([] : List Int), 12)) = some (r1, r2) := by rw [if_pos rfl] at H; exact H
                                                              clear H
                                                              have H := H1
                                                              clear H1
                                                              simp only [Option.some.injEq, Prod.mk.injEq] at H
                                                              obtain ⟨rfl, rfl⟩ := H
                                                              go_wp2
                                                              repeat (go_quiet (fail); try go_wp2)
                                                              go_ret2
                                                              exact ⟨_, by first | rfl | (simp [errW_none, errW_some] <;> rfl) | (simp only [← hji37]; first | rfl | (simp [errW_none, errW_some] <;> rfl)) | (simp [*, errW_none, errW_some] <;> rfl), by first | exact Kd.R_nil _ _ _ _ _ | exact Kd.N_nil _ _ _ _ _ | exact Kd.V_nil _ _ _ _ _ | exact Kd.Q_nil _ _ _ _ _ | exact Kd.S_nil _ _ _ _ _, by repeat (first | (with_reducible first | exact HB.out | apply below_alloc | apply pw_below_drewN | apply below_drew1 | refine below_set ?_ GE148.out) | exact HB.out)⟩
                                                            · replace c68 := Bool.eq_false_iff.mpr c68
                                                              subst c68
                                                              have H1 : (if 0 ≤ (rd t152 x96_4) then (if (rd t152 x96_4) < (x4_4.length : Int) then (if (rd x4_4 (rd t152 x96_4)) < 0 then (if x9_4.length < 17592186044416 then (code_Depths.l2 kj62 l0 (x4_4.set ((rd t152 x96_4) : Int).toNat (wrap64 ((wrap64 ((rd x4_2 (rd x9_2 (ji37))) - t142)) + t143))) (x9_4 ++ [(rd t152 x96_4)]) (wrap64 ((wrap64 ((rd x4_2 (rd x9_2 (ji37))) - t142)) + t143)) t152 (t152.length : Int) (wrap64 (x96_4 + 1))) else (none)) else (code_Depths.l2 kj62 l0 x4_4 x9_4 (wrap64 ((wrap64 ((rd x4_2 (rd x9_2 (ji37))) - t142)) + t143)) t152 (t152.length : Int) (wrap64 (x96_4 + 1)))) else (none)) else (none)) = some (r1, r2) := by rw [if_neg (show ¬ (false = true) by decide)] at H; exact H
                                                              clear H
                                                              have H := H1
                                                              clear H1
                                                              by_cases c69 : 0 ≤ (rd t152 x96_4)
                                                              · rw [if_pos c69] at H
                                                                have c69b0 : decide (0 ≤ (rd t152 x96_4)) = true := decide_eq_true c69
                                                                clear c69
                                                                by_cases c70 : (rd t152 x96_4) < (x4_4.length : Int)
                                                                · rw [if_pos c70] at H
                                                                  have c70b0 : decide ((rd t152 x96_4) < (x4_4.length : Int)) = true := decide_eq_true c70
                                                                  clear c70
                                                                  by_cases c71 : (rd x4_4 (rd t152 x96_4)) < 0
                                                                  · rw [if_pos c71] at H
                                                                    have c71b0 : decide ((rd x4_4 (rd t152 x96_4)) < 0) = true := decide_eq_true c71
                                                                    clear c71
                                                                    obtain ⟨y159, hy159⟩ : ∃ y_ : List Int, y_ = (x4_4.set ((rd t152 x96_4) : Int).toNat (wrap64 ((wrap64 ((rd x4_2 (rd x9_2 (ji37))) - t142)) + t143))) := ⟨_, rfl⟩
                                                                    replace H : (if x9_4.length < 17592186044416 then (code_Depths.l2 kj62 l0 y159 (x9_4 ++ [(rd t152 x96_4)]) (wrap64 ((wrap64 ((rd x4_2 (rd x9_2 (ji37))) - t142)) + t143)) t152 (t152.length : Int) (wrap64 (x96_4 + 1))) else (none)) = some (r1, r2) := by first | (rw [hy159]; with_reducible exact H) | (have H2_ := (Option.bind_some _ _).symm.trans H; rw [hy159]; with_reducible exact H2_) | (have H2_ := (Option.bind_some _ _).symm.trans H; with_reducible exact H2_) | with_reducible exact H | (rw [hy159]; exact H) | exact H
                                                                    have Ny159 := Aside0.mk hy159
                                                                    clear hy159
                                                                    by_cases c73 : x9_4.length < 17592186044416
                                                                    · rw [if_pos c73] at H
                                                                      have LMc73 := Aside0.mk c73
                                                                      clear c73
                                                                      obtain ⟨y160, hy160⟩ : ∃ y_ : List Int, y_ = (x9_4 ++ [(rd t152 x96_4)]) := ⟨_, rfl⟩
                                                                      replace H : (code_Depths.l2 kj62 l0 y159 y160 (wrap64 ((wrap64 ((rd x4_2 (rd x9_2 (ji37))) - t142)) + t143)) t152 (t152.length : Int) (wrap64 (x96_4 + 1))) = some (r1, r2) := by first | (rw [hy160]; with_reducible exact H) | (have H2_ := (Option.bind_some _ _).symm.trans H; rw [hy160]; with_reducible exact H2_) | (have H2_ := (Option.bind_some _ _).symm.trans H; with_reducible exact H2_) | with_reducible exact H | (rw [hy160]; exact H) | exact H
                                                                      have Ny160 := Aside0.mk hy160
                                                                      clear hy160
                                                                      have H' := Aside0.mk H
                                                                      clear H
                                                                      have p158 : 0 ≤ ((rd t152 x96_4) : Int) := of_decide_eq_true (by first | (with_reducible assumption) | assumption)
                                                                      have q158 : (rd t152 x96_4) < (x4_4.length : Int) := of_decide_eq_true (by first | (with_reducible assumption) | assumption)
                                                                      obtain ⟨ad158, e158, hx158_0⟩ := Kd.at_int (Kd.R_reads' HO_4.out).2.2 (rd t152 x96_4) p158 q158
                                                                      obtain rfl : (⟨go31, 0, none⟩ : Addr) = ad158 := (by injection e158)
                                                                      (first | simp only [add_plain] at hx158_0 | simp only [add_at] at hx158_0 | simp only [Addr.add, Nat.zero_add] at hx158_0 | skip)
                                                                      replace p158 := eq_true p158
                                                                      replace q158 := eq_true q158
                                                                      have p72 : 0 ≤ ((rd t152 x96_4) : Int) := of_decide_eq_true (by first | (with_reducible assumption) | assumption)
                                                                      have q72 : ((rd t152 x96_4) : Int) < ((x4_4.length : Int) : Int) := of_decide_eq_true (by first | (with_reducible assumption) | assumption)
                                                                      obtain ⟨hx72_0, hf72_0⟩ := Kd.R_celln 0 HO_4.out ((rd t152 x96_4) : Int) p72 q72
                                                                      replace p72 := eq_true p72
                                                                      replace q72 := eq_true q72
                                                                      have HP74 := Kd.R_putg HO_4.out ((rd t152 x96_4) : Int) (wrap64 ((wrap64 ((rd x4_2 (rd x9_2 (ji37))) - t142)) + t143))
                                                                      go_wp2_with (first | ((with_reducible refine gate_store (t := 3) (p := 129) rfl ?_); (try (rw [drewN_self wc]; generalize hq_ : World.drewN wc _ = wc; have n0_ := Aside0.mk (Kd.R_at hq_ HO_4.out); have n1_ := Aside0.mk (Kd.R_at hq_ HO_9.out); have n2_ := Aside0.mk (Kd.R_at hq_ HO_94.out); have n3_ := Aside0.mk (blk_at hq_ BK148.out); have n4_ := Aside0.mk (below_at hq_ HB.out); clear hq_ HO_4 HO_9 HO_94 BK148 HB; have HO_4 := n0_; have HO_9 := n1_; have HO_94 := n2_; have BK148 := n3_; have HB := n4_; clear n0_ n1_ n2_ n3_ n4_; (try (have HP74 := Kd.R_putg HO_4.out ((rd t152 x96_4) : Int) (wrap64 ((wrap64 ((rd x4_2 (rd x9_2 (ji37))) - t142)) + t143)))))); refine store_event (t := 3) (p := 129) (v := ?vo_w75) (w1 := (wc.setCell ⟨go31, ((rd t152 x96_4) : Int).toNat, none⟩ (.int .i64 (wrap64 ((wrap64 ((rd x4_2 (rd x9_2 (ji37))) - t142)) + t143))))) ?hg ?ho ?hn ?hr ?_; (case ho => rfl); (case hg => rfl); (case hn => rfl); (case hr => first | (go_simp; done) | (go_simp; rfl)); intro w75 hw; have hg : wc.grownBy w75 (some go31) := (by rw [hw]; exact HP74.2); have hp_ : Kd.R (Kd.int .i64) 3 w75 w.heap.size (fun k_ => some k_ ≠ (u9 : Value).ownBlock ∧ some k_ ≠ (.slice (some ad155) t152.length co59 : Value).ownBlock) (.slice (some ⟨go31, 0, none⟩) x4_4.length co31) y159 := (by rw [hw, Ny159.out]; exact HP74.1); clear HP74; have n0_ := Aside0.mk (hp_); have n1_ := Aside0.mk (Kd.R_after (v := (.slice (some ⟨go31, 0, none⟩) x4_4.length co31)) (v1 := (.slice (some ⟨go31, 0, none⟩) x4_4.length co31)) (ok := (fun k_ => some k_ ≠ (.slice (some ad155) t152.length co59 : Value).ownBlock)) (by (with_reducible repeat (first | apply Kd.R_alloc | apply Kd.R_drewN | apply Kd.R_drew)); exact Kd.R_mono HO_9.out (fun _ hk => ⟨hk.2, hk.1⟩)) hg (.inl rfl)); have n2_ := Aside0.mk (Kd.R_after (v := (.slice (some ⟨go31, 0, none⟩) x4_4.length co31)) (v1 := (.slice (some ⟨go31, 0, none⟩) x4_4.length co31)) (ok := (fun k_ => some k_ ≠ (u9 : Value).ownBlock)) (by (with_reducible repeat (first | apply Kd.R_alloc | apply Kd.R_drewN | apply Kd.R_drew)); exact Kd.R_mono HO_94.out (fun _ hk => ⟨hk.2, hk.1⟩)) hg (.inl rfl)); have n3_ := Aside0.mk (blk_grown (g := gb148) (o := .cells #[.int .i64 t142, .int .i64 t143, .int .i64 t144, .int .i64 t145, .bool t146] 56 (0, 0)) (by (with_reducible repeat (first | refine blk_drewN ?_ _ | refine blk_drew ?_ | refine blk_alloc ?_ _)); exact BK148.out) hg (Kd.R_ne HO_4.out BK148.out (by decide))); have n4_ := Aside0.mk ((by rw [hw]; exact below_set (HB.out) GB31.out : Below w.heap.size w w75)); clear HO_4; clear HO_9; clear HO_94; clear BK148; clear HB; have HO_4 := n0_; have HO_9 := n1_; have HO_94 := n2_; have BK148 := n3_; have HB := n4_; clear n0_ n1_ n2_ n3_ n4_; clear hg hw hp_) | ((with_reducible refine gate_builtin (b := .append) (xs := #[.tmp 130, .tmp 132]) rfl ?_); at_builtin; refine Kd.R_append (Kd.int .i64) (w0 := w) w.heap.size rfl (.tmp 130) (.tmp 132) 24 3 (.int .i64 0) 8 rfl Try.underlying24 info3 rfl (by decide) (by omega) u9 x9_4 (rd t152 x96_4) [.int .i64 (rd t152 x96_4)] (fun k_ => some k_ ≠ (.slice (some ⟨go31, 0, none⟩) x4_4.length co31 : Value).ownBlock ∧ some k_ ≠ (.slice (some ad155) t152.length co59 : Value).ownBlock) (fun _ => False) rfl rfl ?aP (fun _ hk => hk.elim) ?aF ?aO ?aB ?aS ?aL ?_; (case aP => exact rfl); (case aB => exact (by repeat (first | (with_reducible first | exact HB.out | apply below_alloc | apply pw_below_drewN | apply below_drew1 | refine below_set ?_ GE148.out) | exact HB.out))); (case aF => exact (fun k_ hk => ⟨Kd.fresh' (Kd.R_lt (by (with_reducible repeat (first | apply Kd.R_alloc | apply Kd.R_drewN | apply Kd.R_drew)); exact HO_4.out)) k_ hk, Kd.fresh' (Kd.R_lt (by (with_reducible repeat (first | apply Kd.R_alloc | apply Kd.R_drewN | apply Kd.R_drew)); exact HO_94.out)) k_ hk⟩)); (case aO => exact (by (with_reducible repeat (first | apply Kd.R_alloc | apply Kd.R_drewN | apply Kd.R_drew)); exact Kd.R_mono HO_9.out (fun _ hk => ⟨hk.2, hk.1⟩))); (case aS => exact (below_size (by repeat (first | (with_reducible first | exact HB.out | apply below_alloc | apply pw_below_drewN | apply below_drew1 | refine below_set ?_ GE148.out) | exact HB.out)))); (case aL => have := LMc73.out; omega); intro v161 w76 ho hb hg hat; rw [← Ny160.out] at ho; have n0_ := Aside0.mk (Kd.R_after (ok := (fun k_ => some k_ ≠ (.slice (some ad155) t152.length co59 : Value).ownBlock)) (by (with_reducible repeat (first | apply Kd.R_alloc | apply Kd.R_drewN | apply Kd.R_drew)); exact Kd.R_mono HO_4.out (fun _ hk => ⟨hk.2, hk.1⟩)) hg hat); have n1_ := Aside0.mk (Kd.R_after (ok := (fun k_ => some k_ ≠ (.slice (some ⟨go31, 0, none⟩) x4_4.length co31 : Value).ownBlock)) (by (with_reducible repeat (first | apply Kd.R_alloc | apply Kd.R_drewN | apply Kd.R_drew)); exact Kd.R_mono HO_94.out (fun _ hk => ⟨hk.2, hk.1⟩)) hg hat); have n2_ := Aside0.mk (blk_grown (g := gb148) (o := .cells #[.int .i64 t142, .int .i64 t143, .int .i64 t144, .int .i64 t145, .bool t146] 56 (0, 0)) (by (with_reducible repeat (first | refine blk_drewN ?_ _ | refine blk_drew ?_ | refine blk_alloc ?_ _)); exact BK148.out) hg (Kd.R_ne HO_9.out BK148.out (by decide))); have n3_ := Aside0.mk (hb); have n4_ := Aside0.mk (ho); clear HO_4; clear HO_94; clear BK148; clear HB; clear HO_9; have HO_4 := n0_; have HO_94 := n1_; have BK148 := n2_; have HB := n3_; have HO162 := n4_; clear n0_ n1_ n2_ n3_ n4_; clear ho hb hg hat))
                                                                      repeat (go_quiet (first | ((with_reducible refine gate_store (t := 3) (p := 129) rfl ?_); (try (rw [drewN_self wc]; generalize hq_ : World.drewN wc _ = wc; have n0_ := Aside0.mk (Kd.R_at hq_ HO_4.out); have n1_ := Aside0.mk (Kd.R_at hq_ HO_9.out); have n2_ := Aside0.mk (Kd.R_at hq_ HO_94.out); have n3_ := Aside0.mk (blk_at hq_ BK148.out); have n4_ := Aside0.mk (below_at hq_ HB.out); clear hq_ HO_4 HO_9 HO_94 BK148 HB; have HO_4 := n0_; have HO_9 := n1_; have HO_94 := n2_; have BK148 := n3_; have HB := n4_; clear n0_ n1_ n2_ n3_ n4_; (try (have HP74 := Kd.R_putg HO_4.out ((rd t152 x96_4) : Int) (wrap64 ((wrap64 ((rd x4_2 (rd x9_2 (ji37))) - t142)) + t143)))))); refine store_event (t := 3) (p := 129) (v := ?vo_w75) (w1 := (wc.setCell ⟨go31, ((rd t152 x96_4) : Int).toNat, none⟩ (.int .i64 (wrap64 ((wrap64 ((rd x4_2 (rd x9_2 (ji37))) - t142)) + t143))))) ?hg ?ho ?hn ?hr ?_; (case ho => rfl); (case hg => rfl); (case hn => rfl); (case hr => first | (go_simp; done) | (go_simp; rfl)); intro w75 hw; have hg : wc.grownBy w75 (some go31) := (by rw [hw]; exact HP74.2); have hp_ : Kd.R (Kd.int .i64) 3 w75 w.heap.size (fun k_ => some k_ ≠ (u9 : Value).ownBlock ∧ some k_ ≠ (.slice (some ad155) t152.length co59 : Value).ownBlock) (.slice (some ⟨go31, 0, none⟩) x4_4.length co31) y159 := (by rw [hw, Ny159.out]; exact HP74.1); clear HP74; have n0_ := Aside0.mk (hp_); have n1_ := Aside0.mk (Kd.R_after (v := (.slice (some ⟨go31, 0, none⟩) x4_4.length co31)) (v1 := (.slice (some ⟨go31, 0, none⟩) x4_4.length co31)) (ok := (fun k_ => some k_ ≠ (.slice (some ad155) t152.length co59 : Value).ownBlock)) (by (with_reducible repeat (first | apply Kd.R_alloc | apply Kd.R_drewN | apply Kd.R_drew)); exact Kd.R_mono HO_9.out (fun _ hk => ⟨hk.2, hk.1⟩)) hg (.inl rfl)); have n2_ := Aside0.mk (Kd.R_after (v := (.slice (some ⟨go31, 0, none⟩) x4_4.length co31)) (v1 := (.slice (some ⟨go31, 0, none⟩) x4_4.length co31)) (ok := (fun k_ => some k_ ≠ (u9 : Value).ownBlock)) (by (with_reducible repeat (first | apply Kd.R_alloc | apply Kd.R_drewN | apply Kd.R_drew)); exact Kd.R_mono HO_94.out (fun _ hk => ⟨hk.2, hk.1⟩)) hg (.inl rfl)); have n3_ := Aside0.mk (blk_grown (g := gb148) (o := .cells #[.int .i64 t142, .int .i64 t143, .int .i64 t144, .int .i64 t145, .bool t146] 56 (0, 0)) (by (with_reducible repeat (first | refine blk_drewN ?_ _ | refine blk_drew ?_ | refine blk_alloc ?_ _)); exact BK148.out) hg (Kd.R_ne HO_4.out BK148.out (by decide))); have n4_ := Aside0.mk ((by rw [hw]; exact below_set (HB.out) GB31.out : Below w.heap.size w w75)); clear HO_4; clear HO_9; clear HO_94; clear BK148; clear HB; have HO_4 := n0_; have HO_9 := n1_; have HO_94 := n2_; have BK148 := n3_; have HB := n4_; clear n0_ n1_ n2_ n3_ n4_; clear hg hw hp_) | ((with_reducible refine gate_builtin (b := .append) (xs := #[.tmp 130, .tmp 132]) rfl ?_); at_builtin; refine Kd.R_append (Kd.int .i64) (w0 := w) w.heap.size rfl (.tmp 130) (.tmp 132) 24 3 (.int .i64 0) 8 rfl Try.underlying24 info3 rfl (by decide) (by omega) u9 x9_4 (rd t152 x96_4) [.int .i64 (rd t152 x96_4)] (fun k_ => some k_ ≠ (.slice (some ⟨go31, 0, none⟩) x4_4.length co31 : Value).ownBlock ∧ some k_ ≠ (.slice (some ad155) t152.length co59 : Value).ownBlock) (fun _ => False) rfl rfl ?aP (fun _ hk => hk.elim) ?aF ?aO ?aB ?aS ?aL ?_; (case aP => exact rfl); (case aB => exact (by repeat (first | (with_reducible first | exact HB.out | apply below_alloc | apply pw_below_drewN | apply below_drew1 | refine below_set ?_ GE148.out) | exact HB.out))); (case aF => exact (fun k_ hk => ⟨Kd.fresh' (Kd.R_lt (by (with_reducible repeat (first | apply Kd.R_alloc | apply Kd.R_drewN | apply Kd.R_drew)); exact HO_4.out)) k_ hk, Kd.fresh' (Kd.R_lt (by (with_reducible repeat (first | apply Kd.R_alloc | apply Kd.R_drewN | apply Kd.R_drew)); exact HO_94.out)) k_ hk⟩)); (case aO => exact (by (with_reducible repeat (first | apply Kd.R_alloc | apply Kd.R_drewN | apply Kd.R_drew)); exact Kd.R_mono HO_9.out (fun _ hk => ⟨hk.2, hk.1⟩))); (case aS => exact (below_size (by repeat (first | (with_reducible first | exact HB.out | apply below_alloc | apply pw_below_drewN | apply below_drew1 | refine below_set ?_ GE148.out) | exact HB.out)))); (case aL => have := LMc73.out; omega); intro v161 w76 ho hb hg hat; rw [← Ny160.out] at ho; have n0_ := Aside0.mk (Kd.R_after (ok := (fun k_ => some k_ ≠ (.slice (some ad155) t152.length co59 : Value).ownBlock)) (by (with_reducible repeat (first | apply Kd.R_alloc | apply Kd.R_drewN | apply Kd.R_drew)); exact Kd.R_mono HO_4.out (fun _ hk => ⟨hk.2, hk.1⟩)) hg hat); have n1_ := Aside0.mk (Kd.R_after (ok := (fun k_ => some k_ ≠ (.slice (some ⟨go31, 0, none⟩) x4_4.length co31 : Value).ownBlock)) (by (with_reducible repeat (first | apply Kd.R_alloc | apply Kd.R_drewN | apply Kd.R_drew)); exact Kd.R_mono HO_94.out (fun _ hk => ⟨hk.2, hk.1⟩)) hg hat); have n2_ := Aside0.mk (blk_grown (g := gb148) (o := .cells #[.int .i64 t142, .int .i64 t143, .int .i64 t144, .int .i64 t145, .bool t146] 56 (0, 0)) (by (with_reducible repeat (first | refine blk_drewN ?_ _ | refine blk_drew ?_ | refine blk_alloc ?_ _)); exact BK148.out) hg (Kd.R_ne HO_9.out BK148.out (by decide))); have n3_ := Aside0.mk (hb); have n4_ := Aside0.mk (ho); clear HO_4; clear HO_94; clear BK148; clear HB; clear HO_9; have HO_4 := n0_; have HO_94 := n1_; have BK148 := n2_; have HB := n3_; have HO162 := n4_; clear n0_ n1_ n2_ n3_ n4_; clear ho hb hg hat)); try go_wp2_with (first | ((with_reducible refine gate_store (t := 3) (p := 129) rfl ?_); (try (rw [drewN_self wc]; generalize hq_ : World.drewN wc _ = wc; have n0_ := Aside0.mk (Kd.R_at hq_ HO_4.out); have n1_ := Aside0.mk (Kd.R_at hq_ HO_9.out); have n2_ := Aside0.mk (Kd.R_at hq_ HO_94.out); have n3_ := Aside0.mk (blk_at hq_ BK148.out); have n4_ := Aside0.mk (below_at hq_ HB.out); clear hq_ HO_4 HO_9 HO_94 BK148 HB; have HO_4 := n0_; have HO_9 := n1_; have HO_94 := n2_; have BK148 := n3_; have HB := n4_; clear n0_ n1_ n2_ n3_ n4_; (try (have HP74 := Kd.R_putg HO_4.out ((rd t152 x96_4) : Int) (wrap64 ((wrap64 ((rd x4_2 (rd x9_2 (ji37))) - t142)) + t143)))))); refine store_event (t := 3) (p := 129) (v := ?vo_w75) (w1 := (wc.setCell ⟨go31, ((rd t152 x96_4) : Int).toNat, none⟩ (.int .i64 (wrap64 ((wrap64 ((rd x4_2 (rd x9_2 (ji37))) - t142)) + t143))))) ?hg ?ho ?hn ?hr ?_; (case ho => rfl); (case hg => rfl); (case hn => rfl); (case hr => first | (go_simp; done) | (go_simp; rfl)); intro w75 hw; have hg : wc.grownBy w75 (some go31) := (by rw [hw]; exact HP74.2); have hp_ : Kd.R (Kd.int .i64) 3 w75 w.heap.size (fun k_ => some k_ ≠ (u9 : Value).ownBlock ∧ some k_ ≠ (.slice (some ad155) t152.length co59 : Value).ownBlock) (.slice (some ⟨go31, 0, none⟩) x4_4.length co31) y159 := (by rw [hw, Ny159.out]; exact HP74.1); clear HP74; have n0_ := Aside0.mk (hp_); have n1_ := Aside0.mk (Kd.R_after (v := (.slice (some ⟨go31, 0, none⟩) x4_4.length co31)) (v1 := (.slice (some ⟨go31, 0, none⟩) x4_4.length co31)) (ok := (fun k_ => some k_ ≠ (.slice (some ad155) t152.length co59 : Value).ownBlock)) (by (with_reducible repeat (first | apply Kd.R_alloc | apply Kd.R_drewN | apply Kd.R_drew)); exact Kd.R_mono HO_9.out (fun _ hk => ⟨hk.2, hk.1⟩)) hg (.inl rfl)); have n2_ := Aside0.mk (Kd.R_after (v := (.slice (some ⟨go31, 0, none⟩) x4_4.length co31)) (v1 := (.slice (some ⟨go31, 0, none⟩) x4_4.length co31)) (ok := (fun k_ => some k_ ≠ (u9 : Value).ownBlock)) (by (with_reducible repeat (first | apply Kd.R_alloc | apply Kd.R_drewN | apply Kd.R_drew)); exact Kd.R_mono HO_94.out (fun _ hk => ⟨hk.2, hk.1⟩)) hg (.inl rfl)); have n3_ := Aside0.mk (blk_grown (g := gb148) (o := .cells #[.int .i64 t142, .int .i64 t143, .int .i64 t144, .int .i64 t145, .bool t146] 56 (0, 0)) (by (with_reducible repeat (first | refine blk_drewN ?_ _ | refine blk_drew ?_ | refine blk_alloc ?_ _)); exact BK148.out) hg (Kd.R_ne HO_4.out BK148.out (by decide))); have n4_ := Aside0.mk ((by rw [hw]; exact below_set (HB.out) GB31.out : Below w.heap.size w w75)); clear HO_4; clear HO_9; clear HO_94; clear BK148; clear HB; have HO_4 := n0_; have HO_9 := n1_; have HO_94 := n2_; have BK148 := n3_; have HB := n4_; clear n0_ n1_ n2_ n3_ n4_; clear hg hw hp_) | ((with_reducible refine gate_builtin (b := .append) (xs := #[.tmp 130, .tmp 132]) rfl ?_); at_builtin; refine Kd.R_append (Kd.int .i64) (w0 := w) w.heap.size rfl (.tmp 130) (.tmp 132) 24 3 (.int .i64 0) 8 rfl Try.underlying24 info3 rfl (by decide) (by omega) u9 x9_4 (rd t152 x96_4) [.int .i64 (rd t152 x96_4)] (fun k_ => some k_ ≠ (.slice (some ⟨go31, 0, none⟩) x4_4.length co31 : Value).ownBlock ∧ some k_ ≠ (.slice (some ad155) t152.length co59 : Value).ownBlock) (fun _ => False) rfl rfl ?aP (fun _ hk => hk.elim) ?aF ?aO ?aB ?aS ?aL ?_; (case aP => exact rfl); (case aB => exact (by repeat (first | (with_reducible first | exact HB.out | apply below_alloc | apply pw_below_drewN | apply below_drew1 | refine below_set ?_ GE148.out) | exact HB.out))); (case aF => exact (fun k_ hk => ⟨Kd.fresh' (Kd.R_lt (by (with_reducible repeat (first | apply Kd.R_alloc | apply Kd.R_drewN | apply Kd.R_drew)); exact HO_4.out)) k_ hk, Kd.fresh' (Kd.R_lt (by (with_reducible repeat (first | apply Kd.R_alloc | apply Kd.R_drewN | apply Kd.R_drew)); exact HO_94.out)) k_ hk⟩)); (case aO => exact (by (with_reducible repeat (first | apply Kd.R_alloc | apply Kd.R_drewN | apply Kd.R_drew)); exact Kd.R_mono HO_9.out (fun _ hk => ⟨hk.2, hk.1⟩))); (case aS => exact (below_size (by repeat (first | (with_reducible first | exact HB.out | apply below_alloc | apply pw_below_drewN | apply below_drew1 | refine below_set ?_ GE148.out) | exact HB.out)))); (case aL => have := LMc73.out; omega); intro v161 w76 ho hb hg hat; rw [← Ny160.out] at ho; have n0_ := Aside0.mk (Kd.R_after (ok := (fun k_ => some k_ ≠ (.slice (some ad155) t152.length co59 : Value).ownBlock)) (by (with_reducible repeat (first | apply Kd.R_alloc | apply Kd.R_drewN | apply Kd.R_drew)); exact Kd.R_mono HO_4.out (fun _ hk => ⟨hk.2, hk.1⟩)) hg hat); have n1_ := Aside0.mk (Kd.R_after (ok := (fun k_ => some k_ ≠ (.slice (some ⟨go31, 0, none⟩) x4_4.length co31 : Value).ownBlock)) (by (with_reducible repeat (first | apply Kd.R_alloc | apply Kd.R_drewN | apply Kd.R_drew)); exact Kd.R_mono HO_94.out (fun _ hk => ⟨hk.2, hk.1⟩)) hg hat); have n2_ := Aside0.mk (blk_grown (g := gb148) (o := .cells #[.int .i64 t142, .int .i64 t143, .int .i64 t144, .int .i64 t145, .bool t146] 56 (0, 0)) (by (with_reducible repeat (first | refine blk_drewN ?_ _ | refine blk_drew ?_ | refine blk_alloc ?_ _)); exact BK148.out) hg (Kd.R_ne HO_9.out BK148.out (by decide))); have n3_ := Aside0.mk (hb); have n4_ := Aside0.mk (ho); clear HO_4; clear HO_94; clear BK148; clear HB; clear HO_9; have HO_4 := n0_; have HO_94 := n1_; have BK148 := n2_; have HB := n3_; have HO162 := n4_; clear n0_ n1_ n2_ n3_ n4_; clear ho hb hg hat)))
                                                                      (try simp only [← hl4_4])
                                                                      go_roundg kj62
                                                                      case measure => have := HK1.out; have := HK2.out; have := HJ44.out; have := HK4.out; have := HJ62.out; omega
                                                                      case rel => exact ⟨(y159), (y160), (wrap64 (x96_4 + 1)), (by first | rfl | (simp; done) | (simp [*]; done)), H', ⟨by have := HK1.out; have := HK2.out; have := HJ44.out; have := HK4.out; have := HJ62.out; omega⟩, ⟨by (try simp only [hl4_2]); (try simp only [hl4_4]); (with_reducible repeat (first | apply Kd.R_alloc | apply Kd.R_drewN | apply Kd.R_drew)); exact Kd.R_mono HO_4.out (fun _ hk => ⟨hk.2, hk.1⟩)⟩, ⟨by (try simp only [hl4_2]); (try simp only [hl4_4]); (with_reducible repeat (first | apply Kd.R_alloc | apply Kd.R_drewN | apply Kd.R_drew)); exact HO162.out⟩, ⟨by (try simp only [hl4_2]); (try simp only [hl4_4]); (with_reducible repeat (first | apply Kd.R_alloc | apply Kd.R_drewN | apply Kd.R_drew)); exact HO_94.out⟩, ⟨by (try simp only [hl4_2]); (try simp only [hl4_4]); (with_reducible repeat (first | refine blk_drewN ?_ _ | refine blk_drew ?_ | refine blk_alloc ?_ _)); exact BK148.out⟩, ⟨by repeat (first | (with_reducible first | exact HB.out | apply below_alloc | apply pw_below_drewN | apply below_drew1 | refine below_set ?_ GE148.out) | exact HB.out)⟩⟩
                                                                    · rw [if_neg c73] at H
                                                                      exact absurd H (by simp)
                                                                  · rw [if_neg c71] at H
                                                                    have c71b0 : decide ((rd x4_4 (rd t152 x96_4)) < 0) = false := decide_eq_false c71
                                                                    clear c71
                                                                    have H' := Aside0.mk H
                                                                    clear H
                                                                    have p158 : 0 ≤ ((rd t152 x96_4) : Int) := of_decide_eq_true (by first | (with_reducible assumption) | assumption)
                                                                    have q158 : (rd t152 x96_4) < (x4_4.length : Int) := of_decide_eq_true (by first | (with_reducible assumption) | assumption)
                                                                    obtain ⟨ad158, e158, hx158_0⟩ := Kd.at_int (Kd.R_reads' HO_4.out).2.2 (rd t152 x96_4) p158 q158
                                                                    obtain rfl : (⟨go31, 0, none⟩ : Addr) = ad158 := (by injection e158)
                                                                    (first | simp only [add_plain] at hx158_0 | simp only [add_at] at hx158_0 | simp only [Addr.add, Nat.zero_add] at hx158_0 | skip)
                                                                    replace p158 := eq_true p158
                                                                    replace q158 := eq_true q158
                                                                    go_wp2
                                                                    repeat (go_quiet (fail); try go_wp2)
                                                                    (try simp only [← hl4_4])
                                                                    go_roundg kj62
                                                                    case measure => have := HK1.out; have := HK2.out; have := HJ44.out; have := HK4.out; have := HJ62.out; omega
                                                                    case rel => exact ⟨(x4_4), (x9_4), (wrap64 (x96_4 + 1)), (by first | rfl | (simp; done) | (simp [*]; done)), H', ⟨by have := HK1.out; have := HK2.out; have := HJ44.out; have := HK4.out; have := HJ62.out; omega⟩, ⟨by (try simp only [hl4_2]); (try simp only [hl4_4]); (with_reducible repeat (first | apply Kd.R_alloc | apply Kd.R_drewN | apply Kd.R_drew)); exact HO_4.out⟩, ⟨by (try simp only [hl4_2]); (try simp only [hl4_4]); (with_reducible repeat (first | apply Kd.R_alloc | apply Kd.R_drewN | apply Kd.R_drew)); exact HO_9.out⟩, ⟨by (try simp only [hl4_2]); (try simp only [hl4_4]); (with_reducible repeat (first | apply Kd.R_alloc | apply Kd.R_drewN | apply Kd.R_drew)); exact HO_94.out⟩, ⟨by (try simp only [hl4_2]); (try simp only [hl4_4]); (with_reducible repeat (first | refine blk_drewN ?_ _ | refine blk_drew ?_ | refine blk_alloc ?_ _)); exact BK148.out⟩, ⟨by repeat (first | (with_reducible first | exact HB.out | apply below_alloc | apply pw_below_drewN | apply below_drew1 | refine below_set ?_ GE148.out) | exact HB.out)⟩⟩
                                                                · rw [if_neg c70] at H
                                                                  exact absurd H (by simp)
                                                              · rw [if_neg c69] at H
                                                                exact absurd H (by simp)
                                                      · rw [if_neg c62] at H
                                                        exact absurd H (by simp)
                                                    · rw [if_neg c61] at H
                                                      exact absurd H (by simp)
                                                  · rw [if_neg c60] at H
                                                    have c60b0 : decide (x96_4 < (t152.length : Int)) = false := decide_eq_false c60
                                                    clear c60
                                                    have H' := Aside0.mk H
                                                    clear H
                                                    go_wp2
                                                    repeat (go_quiet (fail); try go_wp2)
                                                    (try simp only [← hl4_2, ← hl4_4])
                                                    go_roundg k4
                                                    case measure => have := HK1.out; have := HK2.out; have := HJ44.out; have := HK4.out; omega
                                                    case rel => exact ⟨(x4_4), (x9_4), H', ⟨by have := HK1.out; have := HK2.out; have := HJ44.out; have := HK4.out; omega⟩, ⟨by (try simp only [hl4_2]); (try simp only [hl4_4]); (with_reducible repeat (first | apply Kd.R_alloc | apply Kd.R_drewN | apply Kd.R_drew)); exact Kd.R_mono HO_4.out (fun _ hk => hk.1)⟩, ⟨by (try simp only [hl4_2]); (try simp only [hl4_4]); (with_reducible repeat (first | apply Kd.R_alloc | apply Kd.R_drewN | apply Kd.R_drew)); exact Kd.R_mono HO_9.out (fun _ hk => hk.1)⟩, ⟨by repeat (first | (with_reducible first | exact HB.out | apply below_alloc | apply pw_below_drewN | apply below_drew1 | refine below_set ?_ GE148.out) | exact HB.out)⟩⟩
                                            · rw [if_neg c56] at H
                                              exact absurd H (by simp)
                                          · rw [if_neg c55] at H
                                            exact absurd H (by simp)
                                  · rw [if_neg c44] at H
                                    exact absurd H (by simp)
                                · rw [if_neg c42] at H
                                  exact absurd H (by simp)
                              · rw [if_neg c41] at H
                                exact absurd H (by simp)
                            · rw [if_neg c40] at H
                              exact absurd H (by simp)
                          · rw [if_neg c39] at H
                            exact absurd H (by simp)
                        · rw [if_neg c38] at H
                          exact absurd H (by simp)
                      · rw [if_neg c36] at H
                        have c36b0 : decide (0 < (x9_2.length : Int)) = false := decide_eq_false c36
                        have c36b1 : decide (0 < x9_2.length) = false := decide_eq_false (by omega)
                        clear c36
                        simp only [Option.some.injEq, Prod.mk.injEq] at H
                        obtain ⟨rfl, rfl⟩ := H
                        obtain ⟨Ao77, co77, eo77⟩ := Kd.R_slice HO_9.out
                        subst eo77
                        go_wp2
                        repeat (go_quiet (fail); try go_wp2)
                        go_ret2
                        exact ⟨_, by first | rfl | (simp [errW_none, errW_some] <;> rfl) | (simp [*, errW_none, errW_some] <;> rfl), by (with_reducible repeat (first | apply Kd.R_alloc | apply Kd.R_drewN | apply Kd.R_drew)); exact Kd.R_mono HO_4.out (fun _ hk => trivial), by repeat (first | (with_reducible first | exact HB.out | apply below_alloc | apply pw_below_drewN | apply below_drew1) | exact HB.out)⟩
                · rw [if_neg c30] at H
                  exact absurd H (by simp)
      · rw [if_neg c4] at H
        exact absurd H (by simp)
    · rw [if_neg c3] at H
      exact absurd H (by simp)

end Go.Proofs.Ytlpiknclbgogbaa.XCodeAsks
