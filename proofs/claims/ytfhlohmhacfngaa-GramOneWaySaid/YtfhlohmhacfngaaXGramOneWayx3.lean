-- Written by this session's program (wip/xprint.py) with the kit's print, for this claim.
import Derived.Test.YtfhlohmhacfngaaXGramOneWayx0
import Derived.Test.YtfhlohmhacfngaaXGramOneWayx1
import Derived.Test.YtfhlohmhacfngaaXGramOneWayx2
namespace Go.Proofs.Ytfhlohmhacfngaa.XGramOneWay
open Go.RowKit Go.Proofs.YtfhlohmhacfngaaW.PrintWords Go.Proofs.YtfhlohmhacfngaaW.PrintLast Go.Proofs.YtfhlohmhacfngaaW.PrintMore Go.Proofs.Ytfhlohmhacfngaa.Ext
attribute [local go_sem] max2_int min2_int max_two min_two max_three min_three max_four min_four   -- for this text's walks alone
set_option linter.unusedVariables false
set_option linter.unusedSimpArgs false

attribute [local go_sem high] eqA27
/-! ### bureaulaw11_GramOneWay: function 4 -/
mutual
def bureaulaw11_GramOneWay.j0 : Nat → List Int → List Int → Bool → Bool → Option (Bool)
  | 0, _, _, _, _ => none
  | k + 1, x0, x1, x2, x26 => if x26 = true then (some true) else ((gram_Parse.f x0 x2).bind fun bt126 => (if bt126.2.2.2.2.2.2 = 2 then (if (bt126.1 == 0 && (bt126.2.1 == 0 && (bt126.2.2.1 == 0 && (bt126.2.2.2.1 == 0 && (bt126.2.2.2.2.1 == 0))))) = true then (some (bt126.2.2.2.2.2.1 == 0)) else (some false)) else (if bt126.2.2.2.2.2.1 < 1 then (bureaulaw11_GramOneWay.j1 k x0 x1 x2 bt126.2.2.2.2.2.1 bt126.2.2.2.2.2.2 true bt126.1 bt126.2.1 bt126.2.2.1 bt126.2.2.2.1 bt126.2.2.2.2.1) else (if bt126.2.2.2.2.2.1 > (x0.length : Int) then (bureaulaw11_GramOneWay.j1 k x0 x1 x2 bt126.2.2.2.2.2.1 bt126.2.2.2.2.2.2 true bt126.1 bt126.2.1 bt126.2.2.1 bt126.2.2.2.1 bt126.2.2.2.2.1) else (if bt126.2.2.2.2.2.2 = 1 then (bureaulaw11_GramOneWay.j1 k x0 x1 x2 bt126.2.2.2.2.2.1 bt126.2.2.2.2.2.2 false bt126.1 bt126.2.1 bt126.2.2.1 bt126.2.2.2.1 bt126.2.2.2.2.1) else (bureaulaw11_GramOneWay.j1 k x0 x1 x2 bt126.2.2.2.2.2.1 bt126.2.2.2.2.2.2 (bt126.2.2.2.2.2.2 != 3) bt126.1 bt126.2.1 bt126.2.2.1 bt126.2.2.2.1 bt126.2.2.2.2.1))))))
def bureaulaw11_GramOneWay.j1 : Nat → List Int → List Int → Bool → Int → Int → Bool → Int → Int → Int → Int → Int → Option (Bool)
  | 0, _, _, _, _, _, _, _, _, _, _, _ => none
  | k + 1, x0, x1, x2, x8, x9, x58, x134000, x134001, x134002, x134003, x134004 => if x58 = true then (some false) else (if 0 ≤ x8 then (if x8 ≤ (x0.length : Int) then (if ([] : List Int).length + (x0.take (x8 : Int).toNat).length < 35184372088832 then ((some (([] : List Int) ++ (x0.take (x8 : Int).toNat) : List Int)).bind fun y135 => (if y135.length + x1.length < 35184372088832 then ((gram_Parse.f (y135 ++ x1) x2).bind fun bt141 => (if (!(x134000 == bt141.1) || (!(x134001 == bt141.2.1) || (!(x134002 == bt141.2.2.1) || (!(x134003 == bt141.2.2.2.1) || (!(x134004 == bt141.2.2.2.2.1)))))) = true then (bureaulaw11_GramOneWay.j2 k x0 x2 x8 true) else (if x8 = bt141.2.2.2.2.2.1 then (bureaulaw11_GramOneWay.j2 k x0 x2 x8 (x9 != bt141.2.2.2.2.2.2)) else (bureaulaw11_GramOneWay.j2 k x0 x2 x8 true)))) else (none))) else (none)) else (none)) else (none))
def bureaulaw11_GramOneWay.j2 : Nat → List Int → Bool → Int → Bool → Option (Bool)
  | 0, _, _, _, _ => none
  | k + 1, x0, x2, x8, x83 => if x83 = true then (some false) else (bureaulaw11_GramOneWay.l0 k x0 x2 x8 0)
def bureaulaw11_GramOneWay.l0 : Nat → List Int → Bool → Int → Int → Option (Bool)
  | 0, _, _, _, _ => none
  | k + 1, x0, x2, x84, x85 => if x85 < x84 then (if 0 ≤ x85 then (if x85 ≤ (x0.length : Int) then ((gram_Parse.f (x0.take (x85 : Int).toNat) x2).bind fun bt150 => (if bt150.2.2.2.2.2.2 = 2 then (bureaulaw11_GramOneWay.l0 k x0 x2 x84 (wrap64 (x85 + 1))) else (some false))) else (none)) else (none)) else (some true)
end
def bureaulaw11_GramOneWay.f (k : Nat) (l0 : List Int) (l1 : List Int) (a2 : Bool) : Option (Bool) := (bureaulaw11_alive.f).bind fun t125 => (if t125 = true then (if (l0.length : Int) > 300 then (bureaulaw11_GramOneWay.j0 k l0 l1 a2 true) else (bureaulaw11_GramOneWay.j0 k l0 l1 a2 (decide ((l1.length : Int) > 4096)))) else (some false))
theorem bureaulaw11_GramOneWay.mono_l : ∀ k, (∀ y0 y1 y2 y3, LeO (bureaulaw11_GramOneWay.j0 k y0 y1 y2 y3) (bureaulaw11_GramOneWay.j0 (k + 1) y0 y1 y2 y3)) ∧ (∀ y0 y1 y2 y3 y4 y5 y6 y7 y8 y9 y10, LeO (bureaulaw11_GramOneWay.j1 k y0 y1 y2 y3 y4 y5 y6 y7 y8 y9 y10) (bureaulaw11_GramOneWay.j1 (k + 1) y0 y1 y2 y3 y4 y5 y6 y7 y8 y9 y10)) ∧ (∀ y0 y1 y2 y3, LeO (bureaulaw11_GramOneWay.j2 k y0 y1 y2 y3) (bureaulaw11_GramOneWay.j2 (k + 1) y0 y1 y2 y3)) ∧ (∀ y0 y1 y2 y3, LeO (bureaulaw11_GramOneWay.l0 k y0 y1 y2 y3) (bureaulaw11_GramOneWay.l0 (k + 1) y0 y1 y2 y3))
  | 0 => ⟨fun _ _ _ _ r h => by simp [bureaulaw11_GramOneWay.j0] at h, fun _ _ _ _ _ _ _ _ _ _ _ r h => by simp [bureaulaw11_GramOneWay.j1] at h, fun _ _ _ _ r h => by simp [bureaulaw11_GramOneWay.j2] at h, fun _ _ _ _ r h => by simp [bureaulaw11_GramOneWay.l0] at h⟩
  | k + 1 => by
    obtain ⟨ih0, ih1, ih2, ih3⟩ := bureaulaw11_GramOneWay.mono_l k
    refine ⟨?_, ?_, ?_, ?_⟩
    · intro y0 y1 y2 y3
      unfold bureaulaw11_GramOneWay.j0
      repeat' first
      | (with_reducible exact ih0 _ _ _ _)
      | (with_reducible exact ih1 _ _ _ _ _ _ _ _ _ _ _)
      | (with_reducible exact ih2 _ _ _ _)
      | (with_reducible exact ih3 _ _ _ _)
      | (with_reducible exact LeO.refl _)
      | (with_reducible exact LeO.none _)
      | (with_reducible refine LeO.ite ?_ ?_)
      | (with_reducible refine LeO.bind ?_ (fun _ => ?_))
      | exact ih0 _ _ _ _
      | exact ih1 _ _ _ _ _ _ _ _ _ _ _
      | exact ih2 _ _ _ _
      | exact ih3 _ _ _ _
      | exact LeO.none _
      | refine LeO.ite ?_ ?_
      | refine LeO.bind ?_ (fun _ => ?_)
    · intro y0 y1 y2 y3 y4 y5 y6 y7 y8 y9 y10
      unfold bureaulaw11_GramOneWay.j1
      repeat' first
      | (with_reducible exact ih0 _ _ _ _)
      | (with_reducible exact ih1 _ _ _ _ _ _ _ _ _ _ _)
      | (with_reducible exact ih2 _ _ _ _)
      | (with_reducible exact ih3 _ _ _ _)
      | (with_reducible exact LeO.refl _)
      | (with_reducible exact LeO.none _)
      | (with_reducible refine LeO.ite ?_ ?_)
      | (with_reducible refine LeO.bind ?_ (fun _ => ?_))
      | exact ih0 _ _ _ _
      | exact ih1 _ _ _ _ _ _ _ _ _ _ _
      | exact ih2 _ _ _ _
      | exact ih3 _ _ _ _
      | exact LeO.none _
      | refine LeO.ite ?_ ?_
      | refine LeO.bind ?_ (fun _ => ?_)
    · intro y0 y1 y2 y3
      unfold bureaulaw11_GramOneWay.j2
      repeat' first
      | (with_reducible exact ih0 _ _ _ _)
      | (with_reducible exact ih1 _ _ _ _ _ _ _ _ _ _ _)
      | (with_reducible exact ih2 _ _ _ _)
      | (with_reducible exact ih3 _ _ _ _)
      | (with_reducible exact LeO.refl _)
      | (with_reducible exact LeO.none _)
      | (with_reducible refine LeO.ite ?_ ?_)
      | (with_reducible refine LeO.bind ?_ (fun _ => ?_))
      | exact ih0 _ _ _ _
      | exact ih1 _ _ _ _ _ _ _ _ _ _ _
      | exact ih2 _ _ _ _
      | exact ih3 _ _ _ _
      | exact LeO.none _
      | refine LeO.ite ?_ ?_
      | refine LeO.bind ?_ (fun _ => ?_)
    · intro y0 y1 y2 y3
      unfold bureaulaw11_GramOneWay.l0
      repeat' first
      | (with_reducible exact ih0 _ _ _ _)
      | (with_reducible exact ih1 _ _ _ _ _ _ _ _ _ _ _)
      | (with_reducible exact ih2 _ _ _ _)
      | (with_reducible exact ih3 _ _ _ _)
      | (with_reducible exact LeO.refl _)
      | (with_reducible exact LeO.none _)
      | (with_reducible refine LeO.ite ?_ ?_)
      | (with_reducible refine LeO.bind ?_ (fun _ => ?_))
      | exact ih0 _ _ _ _
      | exact ih1 _ _ _ _ _ _ _ _ _ _ _
      | exact ih2 _ _ _ _
      | exact ih3 _ _ _ _
      | exact LeO.none _
      | refine LeO.ite ?_ ?_
      | refine LeO.bind ?_ (fun _ => ?_)
theorem bureaulaw11_GramOneWay.mono : ∀ a0 a1 a2 k, LeO (bureaulaw11_GramOneWay.f k a0 a1 a2) (bureaulaw11_GramOneWay.f (k + 1) a0 a1 a2) := by
  intro a0 a1 a2 k
  obtain ⟨ih0, ih1, ih2, ih3⟩ := bureaulaw11_GramOneWay.mono_l k
  unfold bureaulaw11_GramOneWay.f
  repeat' first
      | (with_reducible exact ih0 _ _ _ _)
      | (with_reducible exact ih1 _ _ _ _ _ _ _ _ _ _ _)
      | (with_reducible exact ih2 _ _ _ _)
      | (with_reducible exact ih3 _ _ _ _)
      | (with_reducible exact LeO.refl _)
      | (with_reducible exact LeO.none _)
      | (with_reducible refine LeO.ite ?_ ?_)
      | (with_reducible refine LeO.bind ?_ (fun _ => ?_))
      | exact ih0 _ _ _ _
      | exact ih1 _ _ _ _ _ _ _ _ _ _ _
      | exact ih2 _ _ _ _
      | exact ih3 _ _ _ _
      | exact LeO.none _
      | refine LeO.ite ?_ ?_
      | refine LeO.bind ?_ (fun _ => ?_)
set_option maxHeartbeats 8000000 in
set_option maxRecDepth 100000 in
theorem bureaulaw11_GramOneWay.calls (k : Nat) (A0 : Option Addr) (c0 : Nat) (l0 : List Int) (A1 : Option Addr) (c1 : Nat) (l1 : List Int) (a2 : Bool) (r : Bool) (w : World) (hr0 : Kd.C (Kd.int .i32) w A0 l0.length l0) (hc0 : l0.length ≤ c0) (hr1 : Kd.C (Kd.int .i32) w A1 l1.length l1) (hc1 : l1.length ≤ c1) (h : bureaulaw11_GramOneWay.f k l0 l1 a2 = some r) :
    Calls Try.prog 4 #[.slice A0 l0.length c0, .slice A1 l1.length c1, .bool a2] w fun e w' => e = .returned (.bool r) ∧ Below w.heap.size w w' := by
  have hu27 := Try.underlying27
  have HR0 := Aside0.mk hr0
  have HC0 := Aside0.mk hc0
  clear hr0 hc0
  have HR1 := Aside0.mk hr1
  have HC1 := Aside0.mk hc1
  clear hr1 hc1
  have HB := Aside0.mk (Below.refl w.heap.size w)
  have H : ((bureaulaw11_alive.f).bind fun t125 => (if t125 = true then (if (l0.length : Int) > 300 then (bureaulaw11_GramOneWay.j0 k l0 l1 a2 true) else (bureaulaw11_GramOneWay.j0 k l0 l1 a2 (decide ((l1.length : Int) > 4096)))) else (some false))) = some r := h
  clear h
  replace H := Option.bind_eq_some_iff.mp H
  obtain ⟨t125, A40, H⟩ := H
  replace H : (if t125 = true then (if (l0.length : Int) > 300 then (bureaulaw11_GramOneWay.j0 k l0 l1 a2 true) else (bureaulaw11_GramOneWay.j0 k l0 l1 a2 (decide ((l1.length : Int) > 4096)))) else (some false)) = some r := H
  have A4 := Aside0.mk A40
  clear A40
  by_cases c5 : t125 = true
  · subst c5
    have H1 : (if (l0.length : Int) > 300 then (bureaulaw11_GramOneWay.j0 k l0 l1 a2 true) else (bureaulaw11_GramOneWay.j0 k l0 l1 a2 (decide ((l1.length : Int) > 4096)))) = some r := by rw [if_pos rfl] at H; exact H
    clear H
    have H := H1
    clear H1
    have HC6 := Aside0.mk H
    clear H
    go_enter Try.func4, Try.ntmps4
    go_upto_region 3 with (first | ((with_reducible refine gate_callee (f := 7) rfl ?_); refine goesL_ (some 17) rfl rfl Try.func7 (by kernel_rfl) rfl #[] rfl (by (try simp only [List.map_toArray, List.map_cons, List.map_nil]); first | done | rfl | (simp only [List.length_drop, List.length_take]; rfl)) ?_; (with_reducible refine (bureaulaw11_alive.calls  true _ A4.out).mono ?_); rintro e w7 ⟨rfl, hb⟩; refine ⟨_, rfl, ?_⟩; have n0_ := Aside0.mk (below_step (by repeat (first | (with_reducible first | exact HB.out | apply below_alloc | apply pw_below_drewN | apply below_drew1) | exact HB.out)) hb); clear HB; have HB := n0_; clear n0_; (try clear hb); (try clear hb2); (try clear hk); (try clear hi)))
    (try simp only [Act.put, List.setIfInBounds_toArray, List.set_cons_zero, List.set_cons_succ])
    go_cut [26] (fun v26 wc => ∃ (kq : Nat) (x26_5 : Bool), v26 = .bool x26_5 ∧ Aside0 (bureaulaw11_GramOneWay.j0 kq l0 l1 a2 x26_5 = some r) ∧ Aside0 (kq ≤ k) ∧ Aside0 (Below w.heap.size w wc))
    case first =>
      have H := HC6.out
      clear HC6
      by_cases c8 : (l0.length : Int) > 300
      · rw [if_pos c8] at H
        have c8b0 : decide (300 < (l0.length : Int)) = true := decide_eq_true c8
        have c8b1 : decide (300 < l0.length) = true := decide_eq_true (by omega)
        clear c8
        (first | rw [c8b0] | (simp only [i64_w, i32_w]; rw [c8b0]) | skip)
        have H' := Aside0.mk H
        clear H
        go_wp2
        go_meet
        case rel => exact ⟨_, (true), (by first | rfl | (simp; done) | (simp [*]; done)), H', ⟨by first | omega | exact Nat.le_refl _⟩, ⟨by repeat (first | (with_reducible first | exact HB.out | apply below_alloc | apply pw_below_drewN | apply below_drew1) | exact HB.out)⟩⟩
      · rw [if_neg c8] at H
        have c8b0 : decide (300 < (l0.length : Int)) = false := decide_eq_false c8
        have c8b1 : decide (300 < l0.length) = false := decide_eq_false (by omega)
        clear c8
        (first | rw [c8b0] | (simp only [i64_w, i32_w]; rw [c8b0]) | skip)
        have H' := Aside0.mk H
        clear H
        go_wp2
        go_meet
        case rel => exact ⟨_, (decide ((l1.length : Int) > 4096)), (by first | rfl | (simp; done) | (simp [*]; done)), H', ⟨by first | omega | exact Nat.le_refl _⟩, ⟨by repeat (first | (with_reducible first | exact HB.out | apply below_alloc | apply pw_below_drewN | apply below_drew1) | exact HB.out)⟩⟩
    case rest =>
      clear HC6
      try clear c1
      try clear p2
      try clear c4
      try clear c5
      try clear c7
      try clear c8
      try clear c8b0
      try clear c8b1
      obtain ⟨kq, x26_5, rfl, HA, HJ5, HB⟩ := hcut
      cases kq with
      | zero => exact absurd HA.out (by simp [bureaulaw11_GramOneWay.j0])
      | succ kj5 =>
        have H := HA.out
        clear HA
        simp only [bureaulaw11_GramOneWay.j0] at H
        by_cases c9 : x26_5 = true
        · subst c9
          have H1 : (some true) = some r := by rw [if_pos rfl] at H; exact H
          clear H
          have H := H1
          clear H1
          obtain rfl := Option.some.inj H
          go_wp2
          go_ret
          exact ⟨by first | rfl | (simp [errW_none, errW_some] <;> rfl) | (simp [*, errW_none, errW_some] <;> rfl), by repeat (first | (with_reducible first | exact HB.out | apply below_alloc | apply pw_below_drewN | apply below_drew1) | exact HB.out)⟩
        · replace c9 := Bool.eq_false_iff.mpr c9
          subst c9
          have H1 : ((gram_Parse.f l0 a2).bind fun bt126 => (if bt126.2.2.2.2.2.2 = 2 then (if (bt126.1 == 0 && (bt126.2.1 == 0 && (bt126.2.2.1 == 0 && (bt126.2.2.2.1 == 0 && (bt126.2.2.2.2.1 == 0))))) = true then (some (bt126.2.2.2.2.2.1 == 0)) else (some false)) else (if bt126.2.2.2.2.2.1 < 1 then (bureaulaw11_GramOneWay.j1 kj5 l0 l1 a2 bt126.2.2.2.2.2.1 bt126.2.2.2.2.2.2 true bt126.1 bt126.2.1 bt126.2.2.1 bt126.2.2.2.1 bt126.2.2.2.2.1) else (if bt126.2.2.2.2.2.1 > (l0.length : Int) then (bureaulaw11_GramOneWay.j1 kj5 l0 l1 a2 bt126.2.2.2.2.2.1 bt126.2.2.2.2.2.2 true bt126.1 bt126.2.1 bt126.2.2.1 bt126.2.2.2.1 bt126.2.2.2.2.1) else (if bt126.2.2.2.2.2.2 = 1 then (bureaulaw11_GramOneWay.j1 kj5 l0 l1 a2 bt126.2.2.2.2.2.1 bt126.2.2.2.2.2.2 false bt126.1 bt126.2.1 bt126.2.2.1 bt126.2.2.2.1 bt126.2.2.2.2.1) else (bureaulaw11_GramOneWay.j1 kj5 l0 l1 a2 bt126.2.2.2.2.2.1 bt126.2.2.2.2.2.2 (bt126.2.2.2.2.2.2 != 3) bt126.1 bt126.2.1 bt126.2.2.1 bt126.2.2.2.1 bt126.2.2.2.2.1)))))) = some r := by rw [if_neg (show ¬ (false = true) by decide)] at H; exact H
          clear H
          have H := H1
          clear H1
          replace H := Option.bind_eq_some_iff.mp H
          obtain ⟨⟨t126, t127, t128, t129, t130, t131, t132⟩, A100, H⟩ := H
          replace H : (if t132 = 2 then (if (t126 == 0 && (t127 == 0 && (t128 == 0 && (t129 == 0 && (t130 == 0))))) = true then (some (t131 == 0)) else (some false)) else (if t131 < 1 then (bureaulaw11_GramOneWay.j1 kj5 l0 l1 a2 t131 t132 true t126 t127 t128 t129 t130) else (if t131 > (l0.length : Int) then (bureaulaw11_GramOneWay.j1 kj5 l0 l1 a2 t131 t132 true t126 t127 t128 t129 t130) else (if t132 = 1 then (bureaulaw11_GramOneWay.j1 kj5 l0 l1 a2 t131 t132 false t126 t127 t128 t129 t130) else (bureaulaw11_GramOneWay.j1 kj5 l0 l1 a2 t131 t132 (t132 != 3) t126 t127 t128 t129 t130))))) = some r := H
          have A10 := Aside0.mk A100
          clear A100
          by_cases c11 : t132 = 2
          · rw [if_pos c11] at H
            have c11b0 : (t132 == 2) = true := beq_iff_eq.mpr c11
            have c11b1 : (t132 != 2) = false := bne_eq_false_iff_eq.mpr c11
            clear c11
            by_cases c12 : (t126 == 0 && (t127 == 0 && (t128 == 0 && (t129 == 0 && (t130 == 0))))) = true
            · rw [if_pos c12] at H
              have c12b0 : (t126 == 0 && (t127 == 0 && (t128 == 0 && (t129 == 0 && (t130 == 0))))) = true := c12
              (try (have c12b1 : decide (t126 = 0 && (t127 == 0 && (t128 == 0 && (t129 == 0 && (t130 == 0))))) = true := by simpa using c12))
              (try (have c12b2 : (t126 == 0 && (t127 == 0 && (t128 == 0 && (t129 == 0 && (t130 == 0))))) = true := by simpa using c12))
              clear c12
              obtain rfl := Option.some.inj H
              go_wp2_with (first | ((with_reducible refine gate_callee (f := 12) rfl ?_); refine goesL_ (some 30) rfl rfl Try.func12 (by kernel_rfl) rfl #[.slice A0 l0.length c0, .bool a2] rfl (by (try simp only [List.map_toArray, List.map_cons, List.map_nil]); first | done | rfl | (simp only [List.length_drop, List.length_take]; rfl)) ?_; (with_reducible refine (gram_Parse.calls _ _ l0 a2 t126 t127 t128 t129 t130 t131 t132 _ ?side1 ?side2 A10.out).mono ?_); (case side1 => repeat (first | exact (Kd.C_below HR0.out HB.out) | (with_reducible refine Kd.C_alloc ?_ _) | (with_reducible refine Kd.C_drewN ?_ _) | (with_reducible refine Kd.C_drew ?_))); (case side2 => exact HC0.out); rintro e w13 ⟨rfl, hb⟩; refine ⟨_, rfl, ?_⟩; have n0_ := Aside0.mk (below_step (by repeat (first | (with_reducible first | exact HB.out | apply below_alloc | apply pw_below_drewN | apply below_drew1) | exact HB.out)) hb); clear HB; have HB := n0_; clear n0_; (try clear hb); (try clear hb2); (try clear hk); (try clear hi)) | ((with_reducible refine gate_dst (N := 7) rfl ?_); (try (refine gate_guard (by rfl) ?_; dsimp only)); refine box_event ?hg (N := 7) ?hd (cs := #[.int .i32 0, .int .i64 0, .int .i32 0, .int .i32 0, .int .i32 0]) (t := 27) ?hr ?_; (case hd => rfl); (case hg => rfl); (case hr => first | (go_simp; done) | (go_simp; rfl)); intro gb133 hg w14 hbox hb; have n0_ := Aside0.mk (below_step (by repeat (first | (with_reducible first | exact HB.out | apply below_alloc | apply pw_below_drewN | apply below_drew1) | exact HB.out)) hb); have n1_ := Aside0.mk (hbox); have n2_ := Aside0.mk ((by rw [hg]; exact (below_size (by repeat (first | (with_reducible first | exact HB.out | apply below_alloc | apply pw_below_drewN | apply below_drew1) | exact HB.out))) : w.heap.size ≤ gb133)); have n3_ := Aside0.mk ((by rw [hg]; exact (below_size (by repeat (first | (with_reducible first | exact HB.out | apply below_alloc | apply pw_below_drewN | apply below_drew1) | exact HB.out))) : w.heap.size ≤ gb133)); clear HB; have HB := n0_; have BK133 := n1_; have GW133 := n2_; have GE133 := n3_; clear n0_ n1_ n2_ n3_; clear hb hbox hg; have hcz15_0 : w14.cell? ⟨gb133, 0, none⟩ = some (.int .i32 0) := (blk_cell BK133.out 0).trans rfl; have hcz15_1 : w14.cell? ⟨gb133, 1, none⟩ = some (.int .i64 0) := (blk_cell BK133.out 1).trans rfl; have hcz15_2 : w14.cell? ⟨gb133, 2, none⟩ = some (.int .i32 0) := (blk_cell BK133.out 2).trans rfl; have hcz15_3 : w14.cell? ⟨gb133, 3, none⟩ = some (.int .i32 0) := (blk_cell BK133.out 3).trans rfl; have hcz15_4 : w14.cell? ⟨gb133, 4, none⟩ = some (.int .i32 0) := (blk_cell BK133.out 4).trans rfl; have hfz15_0 := blk_frozen BK133.out 0; have hfz15_1 := blk_frozen BK133.out 1; have hfz15_2 := blk_frozen BK133.out 2; have hfz15_3 := blk_frozen BK133.out 3; have hfz15_4 := blk_frozen BK133.out 4))
              go_ret
              exact ⟨by first | rfl | (simp [errW_none, errW_some] <;> rfl) | (simp [*, errW_none, errW_some] <;> rfl), by repeat (first | (with_reducible first | exact HB.out | apply below_alloc | apply pw_below_drewN | apply below_drew1 | refine below_set ?_ GE133.out) | exact HB.out)⟩
            · rw [if_neg c12] at H
              have c12b0 : (t126 == 0 && (t127 == 0 && (t128 == 0 && (t129 == 0 && (t130 == 0))))) = false := by simpa using c12
              (try (have c12b1 : decide (t126 = 0 && (t127 == 0 && (t128 == 0 && (t129 == 0 && (t130 == 0))))) = false := by simpa using c12))
              (try (have c12b2 : (t126 == 0 && (t127 == 0 && (t128 == 0 && (t129 == 0 && (t130 == 0))))) = false := by simpa using c12))
              (try (have c12b3 : ¬ (t126 = 0 && (t127 == 0 && (t128 == 0 && (t129 == 0 && (t130 == 0))))) := by simpa using c12))
              clear c12
              obtain rfl := Option.some.inj H
              go_wp2_with (first | ((with_reducible refine gate_callee (f := 12) rfl ?_); refine goesL_ (some 30) rfl rfl Try.func12 (by kernel_rfl) rfl #[.slice A0 l0.length c0, .bool a2] rfl (by (try simp only [List.map_toArray, List.map_cons, List.map_nil]); first | done | rfl | (simp only [List.length_drop, List.length_take]; rfl)) ?_; (with_reducible refine (gram_Parse.calls _ _ l0 a2 t126 t127 t128 t129 t130 t131 t132 _ ?side1 ?side2 A10.out).mono ?_); (case side1 => repeat (first | exact (Kd.C_below HR0.out HB.out) | (with_reducible refine Kd.C_alloc ?_ _) | (with_reducible refine Kd.C_drewN ?_ _) | (with_reducible refine Kd.C_drew ?_))); (case side2 => exact HC0.out); rintro e w16 ⟨rfl, hb⟩; refine ⟨_, rfl, ?_⟩; have n0_ := Aside0.mk (below_step (by repeat (first | (with_reducible first | exact HB.out | apply below_alloc | apply pw_below_drewN | apply below_drew1) | exact HB.out)) hb); clear HB; have HB := n0_; clear n0_; (try clear hb); (try clear hb2); (try clear hk); (try clear hi)) | ((with_reducible refine gate_dst (N := 7) rfl ?_); (try (refine gate_guard (by rfl) ?_; dsimp only)); refine box_event ?hg (N := 7) ?hd (cs := #[.int .i32 0, .int .i64 0, .int .i32 0, .int .i32 0, .int .i32 0]) (t := 27) ?hr ?_; (case hd => rfl); (case hg => rfl); (case hr => first | (go_simp; done) | (go_simp; rfl)); intro gb133 hg w17 hbox hb; have n0_ := Aside0.mk (below_step (by repeat (first | (with_reducible first | exact HB.out | apply below_alloc | apply pw_below_drewN | apply below_drew1) | exact HB.out)) hb); have n1_ := Aside0.mk (hbox); have n2_ := Aside0.mk ((by rw [hg]; exact (below_size (by repeat (first | (with_reducible first | exact HB.out | apply below_alloc | apply pw_below_drewN | apply below_drew1) | exact HB.out))) : w.heap.size ≤ gb133)); have n3_ := Aside0.mk ((by rw [hg]; exact (below_size (by repeat (first | (with_reducible first | exact HB.out | apply below_alloc | apply pw_below_drewN | apply below_drew1) | exact HB.out))) : w.heap.size ≤ gb133)); clear HB; have HB := n0_; have BK133 := n1_; have GW133 := n2_; have GE133 := n3_; clear n0_ n1_ n2_ n3_; clear hb hbox hg; have hcz18_0 : w17.cell? ⟨gb133, 0, none⟩ = some (.int .i32 0) := (blk_cell BK133.out 0).trans rfl; have hcz18_1 : w17.cell? ⟨gb133, 1, none⟩ = some (.int .i64 0) := (blk_cell BK133.out 1).trans rfl; have hcz18_2 : w17.cell? ⟨gb133, 2, none⟩ = some (.int .i32 0) := (blk_cell BK133.out 2).trans rfl; have hcz18_3 : w17.cell? ⟨gb133, 3, none⟩ = some (.int .i32 0) := (blk_cell BK133.out 3).trans rfl; have hcz18_4 : w17.cell? ⟨gb133, 4, none⟩ = some (.int .i32 0) := (blk_cell BK133.out 4).trans rfl; have hfz18_0 := blk_frozen BK133.out 0; have hfz18_1 := blk_frozen BK133.out 1; have hfz18_2 := blk_frozen BK133.out 2; have hfz18_3 := blk_frozen BK133.out 3; have hfz18_4 := blk_frozen BK133.out 4))
              go_ret
              exact ⟨by first | rfl | (simp [errW_none, errW_some] <;> rfl) | (simp [*, errW_none, errW_some] <;> rfl), by repeat (first | (with_reducible first | exact HB.out | apply below_alloc | apply pw_below_drewN | apply below_drew1 | refine below_set ?_ GE133.out) | exact HB.out)⟩
          · rw [if_neg c11] at H
            have c11b0 : (t132 == 2) = false := beq_eq_false_iff_ne.mpr c11
            have c11b1 : (t132 != 2) = true := bne_iff_ne.mpr c11
            have HC19 := Aside0.mk H
            clear H
            go_upto_region 8 with (first | ((with_reducible refine gate_callee (f := 12) rfl ?_); refine goesL_ (some 30) rfl rfl Try.func12 (by kernel_rfl) rfl #[.slice A0 l0.length c0, .bool a2] rfl (by (try simp only [List.map_toArray, List.map_cons, List.map_nil]); first | done | rfl | (simp only [List.length_drop, List.length_take]; rfl)) ?_; (with_reducible refine (gram_Parse.calls _ _ l0 a2 t126 t127 t128 t129 t130 t131 t132 _ ?side1 ?side2 A10.out).mono ?_); (case side1 => repeat (first | exact (Kd.C_below HR0.out HB.out) | (with_reducible refine Kd.C_alloc ?_ _) | (with_reducible refine Kd.C_drewN ?_ _) | (with_reducible refine Kd.C_drew ?_))); (case side2 => exact HC0.out); rintro e w20 ⟨rfl, hb⟩; refine ⟨_, rfl, ?_⟩; have n0_ := Aside0.mk (below_step (by repeat (first | (with_reducible first | exact HB.out | apply below_alloc | apply pw_below_drewN | apply below_drew1) | exact HB.out)) hb); clear HB; have HB := n0_; clear n0_; (try clear hb); (try clear hb2); (try clear hk); (try clear hi)) | ((with_reducible refine gate_dst (N := 7) rfl ?_); (try (refine gate_guard (by rfl) ?_; dsimp only)); refine box_event ?hg (N := 7) ?hd (cs := #[.int .i32 0, .int .i64 0, .int .i32 0, .int .i32 0, .int .i32 0]) (t := 27) ?hr ?_; (case hd => rfl); (case hg => rfl); (case hr => first | (go_simp; done) | (go_simp; rfl)); intro gb133 hg w21 hbox hb; have n0_ := Aside0.mk (below_step (by repeat (first | (with_reducible first | exact HB.out | apply below_alloc | apply pw_below_drewN | apply below_drew1) | exact HB.out)) hb); have n1_ := Aside0.mk (hbox); have n2_ := Aside0.mk ((by rw [hg]; exact (below_size (by repeat (first | (with_reducible first | exact HB.out | apply below_alloc | apply pw_below_drewN | apply below_drew1) | exact HB.out))) : w.heap.size ≤ gb133)); have n3_ := Aside0.mk ((by rw [hg]; exact (below_size (by repeat (first | (with_reducible first | exact HB.out | apply below_alloc | apply pw_below_drewN | apply below_drew1) | exact HB.out))) : w.heap.size ≤ gb133)); clear HB; have HB := n0_; have BK133 := n1_; have GW133 := n2_; have GE133 := n3_; clear n0_ n1_ n2_ n3_; clear hb hbox hg; have hcz22_0 : w21.cell? ⟨gb133, 0, none⟩ = some (.int .i32 0) := (blk_cell BK133.out 0).trans rfl; have hcz22_1 : w21.cell? ⟨gb133, 1, none⟩ = some (.int .i64 0) := (blk_cell BK133.out 1).trans rfl; have hcz22_2 : w21.cell? ⟨gb133, 2, none⟩ = some (.int .i32 0) := (blk_cell BK133.out 2).trans rfl; have hcz22_3 : w21.cell? ⟨gb133, 3, none⟩ = some (.int .i32 0) := (blk_cell BK133.out 3).trans rfl; have hcz22_4 : w21.cell? ⟨gb133, 4, none⟩ = some (.int .i32 0) := (blk_cell BK133.out 4).trans rfl; have hfz22_0 := blk_frozen BK133.out 0; have hfz22_1 := blk_frozen BK133.out 1; have hfz22_2 := blk_frozen BK133.out 2; have hfz22_3 := blk_frozen BK133.out 3; have hfz22_4 := blk_frozen BK133.out 4))
            (try simp only [Act.put, List.setIfInBounds_toArray, List.set_cons_zero, List.set_cons_succ])
            go_cut [58] (fun v58 wc => ∃ (kq : Nat) (x58_18 : Bool), v58 = .bool x58_18 ∧ Aside0 (bureaulaw11_GramOneWay.j1 kq l0 l1 a2 t131 t132 x58_18 t126 t127 t128 t129 t130 = some r) ∧ Aside0 (kq ≤ kj5) ∧ Aside0 (wc.heap[gb133]? = some (.cells #[.int .i32 t126, .int .i64 t127, .int .i32 t128, .int .i32 t129, .int .i32 t130] 27 (0, 0))) ∧ Aside0 (Below w.heap.size w wc))
            case first =>
              have H := HC19.out
              clear HC19
              by_cases c23 : t131 < 1
              · rw [if_pos c23] at H
                have c23b0 : decide (t131 < 1) = true := decide_eq_true c23
                clear c23
                (first | rw [c23b0] | (simp only [i64_w, i32_w]; rw [c23b0]) | skip)
                have H' := Aside0.mk H
                clear H
                go_wp2
                go_meet
                case rel => exact ⟨_, (true), (by first | rfl | (simp; done) | (simp [*]; done)), H', ⟨by have := HJ5.out; first | omega | exact Nat.le_refl _⟩, ⟨by (with_reducible repeat (first | refine blk_drewN ?_ _ | refine blk_drew ?_ | refine blk_alloc ?_ _)); refine blk_put (cs := #[.int .i32 t126, .int .i64 t127, .int .i32 t128, .int .i32 t129, .int .i32 0]) ?_ 4 _ rfl; (with_reducible repeat (first | refine blk_drewN ?_ _ | refine blk_drew ?_ | refine blk_alloc ?_ _)); refine blk_put (cs := #[.int .i32 t126, .int .i64 t127, .int .i32 t128, .int .i32 0, .int .i32 0]) ?_ 3 _ rfl; (with_reducible repeat (first | refine blk_drewN ?_ _ | refine blk_drew ?_ | refine blk_alloc ?_ _)); refine blk_put (cs := #[.int .i32 t126, .int .i64 t127, .int .i32 0, .int .i32 0, .int .i32 0]) ?_ 2 _ rfl; (with_reducible repeat (first | refine blk_drewN ?_ _ | refine blk_drew ?_ | refine blk_alloc ?_ _)); refine blk_put (cs := #[.int .i32 t126, .int .i64 0, .int .i32 0, .int .i32 0, .int .i32 0]) ?_ 1 _ rfl; (with_reducible repeat (first | refine blk_drewN ?_ _ | refine blk_drew ?_ | refine blk_alloc ?_ _)); refine blk_put (cs := #[.int .i32 0, .int .i64 0, .int .i32 0, .int .i32 0, .int .i32 0]) ?_ 0 _ rfl; (with_reducible repeat (first | refine blk_drewN ?_ _ | refine blk_drew ?_ | refine blk_alloc ?_ _)); exact BK133.out⟩, ⟨by repeat (first | (with_reducible first | exact HB.out | apply below_alloc | apply pw_below_drewN | apply below_drew1 | refine below_set ?_ GE133.out) | exact HB.out)⟩⟩
              · rw [if_neg c23] at H
                have c23b0 : decide (t131 < 1) = false := decide_eq_false c23
                clear c23
                (first | rw [c23b0] | (simp only [i64_w, i32_w]; rw [c23b0]) | skip)
                by_cases c24 : t131 > (l0.length : Int)
                · rw [if_pos c24] at H
                  have c24b0 : decide ((l0.length : Int) < t131) = true := decide_eq_true c24
                  clear c24
                  have H' := Aside0.mk H
                  clear H
                  go_wp2
                  go_meet
                  case rel => exact ⟨_, (true), (by first | rfl | (simp; done) | (simp [*]; done)), H', ⟨by have := HJ5.out; first | omega | exact Nat.le_refl _⟩, ⟨by (with_reducible repeat (first | refine blk_drewN ?_ _ | refine blk_drew ?_ | refine blk_alloc ?_ _)); refine blk_put (cs := #[.int .i32 t126, .int .i64 t127, .int .i32 t128, .int .i32 t129, .int .i32 0]) ?_ 4 _ rfl; (with_reducible repeat (first | refine blk_drewN ?_ _ | refine blk_drew ?_ | refine blk_alloc ?_ _)); refine blk_put (cs := #[.int .i32 t126, .int .i64 t127, .int .i32 t128, .int .i32 0, .int .i32 0]) ?_ 3 _ rfl; (with_reducible repeat (first | refine blk_drewN ?_ _ | refine blk_drew ?_ | refine blk_alloc ?_ _)); refine blk_put (cs := #[.int .i32 t126, .int .i64 t127, .int .i32 0, .int .i32 0, .int .i32 0]) ?_ 2 _ rfl; (with_reducible repeat (first | refine blk_drewN ?_ _ | refine blk_drew ?_ | refine blk_alloc ?_ _)); refine blk_put (cs := #[.int .i32 t126, .int .i64 0, .int .i32 0, .int .i32 0, .int .i32 0]) ?_ 1 _ rfl; (with_reducible repeat (first | refine blk_drewN ?_ _ | refine blk_drew ?_ | refine blk_alloc ?_ _)); refine blk_put (cs := #[.int .i32 0, .int .i64 0, .int .i32 0, .int .i32 0, .int .i32 0]) ?_ 0 _ rfl; (with_reducible repeat (first | refine blk_drewN ?_ _ | refine blk_drew ?_ | refine blk_alloc ?_ _)); exact BK133.out⟩, ⟨by repeat (first | (with_reducible first | exact HB.out | apply below_alloc | apply pw_below_drewN | apply below_drew1 | refine below_set ?_ GE133.out) | exact HB.out)⟩⟩
                · rw [if_neg c24] at H
                  have c24b0 : decide ((l0.length : Int) < t131) = false := decide_eq_false c24
                  clear c24
                  by_cases c25 : t132 = 1
                  · rw [if_pos c25] at H
                    have c25b0 : (t132 == 1) = true := beq_iff_eq.mpr c25
                    have c25b1 : (t132 != 1) = false := bne_eq_false_iff_eq.mpr c25
                    clear c25
                    have H' := Aside0.mk H
                    clear H
                    go_wp2
                    go_meet
                    case rel => exact ⟨_, (false), (by first | rfl | (simp; done) | (simp [*]; done)), H', ⟨by have := HJ5.out; first | omega | exact Nat.le_refl _⟩, ⟨by (with_reducible repeat (first | refine blk_drewN ?_ _ | refine blk_drew ?_ | refine blk_alloc ?_ _)); refine blk_put (cs := #[.int .i32 t126, .int .i64 t127, .int .i32 t128, .int .i32 t129, .int .i32 0]) ?_ 4 _ rfl; (with_reducible repeat (first | refine blk_drewN ?_ _ | refine blk_drew ?_ | refine blk_alloc ?_ _)); refine blk_put (cs := #[.int .i32 t126, .int .i64 t127, .int .i32 t128, .int .i32 0, .int .i32 0]) ?_ 3 _ rfl; (with_reducible repeat (first | refine blk_drewN ?_ _ | refine blk_drew ?_ | refine blk_alloc ?_ _)); refine blk_put (cs := #[.int .i32 t126, .int .i64 t127, .int .i32 0, .int .i32 0, .int .i32 0]) ?_ 2 _ rfl; (with_reducible repeat (first | refine blk_drewN ?_ _ | refine blk_drew ?_ | refine blk_alloc ?_ _)); refine blk_put (cs := #[.int .i32 t126, .int .i64 0, .int .i32 0, .int .i32 0, .int .i32 0]) ?_ 1 _ rfl; (with_reducible repeat (first | refine blk_drewN ?_ _ | refine blk_drew ?_ | refine blk_alloc ?_ _)); refine blk_put (cs := #[.int .i32 0, .int .i64 0, .int .i32 0, .int .i32 0, .int .i32 0]) ?_ 0 _ rfl; (with_reducible repeat (first | refine blk_drewN ?_ _ | refine blk_drew ?_ | refine blk_alloc ?_ _)); exact BK133.out⟩, ⟨by repeat (first | (with_reducible first | exact HB.out | apply below_alloc | apply pw_below_drewN | apply below_drew1 | refine below_set ?_ GE133.out) | exact HB.out)⟩⟩
                  · rw [if_neg c25] at H
                    have c25b0 : (t132 == 1) = false := beq_eq_false_iff_ne.mpr c25
                    have c25b1 : (t132 != 1) = true := bne_iff_ne.mpr c25
                    have H' := Aside0.mk H
                    clear H
                    go_wp2
                    go_meet
                    case rel => exact ⟨_, ((t132 != 3)), (by first | rfl | (simp; done) | (simp [*]; done)), H', ⟨by have := HJ5.out; first | omega | exact Nat.le_refl _⟩, ⟨by (with_reducible repeat (first | refine blk_drewN ?_ _ | refine blk_drew ?_ | refine blk_alloc ?_ _)); refine blk_put (cs := #[.int .i32 t126, .int .i64 t127, .int .i32 t128, .int .i32 t129, .int .i32 0]) ?_ 4 _ rfl; (with_reducible repeat (first | refine blk_drewN ?_ _ | refine blk_drew ?_ | refine blk_alloc ?_ _)); refine blk_put (cs := #[.int .i32 t126, .int .i64 t127, .int .i32 t128, .int .i32 0, .int .i32 0]) ?_ 3 _ rfl; (with_reducible repeat (first | refine blk_drewN ?_ _ | refine blk_drew ?_ | refine blk_alloc ?_ _)); refine blk_put (cs := #[.int .i32 t126, .int .i64 t127, .int .i32 0, .int .i32 0, .int .i32 0]) ?_ 2 _ rfl; (with_reducible repeat (first | refine blk_drewN ?_ _ | refine blk_drew ?_ | refine blk_alloc ?_ _)); refine blk_put (cs := #[.int .i32 t126, .int .i64 0, .int .i32 0, .int .i32 0, .int .i32 0]) ?_ 1 _ rfl; (with_reducible repeat (first | refine blk_drewN ?_ _ | refine blk_drew ?_ | refine blk_alloc ?_ _)); refine blk_put (cs := #[.int .i32 0, .int .i64 0, .int .i32 0, .int .i32 0, .int .i32 0]) ?_ 0 _ rfl; (with_reducible repeat (first | refine blk_drewN ?_ _ | refine blk_drew ?_ | refine blk_alloc ?_ _)); exact BK133.out⟩, ⟨by repeat (first | (with_reducible first | exact HB.out | apply below_alloc | apply pw_below_drewN | apply below_drew1 | refine below_set ?_ GE133.out) | exact HB.out)⟩⟩
            case rest =>
              clear HC19
              try clear c1
              try clear c2
              try clear p2
              try clear c4
              try clear c5
              try clear c7
              try clear c8
              try clear c8b0
              try clear c8b1
              try clear c9
              try clear c11
              try clear c11b0
              try clear c11b1
              try clear c12
              try clear c12b0
              try clear c12b1
              try clear c12b2
              try clear c23
              try clear c23b0
              try clear c24
              try clear c24b0
              try clear c25
              try clear c25b0
              try clear c25b1
              try clear hcz15_0
              try clear hcz15_1
              try clear hcz15_2
              try clear hcz15_3
              try clear hcz15_4
              try clear hcz18_0
              try clear hcz18_1
              try clear hcz18_2
              try clear hcz18_3
              try clear hcz18_4
              try clear hcz22_0
              try clear hcz22_1
              try clear hcz22_2
              try clear hcz22_3
              try clear hcz22_4
              try clear hfz15_0
              try clear hfz15_1
              try clear hfz15_2
              try clear hfz15_3
              try clear hfz15_4
              try clear hfz18_0
              try clear hfz18_1
              try clear hfz18_2
              try clear hfz18_3
              try clear hfz18_4
              try clear hfz22_0
              try clear hfz22_1
              try clear hfz22_2
              try clear hfz22_3
              try clear hfz22_4
              try clear p2
              obtain ⟨kq, x58_18, rfl, HA, HJ18, BK133, HB⟩ := hcut
              cases kq with
              | zero => exact absurd HA.out (by simp [bureaulaw11_GramOneWay.j1])
              | succ kj18 =>
                have H := HA.out
                clear HA
                simp only [bureaulaw11_GramOneWay.j1] at H
                by_cases c26 : x58_18 = true
                · subst c26
                  have H1 : (some false) = some r := by rw [if_pos rfl] at H; exact H
                  clear H
                  have H := H1
                  clear H1
                  obtain rfl := Option.some.inj H
                  go_wp2
                  go_ret
                  exact ⟨by first | rfl | (simp [errW_none, errW_some] <;> rfl) | (simp [*, errW_none, errW_some] <;> rfl), by repeat (first | (with_reducible first | exact HB.out | apply below_alloc | apply pw_below_drewN | apply below_drew1 | refine below_set ?_ GE133.out) | exact HB.out)⟩
                · replace c26 := Bool.eq_false_iff.mpr c26
                  subst c26
                  have H1 : (if 0 ≤ t131 then (if t131 ≤ (l0.length : Int) then (if ([] : List Int).length + (l0.take (t131 : Int).toNat).length < 35184372088832 then ((some (([] : List Int) ++ (l0.take (t131 : Int).toNat) : List Int)).bind fun y135 => (if y135.length + l1.length < 35184372088832 then ((gram_Parse.f (y135 ++ l1) a2).bind fun bt141 => (if (!(t126 == bt141.1) || (!(t127 == bt141.2.1) || (!(t128 == bt141.2.2.1) || (!(t129 == bt141.2.2.2.1) || (!(t130 == bt141.2.2.2.2.1)))))) = true then (bureaulaw11_GramOneWay.j2 kj18 l0 a2 t131 true) else (if t131 = bt141.2.2.2.2.2.1 then (bureaulaw11_GramOneWay.j2 kj18 l0 a2 t131 (t132 != bt141.2.2.2.2.2.2)) else (bureaulaw11_GramOneWay.j2 kj18 l0 a2 t131 true)))) else (none))) else (none)) else (none)) else (none)) = some r := by rw [if_neg (show ¬ (false = true) by decide)] at H; exact H
                  clear H
                  have H := H1
                  clear H1
                  by_cases c27 : 0 ≤ t131
                  · rw [if_pos c27] at H
                    have c27b0 := eq_true c27
                    have c27b1 : decide (0 ≤ t131) = true := decide_eq_true c27
                    clear c27
                    by_cases c28 : t131 ≤ (l0.length : Int)
                    · rw [if_pos c28] at H
                      have c28b0 := eq_true c28
                      have c28b1 : decide (t131 ≤ (l0.length : Int)) = true := decide_eq_true c28
                      clear c28
                      by_cases c29 : ([] : List Int).length + (l0.take (t131 : Int).toNat).length < 35184372088832
                      · rw [if_pos c29] at H
                        have LMc29 := Aside0.mk c29
                        clear c29
                        obtain ⟨y135, hy135⟩ : ∃ y_ : List Int, y_ = (([] : List Int) ++ (l0.take (t131 : Int).toNat)) := ⟨_, rfl⟩
                        replace H : (if y135.length + l1.length < 35184372088832 then ((gram_Parse.f (y135 ++ l1) a2).bind fun bt141 => (if (!(t126 == bt141.1) || (!(t127 == bt141.2.1) || (!(t128 == bt141.2.2.1) || (!(t129 == bt141.2.2.2.1) || (!(t130 == bt141.2.2.2.2.1)))))) = true then (bureaulaw11_GramOneWay.j2 kj18 l0 a2 t131 true) else (if t131 = bt141.2.2.2.2.2.1 then (bureaulaw11_GramOneWay.j2 kj18 l0 a2 t131 (t132 != bt141.2.2.2.2.2.2)) else (bureaulaw11_GramOneWay.j2 kj18 l0 a2 t131 true)))) else (none)) = some r := by first | (rw [hy135]; with_reducible exact H) | (have H2_ := (Option.bind_some _ _).symm.trans H; rw [hy135]; with_reducible exact H2_) | (have H2_ := (Option.bind_some _ _).symm.trans H; with_reducible exact H2_) | with_reducible exact H | (rw [hy135]; exact H) | exact H
                        have Ny135 := Aside0.mk hy135
                        clear hy135
                        by_cases c30 : y135.length + l1.length < 35184372088832
                        · rw [if_pos c30] at H
                          have LMc30 := Aside0.mk c30
                          clear c30
                          obtain ⟨y138, hy138⟩ : ∃ y_ : List Int, y_ = (y135 ++ l1) := ⟨_, rfl⟩
                          replace H : ((gram_Parse.f y138 a2).bind fun bt141 => (if (!(t126 == bt141.1) || (!(t127 == bt141.2.1) || (!(t128 == bt141.2.2.1) || (!(t129 == bt141.2.2.2.1) || (!(t130 == bt141.2.2.2.2.1)))))) = true then (bureaulaw11_GramOneWay.j2 kj18 l0 a2 t131 true) else (if t131 = bt141.2.2.2.2.2.1 then (bureaulaw11_GramOneWay.j2 kj18 l0 a2 t131 (t132 != bt141.2.2.2.2.2.2)) else (bureaulaw11_GramOneWay.j2 kj18 l0 a2 t131 true)))) = some r := by first | (rw [hy138]; with_reducible exact H) | (have H2_ := (Option.bind_some _ _).symm.trans H; rw [hy138]; with_reducible exact H2_) | (have H2_ := (Option.bind_some _ _).symm.trans H; with_reducible exact H2_) | with_reducible exact H | (rw [hy138]; exact H) | exact H
                          have Ny138 := Aside0.mk hy138
                          clear hy138
                          replace H := Option.bind_eq_some_iff.mp H
                          obtain ⟨⟨t141, t142, t143, t144, t145, t146, t147⟩, A310, H⟩ := H
                          replace H : (if (!(t126 == t141) || (!(t127 == t142) || (!(t128 == t143) || (!(t129 == t144) || (!(t130 == t145)))))) = true then (bureaulaw11_GramOneWay.j2 kj18 l0 a2 t131 true) else (if t131 = t146 then (bureaulaw11_GramOneWay.j2 kj18 l0 a2 t131 (t132 != t147)) else (bureaulaw11_GramOneWay.j2 kj18 l0 a2 t131 true))) = some r := H
                          have A31 := Aside0.mk A310
                          clear A310
                          have HC32 := Aside0.mk H
                          clear H
                          obtain ⟨i033, hi033, _, hsz33, _⟩ := info_parts info21
                          obtain ⟨hcut33, hA33, hC33⟩ := print_take_of (P := Try.prog) (Value.int .i32) 0 25 21 .i64 Try.underlying25 hi033 hsz33 A0 c0 l0 t131 (of_decide_eq_true (by first | (with_reducible assumption) | assumption)) (of_decide_eq_true (by first | (with_reducible assumption) | assumption)) HC0.out
                          have HR134 := Aside0.mk (Kd.C_of_reads (h1 := fun _ => rfl) (hA33 _ (Kd.reads_of_C HR0.out)))
                          have HC134 := Aside0.mk hC33
                          clear hA33 hC33 hi033 hsz33
                          go_upto_region 11 with (first | ((with_reducible refine gate_builtin (b := .append) (xs := #[.const (.slice none 0 0), .tmp 62]) rfl ?_); (try (refine gate_guard (by rfl) ?_; dsimp only)); at_builtin; refine Kd.R_append_rows (Kd.int .i32) (w0 := w) w.heap.size rfl (.const (.slice none 0 0)) (.tmp 62) 25 21 (.int .i32 0) 4 rfl Try.underlying25 info21 rfl (by decide) (by omega) (.slice none 0 0) ([] : List Int) (l0.take (t131 : Int).toNat) _ _ _ (fun _ => True) (fun _ => False) rfl rfl ?aO ?aR (fun _ _ h => h) (fun _ h => h.elim) ?aF ?aB ?aS ?aL ?_; (case aR => first | (have e_ := (show (l0.take (t131 : Int).toNat).length = t131.toNat from (by rw [List.length_take]; have h_ : (t131 : Int) ≤ (l0.length : Int) := of_decide_eq_true (by first | (with_reducible assumption) | assumption); omega)); have z_ := (Kd.C_below HR134.out HB.out); rw [e_] at z_; exact z_) | (rw [← show (l0.take (t131 : Int).toNat).length = t131.toNat from (by rw [List.length_take]; have h_ : (t131 : Int) ≤ (l0.length : Int) := of_decide_eq_true (by first | (with_reducible assumption) | assumption); omega)]; repeat (first | exact (Kd.C_below HR134.out HB.out) | (with_reducible refine Kd.C_alloc ?_ _) | (with_reducible refine Kd.C_drewN ?_ _) | (with_reducible refine Kd.C_drew ?_))) | (repeat (first | exact (Kd.C_below HR134.out HB.out) | (with_reducible refine Kd.C_alloc ?_ _) | (with_reducible refine Kd.C_drewN ?_ _) | (with_reducible refine Kd.C_drew ?_)))); (case aB => exact (by repeat (first | (with_reducible first | exact HB.out | apply below_alloc | apply pw_below_drewN | apply below_drew1 | refine below_set ?_ GE133.out) | exact HB.out))); (case aF => exact (fun _ _ => trivial)); (case aO => exact ((Kd.R_nil _ _ _ _ (fun _ => True)))); (case aS => exact (below_size (by repeat (first | (with_reducible first | exact HB.out | apply below_alloc | apply pw_below_drewN | apply below_drew1 | refine below_set ?_ GE133.out) | exact HB.out)))); (case aL => have := LMc29.out; have hlx_ := (show (l0.take (t131 : Int).toNat).length = t131.toNat from (by rw [List.length_take]; have h_ : (t131 : Int) ≤ (l0.length : Int) := of_decide_eq_true (by first | (with_reducible assumption) | assumption); omega)); omega); intro v136 w34 ho hb hg hat; rw [← Ny135.out] at ho; have n0_ := Aside0.mk (blk_grown (g := gb133) (o := .cells #[.int .i32 t126, .int .i64 t127, .int .i32 t128, .int .i32 t129, .int .i32 t130] 27 (0, 0)) (by (with_reducible repeat (first | refine blk_drewN ?_ _ | refine blk_drew ?_ | refine blk_alloc ?_ _)); exact BK133.out) hg (by simp [Value.ownBlock])); have n1_ := Aside0.mk (hb); have n2_ := Aside0.mk (ho); clear BK133; clear HB; have BK133 := n0_; have HB := n1_; have HO137 := n2_; clear n0_ n1_ n2_; clear ho hb hg hat) | ((with_reducible refine gate_builtin (b := .append) (xs := #[.tmp 63, .tmp 64]) rfl ?_); (try (refine gate_guard (by rfl) ?_; dsimp only)); at_builtin; refine Kd.R_append_rows (Kd.int .i32) (w0 := w) w.heap.size rfl (.tmp 63) (.tmp 64) 25 21 (.int .i32 0) 4 rfl Try.underlying25 info21 rfl (by decide) (by omega) v136 y135 l1 _ _ _ (fun _ => True) (fun _ => False) rfl rfl ?aO ?aR (fun _ _ h => h) (fun _ h => h.elim) ?aF ?aB ?aS ?aL ?_; (case aR => repeat (first | exact (Kd.C_below HR1.out HB.out) | (with_reducible refine Kd.C_alloc ?_ _) | (with_reducible refine Kd.C_drewN ?_ _) | (with_reducible refine Kd.C_drew ?_))); (case aB => exact (by repeat (first | (with_reducible first | exact HB.out | apply below_alloc | apply pw_below_drewN | apply below_drew1 | refine below_set ?_ GE133.out) | exact HB.out))); (case aF => exact (fun _ _ => trivial)); (case aO => exact (by (with_reducible repeat (first | apply Kd.R_alloc | apply Kd.R_drewN | apply Kd.R_drew)); exact HO137.out)); (case aS => exact (below_size (by repeat (first | (with_reducible first | exact HB.out | apply below_alloc | apply pw_below_drewN | apply below_drew1 | refine below_set ?_ GE133.out) | exact HB.out)))); (case aL => have := LMc30.out; omega); intro v139 w35 ho hb hg hat; rw [← Ny138.out] at ho; have n0_ := Aside0.mk (blk_grown (g := gb133) (o := .cells #[.int .i32 t126, .int .i64 t127, .int .i32 t128, .int .i32 t129, .int .i32 t130] 27 (0, 0)) (by (with_reducible repeat (first | refine blk_drewN ?_ _ | refine blk_drew ?_ | refine blk_alloc ?_ _)); exact BK133.out) hg (Kd.R_ne HO137.out BK133.out (by decide))); have n1_ := Aside0.mk (hb); have n2_ := Aside0.mk (ho); clear BK133; clear HB; clear HO137; have BK133 := n0_; have HB := n1_; have HO140 := n2_; clear n0_ n1_ n2_; clear ho hb hg hat; obtain ⟨Ao36, co36, eo36⟩ := Kd.R_slice HO140.out; subst eo36) | ((with_reducible refine gate_callee (f := 12) rfl ?_); refine goesL_ (some 67) rfl rfl Try.func12 (by kernel_rfl) rfl #[.slice Ao36 y138.length co36, .bool a2] rfl (by (try simp only [List.map_toArray, List.map_cons, List.map_nil]); first | done | rfl | (simp only [List.length_drop, List.length_take]; rfl)) ?_; (with_reducible refine (gram_Parse.calls _ _ y138 a2 t141 t142 t143 t144 t145 t146 t147 _ ?side1 ?side2 A31.out).mono ?_); (case side1 => repeat (first | exact (Kd.R_reads' HO140.out).2.2 | (with_reducible refine Kd.C_alloc ?_ _) | (with_reducible refine Kd.C_drewN ?_ _) | (with_reducible refine Kd.C_drew ?_))); (case side2 => exact (Kd.R_reads' HO140.out).2.1); rintro e w37 ⟨rfl, hb⟩; refine ⟨_, rfl, ?_⟩; have n0_ := Aside0.mk (Kd.R_below (by (with_reducible repeat (first | apply Kd.R_alloc | apply Kd.R_drewN | apply Kd.R_drew)); exact HO140.out) hb); have n1_ := Aside0.mk (blk_below (g := gb133) (o := .cells #[.int .i32 t126, .int .i64 t127, .int .i32 t128, .int .i32 t129, .int .i32 t130] 27 (0, 0)) (by (with_reducible repeat (first | refine blk_drewN ?_ _ | refine blk_drew ?_ | refine blk_alloc ?_ _)); exact BK133.out) hb); have n2_ := Aside0.mk (below_step (by repeat (first | (with_reducible first | exact HB.out | apply below_alloc | apply pw_below_drewN | apply below_drew1 | refine below_set ?_ GE133.out) | exact HB.out)) hb); clear HO140; clear BK133; clear HB; have HO140 := n0_; have BK133 := n1_; have HB := n2_; clear n0_ n1_ n2_; (try clear hb); (try clear hb2); (try clear hk); (try clear hi)) | ((with_reducible refine gate_dst (N := 10) rfl ?_); (try (refine gate_guard (by rfl) ?_; dsimp only)); refine box_event ?hg (N := 10) ?hd (cs := #[.int .i32 0, .int .i64 0, .int .i32 0, .int .i32 0, .int .i32 0]) (t := 27) ?hr ?_; (case hd => rfl); (case hg => rfl); (case hr => first | (go_simp; done) | (go_simp; rfl)); intro gb148 hg w38 hbox hb; have n0_ := Aside0.mk (Kd.R_below (by (with_reducible repeat (first | apply Kd.R_alloc | apply Kd.R_drewN | apply Kd.R_drew)); exact HO140.out) hb); have n1_ := Aside0.mk (blk_below (g := gb133) (o := .cells #[.int .i32 t126, .int .i64 t127, .int .i32 t128, .int .i32 t129, .int .i32 t130] 27 (0, 0)) (by (with_reducible repeat (first | refine blk_drewN ?_ _ | refine blk_drew ?_ | refine blk_alloc ?_ _)); exact BK133.out) hb); have n2_ := Aside0.mk (below_step (by repeat (first | (with_reducible first | exact HB.out | apply below_alloc | apply pw_below_drewN | apply below_drew1 | refine below_set ?_ GE133.out) | exact HB.out)) hb); have n3_ := Aside0.mk (hbox); have n4_ := Aside0.mk ((by rw [hg]; exact (below_size (by repeat (first | (with_reducible first | exact HB.out | apply below_alloc | apply pw_below_drewN | apply below_drew1 | refine below_set ?_ GE133.out) | exact HB.out))) : w.heap.size ≤ gb148)); have n5_ := Aside0.mk ((by rw [hg]; exact (below_size (by repeat (first | (with_reducible first | exact HB.out | apply below_alloc | apply pw_below_drewN | apply below_drew1 | refine below_set ?_ GE133.out) | exact HB.out))) : w.heap.size ≤ gb148)); have n6_ := Aside0.mk ((by rw [hg]; exact Nat.ne_of_lt (blk_lt (g := gb133) (o := .cells #[.int .i32 t126, .int .i64 t127, .int .i32 t128, .int .i32 t129, .int .i32 t130] 27 (0, 0)) (by (with_reducible repeat (first | refine blk_drewN ?_ _ | refine blk_drew ?_ | refine blk_alloc ?_ _)); exact BK133.out)) : gb133 ≠ gb148)); have n7_ := Aside0.mk ((by rw [hg]; exact Nat.ne_of_gt (blk_lt (g := gb133) (o := .cells #[.int .i32 t126, .int .i64 t127, .int .i32 t128, .int .i32 t129, .int .i32 t130] 27 (0, 0)) (by (with_reducible repeat (first | refine blk_drewN ?_ _ | refine blk_drew ?_ | refine blk_alloc ?_ _)); exact BK133.out)) : gb148 ≠ gb133)); clear HO140; clear BK133; clear HB; have HO140 := n0_; have BK133 := n1_; have HB := n2_; have BK148 := n3_; have GW148 := n4_; have GE148 := n5_; have NB133_148 := n6_; have NB148_133 := n7_; clear n0_ n1_ n2_ n3_ n4_ n5_ n6_ n7_; clear hb hbox hg; have hnb39 := NB148_133.out; have hnc39 := NB133_148.out; have hcz40_0 : w38.cell? ⟨gb148, 0, none⟩ = some (.int .i32 0) := (blk_cell BK148.out 0).trans rfl; have hcz40_1 : w38.cell? ⟨gb148, 1, none⟩ = some (.int .i64 0) := (blk_cell BK148.out 1).trans rfl; have hcz40_2 : w38.cell? ⟨gb148, 2, none⟩ = some (.int .i32 0) := (blk_cell BK148.out 2).trans rfl; have hcz40_3 : w38.cell? ⟨gb148, 3, none⟩ = some (.int .i32 0) := (blk_cell BK148.out 3).trans rfl; have hcz40_4 : w38.cell? ⟨gb148, 4, none⟩ = some (.int .i32 0) := (blk_cell BK148.out 4).trans rfl; have hfz40_0 := blk_frozen BK148.out 0; have hfz40_1 := blk_frozen BK148.out 1; have hfz40_2 := blk_frozen BK148.out 2; have hfz40_3 := blk_frozen BK148.out 3; have hfz40_4 := blk_frozen BK148.out 4))
                          (try simp only [Act.put, List.setIfInBounds_toArray, List.set_cons_zero, List.set_cons_succ])
                          go_cut [83] (fun v83 wc => ∃ (kq : Nat) (x83_31 : Bool), v83 = .bool x83_31 ∧ Aside0 (bureaulaw11_GramOneWay.j2 kq l0 a2 t131 x83_31 = some r) ∧ Aside0 (kq ≤ kj18) ∧ Aside0 (wc.heap[gb133]? = some (.cells #[.int .i32 t126, .int .i64 t127, .int .i32 t128, .int .i32 t129, .int .i32 t130] 27 (0, 0))) ∧ Aside0 (wc.heap[gb148]? = some (.cells #[.int .i32 t141, .int .i64 t142, .int .i32 t143, .int .i32 t144, .int .i32 t145] 27 (0, 0))) ∧ Aside0 (Below w.heap.size w wc))
                          case first =>
                            have H := HC32.out
                            clear HC32
                            by_cases c41 : (!(t126 == t141) || (!(t127 == t142) || (!(t128 == t143) || (!(t129 == t144) || (!(t130 == t145)))))) = true
                            · rw [if_pos c41] at H
                              have c41b0 : (!(t126 == t141) || (!(t127 == t142) || (!(t128 == t143) || (!(t129 == t144) || (!(t130 == t145)))))) = true := c41
                              clear c41
                              (first | rw [c41b0] | (simp only [i64_w, i32_w]; rw [c41b0]) | skip)
                              have H' := Aside0.mk H
                              clear H
                              have hnb42 := NB133_148.out
                              have hnc42 := NB148_133.out
                              have hcz43_0 : w38.cell? ⟨gb133, 0, none⟩ = some (.int .i32 t126) := (blk_cell BK133.out 0).trans rfl
                              have hcz43_1 : w38.cell? ⟨gb133, 1, none⟩ = some (.int .i64 t127) := (blk_cell BK133.out 1).trans rfl
                              have hcz43_2 : w38.cell? ⟨gb133, 2, none⟩ = some (.int .i32 t128) := (blk_cell BK133.out 2).trans rfl
                              have hcz43_3 : w38.cell? ⟨gb133, 3, none⟩ = some (.int .i32 t129) := (blk_cell BK133.out 3).trans rfl
                              have hcz43_4 : w38.cell? ⟨gb133, 4, none⟩ = some (.int .i32 t130) := (blk_cell BK133.out 4).trans rfl
                              have hfz43_0 := blk_frozen BK133.out 0
                              have hfz43_1 := blk_frozen BK133.out 1
                              have hfz43_2 := blk_frozen BK133.out 2
                              have hfz43_3 := blk_frozen BK133.out 3
                              have hfz43_4 := blk_frozen BK133.out 4
                              have hcz44_0 : w38.cell? ⟨gb148, 0, none⟩ = some (.int .i32 0) := (blk_cell BK148.out 0).trans rfl
                              have hcz44_1 : w38.cell? ⟨gb148, 1, none⟩ = some (.int .i64 0) := (blk_cell BK148.out 1).trans rfl
                              have hcz44_2 : w38.cell? ⟨gb148, 2, none⟩ = some (.int .i32 0) := (blk_cell BK148.out 2).trans rfl
                              have hcz44_3 : w38.cell? ⟨gb148, 3, none⟩ = some (.int .i32 0) := (blk_cell BK148.out 3).trans rfl
                              have hcz44_4 : w38.cell? ⟨gb148, 4, none⟩ = some (.int .i32 0) := (blk_cell BK148.out 4).trans rfl
                              have hfz44_0 := blk_frozen BK148.out 0
                              have hfz44_1 := blk_frozen BK148.out 1
                              have hfz44_2 := blk_frozen BK148.out 2
                              have hfz44_3 := blk_frozen BK148.out 3
                              have hfz44_4 := blk_frozen BK148.out 4
                              go_wp2
                              go_meet
                              case rel => exact ⟨_, (true), (by first | rfl | (simp; done) | (simp [*]; done)), H', ⟨by have := HJ5.out; have := HJ18.out; first | omega | exact Nat.le_refl _⟩, ⟨by (with_reducible repeat (first | refine blk_drewN ?_ _ | refine blk_drew ?_ | refine blk_alloc ?_ _)); refine blk_far ?_ NB133_148.out _; (with_reducible repeat (first | refine blk_drewN ?_ _ | refine blk_drew ?_ | refine blk_alloc ?_ _)); refine blk_far ?_ NB133_148.out _; (with_reducible repeat (first | refine blk_drewN ?_ _ | refine blk_drew ?_ | refine blk_alloc ?_ _)); refine blk_far ?_ NB133_148.out _; (with_reducible repeat (first | refine blk_drewN ?_ _ | refine blk_drew ?_ | refine blk_alloc ?_ _)); refine blk_far ?_ NB133_148.out _; (with_reducible repeat (first | refine blk_drewN ?_ _ | refine blk_drew ?_ | refine blk_alloc ?_ _)); refine blk_far ?_ NB133_148.out _; (with_reducible repeat (first | refine blk_drewN ?_ _ | refine blk_drew ?_ | refine blk_alloc ?_ _)); exact BK133.out⟩, ⟨by (with_reducible repeat (first | refine blk_drewN ?_ _ | refine blk_drew ?_ | refine blk_alloc ?_ _)); refine blk_put (cs := #[.int .i32 t141, .int .i64 t142, .int .i32 t143, .int .i32 t144, .int .i32 0]) ?_ 4 _ rfl; (with_reducible repeat (first | refine blk_drewN ?_ _ | refine blk_drew ?_ | refine blk_alloc ?_ _)); refine blk_put (cs := #[.int .i32 t141, .int .i64 t142, .int .i32 t143, .int .i32 0, .int .i32 0]) ?_ 3 _ rfl; (with_reducible repeat (first | refine blk_drewN ?_ _ | refine blk_drew ?_ | refine blk_alloc ?_ _)); refine blk_put (cs := #[.int .i32 t141, .int .i64 t142, .int .i32 0, .int .i32 0, .int .i32 0]) ?_ 2 _ rfl; (with_reducible repeat (first | refine blk_drewN ?_ _ | refine blk_drew ?_ | refine blk_alloc ?_ _)); refine blk_put (cs := #[.int .i32 t141, .int .i64 0, .int .i32 0, .int .i32 0, .int .i32 0]) ?_ 1 _ rfl; (with_reducible repeat (first | refine blk_drewN ?_ _ | refine blk_drew ?_ | refine blk_alloc ?_ _)); refine blk_put (cs := #[.int .i32 0, .int .i64 0, .int .i32 0, .int .i32 0, .int .i32 0]) ?_ 0 _ rfl; (with_reducible repeat (first | refine blk_drewN ?_ _ | refine blk_drew ?_ | refine blk_alloc ?_ _)); exact BK148.out⟩, ⟨by repeat (first | (with_reducible first | exact HB.out | apply below_alloc | apply pw_below_drewN | apply below_drew1 | refine below_set ?_ GE133.out | refine below_set ?_ GE148.out) | exact HB.out)⟩⟩
                            · rw [if_neg c41] at H
                              have c41b0 : (!(t126 == t141) || (!(t127 == t142) || (!(t128 == t143) || (!(t129 == t144) || (!(t130 == t145)))))) = false := by simpa using c41
                              clear c41
                              (first | rw [c41b0] | (simp only [i64_w, i32_w]; rw [c41b0]) | skip)
                              by_cases c45 : t131 = t146
                              · rw [if_pos c45] at H
                                have c45b0 : (t131 == t146) = true := beq_iff_eq.mpr c45
                                have c45b1 : (t131 != t146) = false := bne_eq_false_iff_eq.mpr c45
                                clear c45
                                have H' := Aside0.mk H
                                clear H
                                have hnb46 := NB133_148.out
                                have hnc46 := NB148_133.out
                                have hcz47_0 : w38.cell? ⟨gb133, 0, none⟩ = some (.int .i32 t126) := (blk_cell BK133.out 0).trans rfl
                                have hcz47_1 : w38.cell? ⟨gb133, 1, none⟩ = some (.int .i64 t127) := (blk_cell BK133.out 1).trans rfl
                                have hcz47_2 : w38.cell? ⟨gb133, 2, none⟩ = some (.int .i32 t128) := (blk_cell BK133.out 2).trans rfl
                                have hcz47_3 : w38.cell? ⟨gb133, 3, none⟩ = some (.int .i32 t129) := (blk_cell BK133.out 3).trans rfl
                                have hcz47_4 : w38.cell? ⟨gb133, 4, none⟩ = some (.int .i32 t130) := (blk_cell BK133.out 4).trans rfl
                                have hfz47_0 := blk_frozen BK133.out 0
                                have hfz47_1 := blk_frozen BK133.out 1
                                have hfz47_2 := blk_frozen BK133.out 2
                                have hfz47_3 := blk_frozen BK133.out 3
                                have hfz47_4 := blk_frozen BK133.out 4
                                have hcz48_0 : w38.cell? ⟨gb148, 0, none⟩ = some (.int .i32 0) := (blk_cell BK148.out 0).trans rfl
                                have hcz48_1 : w38.cell? ⟨gb148, 1, none⟩ = some (.int .i64 0) := (blk_cell BK148.out 1).trans rfl
                                have hcz48_2 : w38.cell? ⟨gb148, 2, none⟩ = some (.int .i32 0) := (blk_cell BK148.out 2).trans rfl
                                have hcz48_3 : w38.cell? ⟨gb148, 3, none⟩ = some (.int .i32 0) := (blk_cell BK148.out 3).trans rfl
                                have hcz48_4 : w38.cell? ⟨gb148, 4, none⟩ = some (.int .i32 0) := (blk_cell BK148.out 4).trans rfl
                                have hfz48_0 := blk_frozen BK148.out 0
                                have hfz48_1 := blk_frozen BK148.out 1
                                have hfz48_2 := blk_frozen BK148.out 2
                                have hfz48_3 := blk_frozen BK148.out 3
                                have hfz48_4 := blk_frozen BK148.out 4
                                go_wp2
                                go_meet
                                case rel => exact ⟨_, ((t132 != t147)), (by first | rfl | (simp; done) | (simp [*]; done)), H', ⟨by have := HJ5.out; have := HJ18.out; first | omega | exact Nat.le_refl _⟩, ⟨by (with_reducible repeat (first | refine blk_drewN ?_ _ | refine blk_drew ?_ | refine blk_alloc ?_ _)); refine blk_far ?_ NB133_148.out _; (with_reducible repeat (first | refine blk_drewN ?_ _ | refine blk_drew ?_ | refine blk_alloc ?_ _)); refine blk_far ?_ NB133_148.out _; (with_reducible repeat (first | refine blk_drewN ?_ _ | refine blk_drew ?_ | refine blk_alloc ?_ _)); refine blk_far ?_ NB133_148.out _; (with_reducible repeat (first | refine blk_drewN ?_ _ | refine blk_drew ?_ | refine blk_alloc ?_ _)); refine blk_far ?_ NB133_148.out _; (with_reducible repeat (first | refine blk_drewN ?_ _ | refine blk_drew ?_ | refine blk_alloc ?_ _)); refine blk_far ?_ NB133_148.out _; (with_reducible repeat (first | refine blk_drewN ?_ _ | refine blk_drew ?_ | refine blk_alloc ?_ _)); exact BK133.out⟩, ⟨by (with_reducible repeat (first | refine blk_drewN ?_ _ | refine blk_drew ?_ | refine blk_alloc ?_ _)); refine blk_put (cs := #[.int .i32 t141, .int .i64 t142, .int .i32 t143, .int .i32 t144, .int .i32 0]) ?_ 4 _ rfl; (with_reducible repeat (first | refine blk_drewN ?_ _ | refine blk_drew ?_ | refine blk_alloc ?_ _)); refine blk_put (cs := #[.int .i32 t141, .int .i64 t142, .int .i32 t143, .int .i32 0, .int .i32 0]) ?_ 3 _ rfl; (with_reducible repeat (first | refine blk_drewN ?_ _ | refine blk_drew ?_ | refine blk_alloc ?_ _)); refine blk_put (cs := #[.int .i32 t141, .int .i64 t142, .int .i32 0, .int .i32 0, .int .i32 0]) ?_ 2 _ rfl; (with_reducible repeat (first | refine blk_drewN ?_ _ | refine blk_drew ?_ | refine blk_alloc ?_ _)); refine blk_put (cs := #[.int .i32 t141, .int .i64 0, .int .i32 0, .int .i32 0, .int .i32 0]) ?_ 1 _ rfl; (with_reducible repeat (first | refine blk_drewN ?_ _ | refine blk_drew ?_ | refine blk_alloc ?_ _)); refine blk_put (cs := #[.int .i32 0, .int .i64 0, .int .i32 0, .int .i32 0, .int .i32 0]) ?_ 0 _ rfl; (with_reducible repeat (first | refine blk_drewN ?_ _ | refine blk_drew ?_ | refine blk_alloc ?_ _)); exact BK148.out⟩, ⟨by repeat (first | (with_reducible first | exact HB.out | apply below_alloc | apply pw_below_drewN | apply below_drew1 | refine below_set ?_ GE133.out | refine below_set ?_ GE148.out) | exact HB.out)⟩⟩
                              · rw [if_neg c45] at H
                                have c45b0 : (t131 == t146) = false := beq_eq_false_iff_ne.mpr c45
                                have c45b1 : (t131 != t146) = true := bne_iff_ne.mpr c45
                                have H' := Aside0.mk H
                                clear H
                                have hnb49 := NB133_148.out
                                have hnc49 := NB148_133.out
                                have hcz50_0 : w38.cell? ⟨gb133, 0, none⟩ = some (.int .i32 t126) := (blk_cell BK133.out 0).trans rfl
                                have hcz50_1 : w38.cell? ⟨gb133, 1, none⟩ = some (.int .i64 t127) := (blk_cell BK133.out 1).trans rfl
                                have hcz50_2 : w38.cell? ⟨gb133, 2, none⟩ = some (.int .i32 t128) := (blk_cell BK133.out 2).trans rfl
                                have hcz50_3 : w38.cell? ⟨gb133, 3, none⟩ = some (.int .i32 t129) := (blk_cell BK133.out 3).trans rfl
                                have hcz50_4 : w38.cell? ⟨gb133, 4, none⟩ = some (.int .i32 t130) := (blk_cell BK133.out 4).trans rfl
                                have hfz50_0 := blk_frozen BK133.out 0
                                have hfz50_1 := blk_frozen BK133.out 1
                                have hfz50_2 := blk_frozen BK133.out 2
                                have hfz50_3 := blk_frozen BK133.out 3
                                have hfz50_4 := blk_frozen BK133.out 4
                                have hcz51_0 : w38.cell? ⟨gb148, 0, none⟩ = some (.int .i32 0) := (blk_cell BK148.out 0).trans rfl
                                have hcz51_1 : w38.cell? ⟨gb148, 1, none⟩ = some (.int .i64 0) := (blk_cell BK148.out 1).trans rfl
                                have hcz51_2 : w38.cell? ⟨gb148, 2, none⟩ = some (.int .i32 0) := (blk_cell BK148.out 2).trans rfl
                                have hcz51_3 : w38.cell? ⟨gb148, 3, none⟩ = some (.int .i32 0) := (blk_cell BK148.out 3).trans rfl
                                have hcz51_4 : w38.cell? ⟨gb148, 4, none⟩ = some (.int .i32 0) := (blk_cell BK148.out 4).trans rfl
                                have hfz51_0 := blk_frozen BK148.out 0
                                have hfz51_1 := blk_frozen BK148.out 1
                                have hfz51_2 := blk_frozen BK148.out 2
                                have hfz51_3 := blk_frozen BK148.out 3
                                have hfz51_4 := blk_frozen BK148.out 4
                                go_wp2
                                go_meet
                                case rel => exact ⟨_, (true), (by first | rfl | (simp; done) | (simp [*]; done)), H', ⟨by have := HJ5.out; have := HJ18.out; first | omega | exact Nat.le_refl _⟩, ⟨by (with_reducible repeat (first | refine blk_drewN ?_ _ | refine blk_drew ?_ | refine blk_alloc ?_ _)); refine blk_far ?_ NB133_148.out _; (with_reducible repeat (first | refine blk_drewN ?_ _ | refine blk_drew ?_ | refine blk_alloc ?_ _)); refine blk_far ?_ NB133_148.out _; (with_reducible repeat (first | refine blk_drewN ?_ _ | refine blk_drew ?_ | refine blk_alloc ?_ _)); refine blk_far ?_ NB133_148.out _; (with_reducible repeat (first | refine blk_drewN ?_ _ | refine blk_drew ?_ | refine blk_alloc ?_ _)); refine blk_far ?_ NB133_148.out _; (with_reducible repeat (first | refine blk_drewN ?_ _ | refine blk_drew ?_ | refine blk_alloc ?_ _)); refine blk_far ?_ NB133_148.out _; (with_reducible repeat (first | refine blk_drewN ?_ _ | refine blk_drew ?_ | refine blk_alloc ?_ _)); exact BK133.out⟩, ⟨by (with_reducible repeat (first | refine blk_drewN ?_ _ | refine blk_drew ?_ | refine blk_alloc ?_ _)); refine blk_put (cs := #[.int .i32 t141, .int .i64 t142, .int .i32 t143, .int .i32 t144, .int .i32 0]) ?_ 4 _ rfl; (with_reducible repeat (first | refine blk_drewN ?_ _ | refine blk_drew ?_ | refine blk_alloc ?_ _)); refine blk_put (cs := #[.int .i32 t141, .int .i64 t142, .int .i32 t143, .int .i32 0, .int .i32 0]) ?_ 3 _ rfl; (with_reducible repeat (first | refine blk_drewN ?_ _ | refine blk_drew ?_ | refine blk_alloc ?_ _)); refine blk_put (cs := #[.int .i32 t141, .int .i64 t142, .int .i32 0, .int .i32 0, .int .i32 0]) ?_ 2 _ rfl; (with_reducible repeat (first | refine blk_drewN ?_ _ | refine blk_drew ?_ | refine blk_alloc ?_ _)); refine blk_put (cs := #[.int .i32 t141, .int .i64 0, .int .i32 0, .int .i32 0, .int .i32 0]) ?_ 1 _ rfl; (with_reducible repeat (first | refine blk_drewN ?_ _ | refine blk_drew ?_ | refine blk_alloc ?_ _)); refine blk_put (cs := #[.int .i32 0, .int .i64 0, .int .i32 0, .int .i32 0, .int .i32 0]) ?_ 0 _ rfl; (with_reducible repeat (first | refine blk_drewN ?_ _ | refine blk_drew ?_ | refine blk_alloc ?_ _)); exact BK148.out⟩, ⟨by repeat (first | (with_reducible first | exact HB.out | apply below_alloc | apply pw_below_drewN | apply below_drew1 | refine below_set ?_ GE133.out | refine below_set ?_ GE148.out) | exact HB.out)⟩⟩
                          case rest =>
                            clear HC32
                            try clear c1
                            try clear c2
                            try clear p2
                            try clear c3
                            try clear c4
                            try clear c5
                            try clear c7
                            try clear c8
                            try clear c8b0
                            try clear c8b1
                            try clear c9
                            try clear c11
                            try clear c11b0
                            try clear c11b1
                            try clear c12
                            try clear c12b0
                            try clear c12b1
                            try clear c12b2
                            try clear c23
                            try clear c23b0
                            try clear c24
                            try clear c24b0
                            try clear c25
                            try clear c25b0
                            try clear c25b1
                            try clear c26
                            try clear c27
                            try clear c27b0
                            try clear c27b1
                            try clear c28
                            try clear c28b0
                            try clear c28b1
                            try clear c29
                            try clear c30
                            try clear c39
                            try clear c41
                            try clear c41b0
                            try clear c42
                            try clear c45
                            try clear c45b0
                            try clear c45b1
                            try clear c46
                            try clear c49
                            try clear hcz15_0
                            try clear hcz15_1
                            try clear hcz15_2
                            try clear hcz15_3
                            try clear hcz15_4
                            try clear hcz18_0
                            try clear hcz18_1
                            try clear hcz18_2
                            try clear hcz18_3
                            try clear hcz18_4
                            try clear hcz22_0
                            try clear hcz22_1
                            try clear hcz22_2
                            try clear hcz22_3
                            try clear hcz22_4
                            try clear hcz40_0
                            try clear hcz40_1
                            try clear hcz40_2
                            try clear hcz40_3
                            try clear hcz40_4
                            try clear hcz43_0
                            try clear hcz43_1
                            try clear hcz43_2
                            try clear hcz43_3
                            try clear hcz43_4
                            try clear hcz44_0
                            try clear hcz44_1
                            try clear hcz44_2
                            try clear hcz44_3
                            try clear hcz44_4
                            try clear hcz47_0
                            try clear hcz47_1
                            try clear hcz47_2
                            try clear hcz47_3
                            try clear hcz47_4
                            try clear hcz48_0
                            try clear hcz48_1
                            try clear hcz48_2
                            try clear hcz48_3
                            try clear hcz48_4
                            try clear hcz50_0
                            try clear hcz50_1
                            try clear hcz50_2
                            try clear hcz50_3
                            try clear hcz50_4
                            try clear hcz51_0
                            try clear hcz51_1
                            try clear hcz51_2
                            try clear hcz51_3
                            try clear hcz51_4
                            try clear hfz15_0
                            try clear hfz15_1
                            try clear hfz15_2
                            try clear hfz15_3
                            try clear hfz15_4
                            try clear hfz18_0
                            try clear hfz18_1
                            try clear hfz18_2
                            try clear hfz18_3
                            try clear hfz18_4
                            try clear hfz22_0
                            try clear hfz22_1
                            try clear hfz22_2
                            try clear hfz22_3
                            try clear hfz22_4
                            try clear hfz40_0
                            try clear hfz40_1
                            try clear hfz40_2
                            try clear hfz40_3
                            try clear hfz40_4
                            try clear hfz43_0
                            try clear hfz43_1
                            try clear hfz43_2
                            try clear hfz43_3
                            try clear hfz43_4
                            try clear hfz44_0
                            try clear hfz44_1
                            try clear hfz44_2
                            try clear hfz44_3
                            try clear hfz44_4
                            try clear hfz47_0
                            try clear hfz47_1
                            try clear hfz47_2
                            try clear hfz47_3
                            try clear hfz47_4
                            try clear hfz48_0
                            try clear hfz48_1
                            try clear hfz48_2
                            try clear hfz48_3
                            try clear hfz48_4
                            try clear hfz50_0
                            try clear hfz50_1
                            try clear hfz50_2
                            try clear hfz50_3
                            try clear hfz50_4
                            try clear hfz51_0
                            try clear hfz51_1
                            try clear hfz51_2
                            try clear hfz51_3
                            try clear hfz51_4
                            try clear p2
                            obtain ⟨kq, x83_31, rfl, HA, HJ31, BK133, BK148, HB⟩ := hcut
                            cases kq with
                            | zero => exact absurd HA.out (by simp [bureaulaw11_GramOneWay.j2])
                            | succ kj31 =>
                              have H := HA.out
                              clear HA
                              simp only [bureaulaw11_GramOneWay.j2] at H
                              by_cases c52 : x83_31 = true
                              · subst c52
                                have H1 : (some false) = some r := by rw [if_pos rfl] at H; exact H
                                clear H
                                have H := H1
                                clear H1
                                obtain rfl := Option.some.inj H
                                go_wp2
                                go_ret
                                exact ⟨by first | rfl | (simp [errW_none, errW_some] <;> rfl) | (simp [*, errW_none, errW_some] <;> rfl), by repeat (first | (with_reducible first | exact HB.out | apply below_alloc | apply pw_below_drewN | apply below_drew1 | refine below_set ?_ GE133.out | refine below_set ?_ GE148.out) | exact HB.out)⟩
                              · replace c52 := Bool.eq_false_iff.mpr c52
                                subst c52
                                have H1 : (bureaulaw11_GramOneWay.l0 kj31 l0 a2 t131 0) = some r := by rw [if_neg (show ¬ (false = true) by decide)] at H; exact H
                                clear H
                                have H := H1
                                clear H1
                                have H' := Aside0.mk H
                                clear H
                                go_wp2
                                go_loopg [85] kj31 (fun kq v85 w' => ∃ (x85_4 : Int), v85 = .int .i64 x85_4 ∧ Aside0 (bureaulaw11_GramOneWay.l0 kq l0 a2 t131 x85_4 = some r) ∧ Aside0 (kq ≤ kj31) ∧ Aside0 (w'.heap[gb133]? = some (.cells #[.int .i32 t126, .int .i64 t127, .int .i32 t128, .int .i32 t129, .int .i32 t130] 27 (0, 0))) ∧ Aside0 (w'.heap[gb148]? = some (.cells #[.int .i32 t141, .int .i64 t142, .int .i32 t143, .int .i32 t144, .int .i32 t145] 27 (0, 0))) ∧ Aside0 (Below w.heap.size w w'))
                                case atStart => exact ⟨(0), (by first | rfl | (simp; done) | (simp [*]; done)), H', ⟨Nat.le_refl _⟩, ⟨by (with_reducible repeat (first | refine blk_drewN ?_ _ | refine blk_drew ?_ | refine blk_alloc ?_ _)); exact BK133.out⟩, ⟨by (with_reducible repeat (first | refine blk_drewN ?_ _ | refine blk_drew ?_ | refine blk_alloc ?_ _)); exact BK148.out⟩, ⟨by repeat (first | (with_reducible first | exact HB.out | apply below_alloc | apply pw_below_drewN | apply below_drew1 | refine below_set ?_ GE133.out | refine below_set ?_ GE148.out) | exact HB.out)⟩⟩
                                case round =>
                                  clear H'
                                  try clear c1
                                  try clear c2
                                  try clear p2
                                  try clear c3
                                  try clear c4
                                  try clear c5
                                  try clear c7
                                  try clear c8
                                  try clear c8b0
                                  try clear c8b1
                                  try clear c9
                                  try clear c11
                                  try clear c11b0
                                  try clear c11b1
                                  try clear c12
                                  try clear c12b0
                                  try clear c12b1
                                  try clear c12b2
                                  try clear c23
                                  try clear c23b0
                                  try clear c24
                                  try clear c24b0
                                  try clear c25
                                  try clear c25b0
                                  try clear c25b1
                                  try clear c26
                                  try clear c27
                                  try clear c27b0
                                  try clear c27b1
                                  try clear c28
                                  try clear c28b0
                                  try clear c28b1
                                  try clear c29
                                  try clear c30
                                  try clear c39
                                  try clear c41
                                  try clear c41b0
                                  try clear c42
                                  try clear c45
                                  try clear c45b0
                                  try clear c45b1
                                  try clear c46
                                  try clear c49
                                  try clear c52
                                  try clear hcz15_0
                                  try clear hcz15_1
                                  try clear hcz15_2
                                  try clear hcz15_3
                                  try clear hcz15_4
                                  try clear hcz18_0
                                  try clear hcz18_1
                                  try clear hcz18_2
                                  try clear hcz18_3
                                  try clear hcz18_4
                                  try clear hcz22_0
                                  try clear hcz22_1
                                  try clear hcz22_2
                                  try clear hcz22_3
                                  try clear hcz22_4
                                  try clear hcz40_0
                                  try clear hcz40_1
                                  try clear hcz40_2
                                  try clear hcz40_3
                                  try clear hcz40_4
                                  try clear hcz43_0
                                  try clear hcz43_1
                                  try clear hcz43_2
                                  try clear hcz43_3
                                  try clear hcz43_4
                                  try clear hcz44_0
                                  try clear hcz44_1
                                  try clear hcz44_2
                                  try clear hcz44_3
                                  try clear hcz44_4
                                  try clear hcz47_0
                                  try clear hcz47_1
                                  try clear hcz47_2
                                  try clear hcz47_3
                                  try clear hcz47_4
                                  try clear hcz48_0
                                  try clear hcz48_1
                                  try clear hcz48_2
                                  try clear hcz48_3
                                  try clear hcz48_4
                                  try clear hcz50_0
                                  try clear hcz50_1
                                  try clear hcz50_2
                                  try clear hcz50_3
                                  try clear hcz50_4
                                  try clear hcz51_0
                                  try clear hcz51_1
                                  try clear hcz51_2
                                  try clear hcz51_3
                                  try clear hcz51_4
                                  try clear hfz15_0
                                  try clear hfz15_1
                                  try clear hfz15_2
                                  try clear hfz15_3
                                  try clear hfz15_4
                                  try clear hfz18_0
                                  try clear hfz18_1
                                  try clear hfz18_2
                                  try clear hfz18_3
                                  try clear hfz18_4
                                  try clear hfz22_0
                                  try clear hfz22_1
                                  try clear hfz22_2
                                  try clear hfz22_3
                                  try clear hfz22_4
                                  try clear hfz40_0
                                  try clear hfz40_1
                                  try clear hfz40_2
                                  try clear hfz40_3
                                  try clear hfz40_4
                                  try clear hfz43_0
                                  try clear hfz43_1
                                  try clear hfz43_2
                                  try clear hfz43_3
                                  try clear hfz43_4
                                  try clear hfz44_0
                                  try clear hfz44_1
                                  try clear hfz44_2
                                  try clear hfz44_3
                                  try clear hfz44_4
                                  try clear hfz47_0
                                  try clear hfz47_1
                                  try clear hfz47_2
                                  try clear hfz47_3
                                  try clear hfz47_4
                                  try clear hfz48_0
                                  try clear hfz48_1
                                  try clear hfz48_2
                                  try clear hfz48_3
                                  try clear hfz48_4
                                  try clear hfz50_0
                                  try clear hfz50_1
                                  try clear hfz50_2
                                  try clear hfz50_3
                                  try clear hfz50_4
                                  try clear hfz51_0
                                  try clear hfz51_1
                                  try clear hfz51_2
                                  try clear hfz51_3
                                  try clear hfz51_4
                                  try clear p2
                                  obtain ⟨x85_4, rfl, HA, HK4, BK133, BK148, HB⟩ := hrel
                                  cases gk with
                                  | zero => exact absurd HA.out (by simp [bureaulaw11_GramOneWay.l0])
                                  | succ k4 =>
                                    have H := HA.out
                                    clear HA
                                    simp only [bureaulaw11_GramOneWay.l0] at H
                                    by_cases c53 : x85_4 < t131
                                    · rw [if_pos c53] at H
                                      have c53b0 : decide (x85_4 < t131) = true := decide_eq_true c53
                                      clear c53
                                      by_cases c54 : 0 ≤ x85_4
                                      · rw [if_pos c54] at H
                                        have c54b0 := eq_true c54
                                        have c54b1 : decide (0 ≤ x85_4) = true := decide_eq_true c54
                                        clear c54
                                        by_cases c55 : x85_4 ≤ (l0.length : Int)
                                        · rw [if_pos c55] at H
                                          have c55b0 := eq_true c55
                                          have c55b1 : decide (x85_4 ≤ (l0.length : Int)) = true := decide_eq_true c55
                                          clear c55
                                          replace H := Option.bind_eq_some_iff.mp H
                                          obtain ⟨⟨t150, t151, t152, t153, t154, t155, t156⟩, A560, H⟩ := H
                                          replace H : (if t156 = 2 then (bureaulaw11_GramOneWay.l0 k4 l0 a2 t131 (wrap64 (x85_4 + 1))) else (some false)) = some r := H
                                          have A56 := Aside0.mk A560
                                          clear A560
                                          by_cases c57 : t156 = 2
                                          · rw [if_pos c57] at H
                                            have c57b0 : (t156 == 2) = true := beq_iff_eq.mpr c57
                                            have c57b1 : (t156 != 2) = false := bne_eq_false_iff_eq.mpr c57
                                            clear c57
                                            have H' := Aside0.mk H
                                            clear H
                                            obtain ⟨i058, hi058, _, hsz58, _⟩ := info_parts info21
                                            obtain ⟨hcut58, hA58, hC58⟩ := print_take_of (P := Try.prog) (Value.int .i32) 0 25 21 .i64 Try.underlying25 hi058 hsz58 A0 c0 l0 x85_4 (of_decide_eq_true (by first | (with_reducible assumption) | assumption)) (of_decide_eq_true (by first | (with_reducible assumption) | assumption)) HC0.out
                                            have HR149 := Aside0.mk (Kd.C_of_reads (h1 := fun _ => rfl) (hA58 _ (Kd.reads_of_C HR0.out)))
                                            have HC149 := Aside0.mk hC58
                                            clear hA58 hC58 hi058 hsz58
                                            go_wp2_with (first | ((with_reducible refine gate_callee (f := 12) rfl ?_); refine goesL_ (some 93) rfl rfl Try.func12 (by kernel_rfl) rfl #[.slice A0 (l0.take (x85_4 : Int).toNat).length c0, .bool a2] rfl (by (try simp only [List.map_toArray, List.map_cons, List.map_nil]); first | done | (rw [show (l0.take (x85_4 : Int).toNat).length = x85_4.toNat from (by rw [List.length_take]; have h_ : (x85_4 : Int) ≤ (l0.length : Int) := of_decide_eq_true (by first | (with_reducible assumption) | assumption); omega)] <;> rfl) | rfl | (simp only [List.length_drop, List.length_take]; rfl)) ?_; (with_reducible refine (gram_Parse.calls _ _ (l0.take (x85_4 : Int).toNat) a2 t150 t151 t152 t153 t154 t155 t156 _ ?side1 ?side2 A56.out).mono ?_); (case side1 => repeat (first | exact (Kd.C_below HR149.out HB.out) | (with_reducible refine Kd.C_alloc ?_ _) | (with_reducible refine Kd.C_drewN ?_ _) | (with_reducible refine Kd.C_drew ?_))); (case side2 => exact HC149.out); rintro e w59 ⟨rfl, hb⟩; refine ⟨_, rfl, ?_⟩; have n0_ := Aside0.mk (blk_below (g := gb133) (o := .cells #[.int .i32 t126, .int .i64 t127, .int .i32 t128, .int .i32 t129, .int .i32 t130] 27 (0, 0)) (by (with_reducible repeat (first | refine blk_drewN ?_ _ | refine blk_drew ?_ | refine blk_alloc ?_ _)); exact BK133.out) hb); have n1_ := Aside0.mk (blk_below (g := gb148) (o := .cells #[.int .i32 t141, .int .i64 t142, .int .i32 t143, .int .i32 t144, .int .i32 t145] 27 (0, 0)) (by (with_reducible repeat (first | refine blk_drewN ?_ _ | refine blk_drew ?_ | refine blk_alloc ?_ _)); exact BK148.out) hb); have n2_ := Aside0.mk (below_step (by repeat (first | (with_reducible first | exact HB.out | apply below_alloc | apply pw_below_drewN | apply below_drew1 | refine below_set ?_ GE133.out | refine below_set ?_ GE148.out) | exact HB.out)) hb); clear BK133; clear BK148; clear HB; have BK133 := n0_; have BK148 := n1_; have HB := n2_; clear n0_ n1_ n2_; (try clear hb); (try clear hb2); (try clear hk); (try clear hi)) | ((with_reducible refine gate_dst (N := 14) rfl ?_); (try (refine gate_guard (by rfl) ?_; dsimp only)); refine box_event ?hg (N := 14) ?hd (cs := #[.int .i32 0, .int .i64 0, .int .i32 0, .int .i32 0, .int .i32 0]) (t := 27) ?hr ?_; (case hd => rfl); (case hg => rfl); (case hr => first | (go_simp; done) | (go_simp; rfl)); intro gb157 hg w60 hbox hb; have n0_ := Aside0.mk (blk_below (g := gb133) (o := .cells #[.int .i32 t126, .int .i64 t127, .int .i32 t128, .int .i32 t129, .int .i32 t130] 27 (0, 0)) (by (with_reducible repeat (first | refine blk_drewN ?_ _ | refine blk_drew ?_ | refine blk_alloc ?_ _)); exact BK133.out) hb); have n1_ := Aside0.mk (blk_below (g := gb148) (o := .cells #[.int .i32 t141, .int .i64 t142, .int .i32 t143, .int .i32 t144, .int .i32 t145] 27 (0, 0)) (by (with_reducible repeat (first | refine blk_drewN ?_ _ | refine blk_drew ?_ | refine blk_alloc ?_ _)); exact BK148.out) hb); have n2_ := Aside0.mk (below_step (by repeat (first | (with_reducible first | exact HB.out | apply below_alloc | apply pw_below_drewN | apply below_drew1 | refine below_set ?_ GE133.out | refine below_set ?_ GE148.out) | exact HB.out)) hb); have n3_ := Aside0.mk (hbox); have n4_ := Aside0.mk ((by rw [hg]; exact (below_size (by repeat (first | (with_reducible first | exact HB.out | apply below_alloc | apply pw_below_drewN | apply below_drew1 | refine below_set ?_ GE133.out | refine below_set ?_ GE148.out) | exact HB.out))) : w.heap.size ≤ gb157)); have n5_ := Aside0.mk ((by rw [hg]; exact (below_size (by repeat (first | (with_reducible first | exact HB.out | apply below_alloc | apply pw_below_drewN | apply below_drew1 | refine below_set ?_ GE133.out | refine below_set ?_ GE148.out) | exact HB.out))) : w.heap.size ≤ gb157)); have n6_ := Aside0.mk ((by rw [hg]; exact Nat.ne_of_lt (blk_lt (g := gb133) (o := .cells #[.int .i32 t126, .int .i64 t127, .int .i32 t128, .int .i32 t129, .int .i32 t130] 27 (0, 0)) (by (with_reducible repeat (first | refine blk_drewN ?_ _ | refine blk_drew ?_ | refine blk_alloc ?_ _)); exact BK133.out)) : gb133 ≠ gb157)); have n7_ := Aside0.mk ((by rw [hg]; exact Nat.ne_of_gt (blk_lt (g := gb133) (o := .cells #[.int .i32 t126, .int .i64 t127, .int .i32 t128, .int .i32 t129, .int .i32 t130] 27 (0, 0)) (by (with_reducible repeat (first | refine blk_drewN ?_ _ | refine blk_drew ?_ | refine blk_alloc ?_ _)); exact BK133.out)) : gb157 ≠ gb133)); have n8_ := Aside0.mk ((by rw [hg]; exact Nat.ne_of_lt (blk_lt (g := gb148) (o := .cells #[.int .i32 t141, .int .i64 t142, .int .i32 t143, .int .i32 t144, .int .i32 t145] 27 (0, 0)) (by (with_reducible repeat (first | refine blk_drewN ?_ _ | refine blk_drew ?_ | refine blk_alloc ?_ _)); exact BK148.out)) : gb148 ≠ gb157)); have n9_ := Aside0.mk ((by rw [hg]; exact Nat.ne_of_gt (blk_lt (g := gb148) (o := .cells #[.int .i32 t141, .int .i64 t142, .int .i32 t143, .int .i32 t144, .int .i32 t145] 27 (0, 0)) (by (with_reducible repeat (first | refine blk_drewN ?_ _ | refine blk_drew ?_ | refine blk_alloc ?_ _)); exact BK148.out)) : gb157 ≠ gb148)); clear BK133; clear BK148; clear HB; have BK133 := n0_; have BK148 := n1_; have HB := n2_; have BK157 := n3_; have GW157 := n4_; have GE157 := n5_; have NB133_157 := n6_; have NB157_133 := n7_; have NB148_157 := n8_; have NB157_148 := n9_; clear n0_ n1_ n2_ n3_ n4_ n5_ n6_ n7_ n8_ n9_; clear hb hbox hg; have hnb61 := NB157_133.out; have hnc61 := NB133_157.out; have hnb62 := NB157_148.out; have hnc62 := NB148_157.out; have hcz63_0 : w60.cell? ⟨gb157, 0, none⟩ = some (.int .i32 0) := (blk_cell BK157.out 0).trans rfl; have hcz63_1 : w60.cell? ⟨gb157, 1, none⟩ = some (.int .i64 0) := (blk_cell BK157.out 1).trans rfl; have hcz63_2 : w60.cell? ⟨gb157, 2, none⟩ = some (.int .i32 0) := (blk_cell BK157.out 2).trans rfl; have hcz63_3 : w60.cell? ⟨gb157, 3, none⟩ = some (.int .i32 0) := (blk_cell BK157.out 3).trans rfl; have hcz63_4 : w60.cell? ⟨gb157, 4, none⟩ = some (.int .i32 0) := (blk_cell BK157.out 4).trans rfl; have hfz63_0 := blk_frozen BK157.out 0; have hfz63_1 := blk_frozen BK157.out 1; have hfz63_2 := blk_frozen BK157.out 2; have hfz63_3 := blk_frozen BK157.out 3; have hfz63_4 := blk_frozen BK157.out 4))
                                            go_roundg k4
                                            case measure => have := HJ5.out; have := HJ18.out; have := HJ31.out; have := HK4.out; omega
                                            case rel => exact ⟨(wrap64 (x85_4 + 1)), (by first | rfl | (simp; done) | (simp [*]; done)), H', ⟨by have := HJ5.out; have := HJ18.out; have := HJ31.out; have := HK4.out; omega⟩, ⟨by (with_reducible repeat (first | refine blk_drewN ?_ _ | refine blk_drew ?_ | refine blk_alloc ?_ _)); refine blk_far ?_ NB133_157.out _; (with_reducible repeat (first | refine blk_drewN ?_ _ | refine blk_drew ?_ | refine blk_alloc ?_ _)); refine blk_far ?_ NB133_157.out _; (with_reducible repeat (first | refine blk_drewN ?_ _ | refine blk_drew ?_ | refine blk_alloc ?_ _)); refine blk_far ?_ NB133_157.out _; (with_reducible repeat (first | refine blk_drewN ?_ _ | refine blk_drew ?_ | refine blk_alloc ?_ _)); refine blk_far ?_ NB133_157.out _; (with_reducible repeat (first | refine blk_drewN ?_ _ | refine blk_drew ?_ | refine blk_alloc ?_ _)); refine blk_far ?_ NB133_157.out _; (with_reducible repeat (first | refine blk_drewN ?_ _ | refine blk_drew ?_ | refine blk_alloc ?_ _)); exact BK133.out⟩, ⟨by (with_reducible repeat (first | refine blk_drewN ?_ _ | refine blk_drew ?_ | refine blk_alloc ?_ _)); refine blk_far ?_ NB148_157.out _; (with_reducible repeat (first | refine blk_drewN ?_ _ | refine blk_drew ?_ | refine blk_alloc ?_ _)); refine blk_far ?_ NB148_157.out _; (with_reducible repeat (first | refine blk_drewN ?_ _ | refine blk_drew ?_ | refine blk_alloc ?_ _)); refine blk_far ?_ NB148_157.out _; (with_reducible repeat (first | refine blk_drewN ?_ _ | refine blk_drew ?_ | refine blk_alloc ?_ _)); refine blk_far ?_ NB148_157.out _; (with_reducible repeat (first | refine blk_drewN ?_ _ | refine blk_drew ?_ | refine blk_alloc ?_ _)); refine blk_far ?_ NB148_157.out _; (with_reducible repeat (first | refine blk_drewN ?_ _ | refine blk_drew ?_ | refine blk_alloc ?_ _)); exact BK148.out⟩, ⟨by repeat (first | (with_reducible first | exact HB.out | apply below_alloc | apply pw_below_drewN | apply below_drew1 | refine below_set ?_ GE133.out | refine below_set ?_ GE148.out | refine below_set ?_ GE157.out) | exact HB.out)⟩⟩
                                          · rw [if_neg c57] at H
                                            have c57b0 : (t156 == 2) = false := beq_eq_false_iff_ne.mpr c57
                                            have c57b1 : (t156 != 2) = true := bne_iff_ne.mpr c57
                                            obtain rfl := Option.some.inj H
                                            obtain ⟨i064, hi064, _, hsz64, _⟩ := info_parts info21
                                            obtain ⟨hcut64, hA64, hC64⟩ := print_take_of (P := Try.prog) (Value.int .i32) 0 25 21 .i64 Try.underlying25 hi064 hsz64 A0 c0 l0 x85_4 (of_decide_eq_true (by first | (with_reducible assumption) | assumption)) (of_decide_eq_true (by first | (with_reducible assumption) | assumption)) HC0.out
                                            have HR149 := Aside0.mk (Kd.C_of_reads (h1 := fun _ => rfl) (hA64 _ (Kd.reads_of_C HR0.out)))
                                            have HC149 := Aside0.mk hC64
                                            clear hA64 hC64 hi064 hsz64
                                            go_wp2_with (first | ((with_reducible refine gate_callee (f := 12) rfl ?_); refine goesL_ (some 93) rfl rfl Try.func12 (by kernel_rfl) rfl #[.slice A0 (l0.take (x85_4 : Int).toNat).length c0, .bool a2] rfl (by (try simp only [List.map_toArray, List.map_cons, List.map_nil]); first | done | (rw [show (l0.take (x85_4 : Int).toNat).length = x85_4.toNat from (by rw [List.length_take]; have h_ : (x85_4 : Int) ≤ (l0.length : Int) := of_decide_eq_true (by first | (with_reducible assumption) | assumption); omega)] <;> rfl) | rfl | (simp only [List.length_drop, List.length_take]; rfl)) ?_; (with_reducible refine (gram_Parse.calls _ _ (l0.take (x85_4 : Int).toNat) a2 t150 t151 t152 t153 t154 t155 t156 _ ?side1 ?side2 A56.out).mono ?_); (case side1 => repeat (first | exact (Kd.C_below HR149.out HB.out) | (with_reducible refine Kd.C_alloc ?_ _) | (with_reducible refine Kd.C_drewN ?_ _) | (with_reducible refine Kd.C_drew ?_))); (case side2 => exact HC149.out); rintro e w65 ⟨rfl, hb⟩; refine ⟨_, rfl, ?_⟩; have n0_ := Aside0.mk (blk_below (g := gb133) (o := .cells #[.int .i32 t126, .int .i64 t127, .int .i32 t128, .int .i32 t129, .int .i32 t130] 27 (0, 0)) (by (with_reducible repeat (first | refine blk_drewN ?_ _ | refine blk_drew ?_ | refine blk_alloc ?_ _)); exact BK133.out) hb); have n1_ := Aside0.mk (blk_below (g := gb148) (o := .cells #[.int .i32 t141, .int .i64 t142, .int .i32 t143, .int .i32 t144, .int .i32 t145] 27 (0, 0)) (by (with_reducible repeat (first | refine blk_drewN ?_ _ | refine blk_drew ?_ | refine blk_alloc ?_ _)); exact BK148.out) hb); have n2_ := Aside0.mk (below_step (by repeat (first | (with_reducible first | exact HB.out | apply below_alloc | apply pw_below_drewN | apply below_drew1 | refine below_set ?_ GE133.out | refine below_set ?_ GE148.out) | exact HB.out)) hb); clear BK133; clear BK148; clear HB; have BK133 := n0_; have BK148 := n1_; have HB := n2_; clear n0_ n1_ n2_; (try clear hb); (try clear hb2); (try clear hk); (try clear hi)) | ((with_reducible refine gate_dst (N := 14) rfl ?_); (try (refine gate_guard (by rfl) ?_; dsimp only)); refine box_event ?hg (N := 14) ?hd (cs := #[.int .i32 0, .int .i64 0, .int .i32 0, .int .i32 0, .int .i32 0]) (t := 27) ?hr ?_; (case hd => rfl); (case hg => rfl); (case hr => first | (go_simp; done) | (go_simp; rfl)); intro gb157 hg w66 hbox hb; have n0_ := Aside0.mk (blk_below (g := gb133) (o := .cells #[.int .i32 t126, .int .i64 t127, .int .i32 t128, .int .i32 t129, .int .i32 t130] 27 (0, 0)) (by (with_reducible repeat (first | refine blk_drewN ?_ _ | refine blk_drew ?_ | refine blk_alloc ?_ _)); exact BK133.out) hb); have n1_ := Aside0.mk (blk_below (g := gb148) (o := .cells #[.int .i32 t141, .int .i64 t142, .int .i32 t143, .int .i32 t144, .int .i32 t145] 27 (0, 0)) (by (with_reducible repeat (first | refine blk_drewN ?_ _ | refine blk_drew ?_ | refine blk_alloc ?_ _)); exact BK148.out) hb); have n2_ := Aside0.mk (below_step (by repeat (first | (with_reducible first | exact HB.out | apply below_alloc | apply pw_below_drewN | apply below_drew1 | refine below_set ?_ GE133.out | refine below_set ?_ GE148.out) | exact HB.out)) hb); have n3_ := Aside0.mk (hbox); have n4_ := Aside0.mk ((by rw [hg]; exact (below_size (by repeat (first | (with_reducible first | exact HB.out | apply below_alloc | apply pw_below_drewN | apply below_drew1 | refine below_set ?_ GE133.out | refine below_set ?_ GE148.out) | exact HB.out))) : w.heap.size ≤ gb157)); have n5_ := Aside0.mk ((by rw [hg]; exact (below_size (by repeat (first | (with_reducible first | exact HB.out | apply below_alloc | apply pw_below_drewN | apply below_drew1 | refine below_set ?_ GE133.out | refine below_set ?_ GE148.out) | exact HB.out))) : w.heap.size ≤ gb157)); have n6_ := Aside0.mk ((by rw [hg]; exact Nat.ne_of_lt (blk_lt (g := gb133) (o := .cells #[.int .i32 t126, .int .i64 t127, .int .i32 t128, .int .i32 t129, .int .i32 t130] 27 (0, 0)) (by (with_reducible repeat (first | refine blk_drewN ?_ _ | refine blk_drew ?_ | refine blk_alloc ?_ _)); exact BK133.out)) : gb133 ≠ gb157)); have n7_ := Aside0.mk ((by rw [hg]; exact Nat.ne_of_gt (blk_lt (g := gb133) (o := .cells #[.int .i32 t126, .int .i64 t127, .int .i32 t128, .int .i32 t129, .int .i32 t130] 27 (0, 0)) (by (with_reducible repeat (first | refine blk_drewN ?_ _ | refine blk_drew ?_ | refine blk_alloc ?_ _)); exact BK133.out)) : gb157 ≠ gb133)); have n8_ := Aside0.mk ((by rw [hg]; exact Nat.ne_of_lt (blk_lt (g := gb148) (o := .cells #[.int .i32 t141, .int .i64 t142, .int .i32 t143, .int .i32 t144, .int .i32 t145] 27 (0, 0)) (by (with_reducible repeat (first | refine blk_drewN ?_ _ | refine blk_drew ?_ | refine blk_alloc ?_ _)); exact BK148.out)) : gb148 ≠ gb157)); have n9_ := Aside0.mk ((by rw [hg]; exact Nat.ne_of_gt (blk_lt (g := gb148) (o := .cells #[.int .i32 t141, .int .i64 t142, .int .i32 t143, .int .i32 t144, .int .i32 t145] 27 (0, 0)) (by (with_reducible repeat (first | refine blk_drewN ?_ _ | refine blk_drew ?_ | refine blk_alloc ?_ _)); exact BK148.out)) : gb157 ≠ gb148)); clear BK133; clear BK148; clear HB; have BK133 := n0_; have BK148 := n1_; have HB := n2_; have BK157 := n3_; have GW157 := n4_; have GE157 := n5_; have NB133_157 := n6_; have NB157_133 := n7_; have NB148_157 := n8_; have NB157_148 := n9_; clear n0_ n1_ n2_ n3_ n4_ n5_ n6_ n7_ n8_ n9_; clear hb hbox hg; have hnb67 := NB157_133.out; have hnc67 := NB133_157.out; have hnb68 := NB157_148.out; have hnc68 := NB148_157.out; have hcz69_0 : w66.cell? ⟨gb157, 0, none⟩ = some (.int .i32 0) := (blk_cell BK157.out 0).trans rfl; have hcz69_1 : w66.cell? ⟨gb157, 1, none⟩ = some (.int .i64 0) := (blk_cell BK157.out 1).trans rfl; have hcz69_2 : w66.cell? ⟨gb157, 2, none⟩ = some (.int .i32 0) := (blk_cell BK157.out 2).trans rfl; have hcz69_3 : w66.cell? ⟨gb157, 3, none⟩ = some (.int .i32 0) := (blk_cell BK157.out 3).trans rfl; have hcz69_4 : w66.cell? ⟨gb157, 4, none⟩ = some (.int .i32 0) := (blk_cell BK157.out 4).trans rfl; have hfz69_0 := blk_frozen BK157.out 0; have hfz69_1 := blk_frozen BK157.out 1; have hfz69_2 := blk_frozen BK157.out 2; have hfz69_3 := blk_frozen BK157.out 3; have hfz69_4 := blk_frozen BK157.out 4))
                                            go_ret
                                            exact ⟨by first | rfl | (simp [errW_none, errW_some] <;> rfl) | (simp [*, errW_none, errW_some] <;> rfl), by repeat (first | (with_reducible first | exact HB.out | apply below_alloc | apply pw_below_drewN | apply below_drew1 | refine below_set ?_ GE133.out | refine below_set ?_ GE148.out | refine below_set ?_ GE157.out) | exact HB.out)⟩
                                        · rw [if_neg c55] at H
                                          exact absurd H (by simp)
                                      · rw [if_neg c54] at H
                                        exact absurd H (by simp)
                                    · rw [if_neg c53] at H
                                      have c53b0 : decide (x85_4 < t131) = false := decide_eq_false c53
                                      clear c53
                                      obtain rfl := Option.some.inj H
                                      go_wp2
                                      go_ret
                                      exact ⟨by first | rfl | (simp [errW_none, errW_some] <;> rfl) | (simp [*, errW_none, errW_some] <;> rfl), by repeat (first | (with_reducible first | exact HB.out | apply below_alloc | apply pw_below_drewN | apply below_drew1 | refine below_set ?_ GE133.out | refine below_set ?_ GE148.out) | exact HB.out)⟩
                        · rw [if_neg c30] at H
                          exact absurd H (by simp)
                      · rw [if_neg c29] at H
                        exact absurd H (by simp)
                    · rw [if_neg c28] at H
                      exact absurd H (by simp)
                  · rw [if_neg c27] at H
                    exact absurd H (by simp)
  · replace c5 := Bool.eq_false_iff.mpr c5
    subst c5
    have H1 : (some false) = some r := by rw [if_neg (show ¬ (false = true) by decide)] at H; exact H
    clear H
    have H := H1
    clear H1
    obtain rfl := Option.some.inj H
    go_enter Try.func4, Try.ntmps4
    go_wp2_with (first | ((with_reducible refine gate_callee (f := 7) rfl ?_); refine goesL_ (some 17) rfl rfl Try.func7 (by kernel_rfl) rfl #[] rfl (by (try simp only [List.map_toArray, List.map_cons, List.map_nil]); first | done | rfl | (simp only [List.length_drop, List.length_take]; rfl)) ?_; (with_reducible refine (bureaulaw11_alive.calls  false _ A4.out).mono ?_); rintro e w70 ⟨rfl, hb⟩; refine ⟨_, rfl, ?_⟩; have n0_ := Aside0.mk (below_step (by repeat (first | (with_reducible first | exact HB.out | apply below_alloc | apply pw_below_drewN | apply below_drew1) | exact HB.out)) hb); clear HB; have HB := n0_; clear n0_; (try clear hb); (try clear hb2); (try clear hk); (try clear hi)))
    go_ret
    exact ⟨by first | rfl | (simp [errW_none, errW_some] <;> rfl) | (simp [*, errW_none, errW_some] <;> rfl), by repeat (first | (with_reducible first | exact HB.out | apply below_alloc | apply pw_below_drewN | apply below_drew1) | exact HB.out)⟩

/-- What is to be proved of bureaulaw11_GramOneWay: no program in it. -/
def bureaulaw11_GramOneWay.Pure : Prop := ∀ (l0 : List Int) (l1 : List Int) (a2 : Bool), l0.length ≤ maxLen → (∀ x ∈ l0, (Lit.int .i32 x).wf = true) → l1.length ≤ maxLen → (∀ x ∈ l1, (Lit.int .i32 x).wf = true) → ∃ k, bureaulaw11_GramOneWay.f k l0 l1 a2 = some true

end Go.Proofs.Ytfhlohmhacfngaa.XGramOneWay
