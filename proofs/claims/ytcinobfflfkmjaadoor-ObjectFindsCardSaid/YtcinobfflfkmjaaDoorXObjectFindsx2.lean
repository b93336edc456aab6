-- Written by this session's program (wip/xprint.py) with the kit's print, for this claim.
import Derived.Test.YtcinobfflfkmjaaDoorXObjectFindsx0
import Derived.Test.YtcinobfflfkmjaaDoorXObjectFindsx1
namespace Go.Proofs.YtcinobfflfkmjaaDoor.XObjectFinds
open Go.RowKit Go.Proofs.YtcinobfflfkmjaaDoorW.PrintWords Go.Proofs.YtcinobfflfkmjaaDoorW.PrintLast Go.Proofs.YtcinobfflfkmjaaDoorW.PrintMore Go.Proofs.YtcinobfflfkmjaaDoor.Ext
attribute [local go_sem] max2_int min2_int max_two min_two max_three min_three max_four min_four   -- for this text's walks alone
set_option linter.unusedVariables false
set_option linter.unusedSimpArgs false

/-! ### glyph_Prev: function 34 -/
def glyph_Prev.f (k : Nat) (a0 : ByteArray) (a1 : Int) : Option (Int) := (glyph_Align.f k a0 a1).bind fun t110 => ((glyph_Align.f k a0 (wrap64 (t110 - 1))).bind fun t111 => (some t111))
theorem glyph_Prev.mono : ∀ a0 a1 k, LeO (glyph_Prev.f k a0 a1) (glyph_Prev.f (k + 1) a0 a1) := by
  intro a0 a1 k
  unfold glyph_Prev.f
  repeat' first
      | (with_reducible exact glyph_Align.mono _ _ _)
      | (with_reducible exact LeO.refl _)
      | (with_reducible exact LeO.none _)
      | (with_reducible refine LeO.ite ?_ ?_)
      | (with_reducible refine LeO.bind ?_ (fun _ => ?_))
      | exact glyph_Align.mono _ _ _
      | exact LeO.none _
      | refine LeO.ite ?_ ?_
      | refine LeO.bind ?_ (fun _ => ?_)
set_option maxHeartbeats 8000000 in
set_option maxRecDepth 100000 in
theorem glyph_Prev.calls (k : Nat) (a0 : ByteArray) (a1 : Int) (r : Int) (w : World) (h : glyph_Prev.f k a0 a1 = some r) (hTabs : Tabs w) :
    Calls Tryd.prog 34 #[.string a0, .int .i64 a1] w fun e w' => e = .returned (.int .i64 r) ∧ Below w.heap.size w w' := by
  have HTABS := Aside0.mk hTabs
  clear hTabs
  have HB := Aside0.mk (Below.refl w.heap.size w)
  have H : ((glyph_Align.f k a0 a1).bind fun t110 => ((glyph_Align.f k a0 (wrap64 (t110 - 1))).bind fun t111 => (some t111))) = some r := h
  clear h
  replace H := Option.bind_eq_some_iff.mp H
  obtain ⟨t110, A30, H⟩ := H
  replace H : ((glyph_Align.f k a0 (wrap64 (t110 - 1))).bind fun t111 => (some t111)) = some r := H
  have A3 := Aside0.mk A30
  clear A30
  replace H := Option.bind_eq_some_iff.mp H
  obtain ⟨t111, A40, H⟩ := H
  replace H : (some t111) = some r := H
  have A4 := Aside0.mk A40
  clear A40
  obtain rfl := Option.some.inj H
  go_enter Tryd.func34, Tryd.ntmps34
  go_wp2_with (first | ((with_reducible refine gate_callee (f := 14) rfl ?_); refine goesL_ (some 8) rfl rfl Tryd.func14 (by kernel_rfl) rfl #[.string a0, .int .i64 a1] rfl (by (try simp only [List.map_toArray, List.map_cons, List.map_nil]); first | done | rfl | (simp only [List.length_drop, List.length_take]; rfl)) ?_; (with_reducible refine (glyph_Align.calls k a0 a1 t110 _ A3.out ?sideT).mono ?_); (case sideT => first | exact HTABS.out | exact HTABS.out.below (by repeat (first | (with_reducible first | exact HB.out | apply below_alloc | apply pw_below_drewN | apply below_drew1) | exact HB.out)) (Nat.le_refl _) | exact HTABS.out.below (Below.drew (Below.refl _ _)) (Nat.le_refl _)); rintro e w5 ⟨rfl, hb⟩; refine ⟨_, rfl, ?_⟩; have n0_ := Aside0.mk (below_step (by repeat (first | (with_reducible first | exact HB.out | apply below_alloc | apply pw_below_drewN | apply below_drew1) | exact HB.out)) hb); clear HB; have HB := n0_; clear n0_; (try clear hb); (try clear hb2); (try clear hk); (try clear hi)) | ((with_reducible refine gate_callee (f := 14) rfl ?_); refine goesL_ (some 10) rfl rfl Tryd.func14 (by kernel_rfl) rfl #[.string a0, .int .i64 (wrap64 (t110 - 1))] rfl (by (try simp only [List.map_toArray, List.map_cons, List.map_nil]); first | done | rfl | (simp only [List.length_drop, List.length_take]; rfl)) ?_; (with_reducible refine (glyph_Align.calls k a0 (wrap64 (t110 - 1)) t111 _ A4.out ?sideT).mono ?_); (case sideT => first | exact HTABS.out | exact HTABS.out.below (by repeat (first | (with_reducible first | exact HB.out | apply below_alloc | apply pw_below_drewN | apply below_drew1) | exact HB.out)) (Nat.le_refl _) | exact HTABS.out.below (Below.drew (Below.refl _ _)) (Nat.le_refl _)); rintro e w6 ⟨rfl, hb⟩; refine ⟨_, rfl, ?_⟩; have n0_ := Aside0.mk (below_step (by repeat (first | (with_reducible first | exact HB.out | apply below_alloc | apply pw_below_drewN | apply below_drew1) | exact HB.out)) hb); clear HB; have HB := n0_; clear n0_; (try clear hb); (try clear hb2); (try clear hk); (try clear hi)))
  go_ret
  exact ⟨by first | rfl | (simp [errW_none, errW_some] <;> rfl) | (simp [*, errW_none, errW_some] <;> rfl), by repeat (first | (with_reducible first | exact HB.out | apply below_alloc | apply pw_below_drewN | apply below_drew1) | exact HB.out)⟩

/-! ### glyph_Next: function 42 -/
def glyph_Next.f (k : Nat) (a0 : ByteArray) (a1 : Int) : Option (Int) := (glyph_At.f k a0 a1).bind fun bt112 => ((glyph_Align.f k a0 a1).bind fun t114 => (some (wrap64 (t114 + bt112.2))))
theorem glyph_Next.mono : ∀ a0 a1 k, LeO (glyph_Next.f k a0 a1) (glyph_Next.f (k + 1) a0 a1) := by
  intro a0 a1 k
  unfold glyph_Next.f
  repeat' first
      | (with_reducible exact glyph_Align.mono _ _ _)
      | (with_reducible exact glyph_At.mono _ _ _)
      | (with_reducible exact LeO.refl _)
      | (with_reducible exact LeO.none _)
      | (with_reducible refine LeO.ite ?_ ?_)
      | (with_reducible refine LeO.bind ?_ (fun _ => ?_))
      | exact glyph_Align.mono _ _ _
      | exact glyph_At.mono _ _ _
      | exact LeO.none _
      | refine LeO.ite ?_ ?_
      | refine LeO.bind ?_ (fun _ => ?_)
set_option maxHeartbeats 8000000 in
set_option maxRecDepth 100000 in
theorem glyph_Next.calls (k : Nat) (a0 : ByteArray) (a1 : Int) (r : Int) (w : World) (h : glyph_Next.f k a0 a1 = some r) (hTabs : Tabs w) :
    Calls Tryd.prog 42 #[.string a0, .int .i64 a1] w fun e w' => e = .returned (.int .i64 r) ∧ Below w.heap.size w w' := by
  have HTABS := Aside0.mk hTabs
  clear hTabs
  have HB := Aside0.mk (Below.refl w.heap.size w)
  have H : ((glyph_At.f k a0 a1).bind fun bt112 => ((glyph_Align.f k a0 a1).bind fun t114 => (some (wrap64 (t114 + bt112.2))))) = some r := h
  clear h
  replace H := Option.bind_eq_some_iff.mp H
  obtain ⟨⟨t112, t113⟩, A30, H⟩ := H
  replace H : ((glyph_Align.f k a0 a1).bind fun t114 => (some (wrap64 (t114 + t113)))) = some r := H
  have A3 := Aside0.mk A30
  clear A30
  replace H := Option.bind_eq_some_iff.mp H
  obtain ⟨t114, A40, H⟩ := H
  replace H : (some (wrap64 (t114 + t113))) = some r := H
  have A4 := Aside0.mk A40
  clear A40
  obtain rfl := Option.some.inj H
  go_enter Tryd.func42, Tryd.ntmps42
  go_wp2_with (first | ((with_reducible refine gate_callee (f := 43) rfl ?_); refine goesL_ (some 10) rfl rfl Tryd.func43 (by kernel_rfl) rfl #[.string a0, .int .i64 a1] rfl (by (try simp only [List.map_toArray, List.map_cons, List.map_nil]); first | done | rfl | (simp only [List.length_drop, List.length_take]; rfl)) ?_; (with_reducible refine (glyph_At.calls k a0 a1 t112 t113 _ A3.out ?sideT).mono ?_); (case sideT => first | exact HTABS.out | exact HTABS.out.below (by repeat (first | (with_reducible first | exact HB.out | apply below_alloc | apply pw_below_drewN | apply below_drew1) | exact HB.out)) (Nat.le_refl _) | exact HTABS.out.below (Below.drew (Below.refl _ _)) (Nat.le_refl _)); rintro e w5 ⟨rfl, hb⟩; refine ⟨_, rfl, ?_⟩; have n0_ := Aside0.mk (below_step (by repeat (first | (with_reducible first | exact HB.out | apply below_alloc | apply pw_below_drewN | apply below_drew1) | exact HB.out)) hb); clear HB; have HB := n0_; clear n0_; (try clear hb); (try clear hb2); (try clear hk); (try clear hi)) | ((with_reducible refine gate_callee (f := 14) rfl ?_); refine goesL_ (some 15) rfl rfl Tryd.func14 (by kernel_rfl) rfl #[.string a0, .int .i64 a1] rfl (by (try simp only [List.map_toArray, List.map_cons, List.map_nil]); first | done | rfl | (simp only [List.length_drop, List.length_take]; rfl)) ?_; (with_reducible refine (glyph_Align.calls k a0 a1 t114 _ A4.out ?sideT).mono ?_); (case sideT => first | exact HTABS.out | exact HTABS.out.below (by repeat (first | (with_reducible first | exact HB.out | apply below_alloc | apply pw_below_drewN | apply below_drew1) | exact HB.out)) (Nat.le_refl _) | exact HTABS.out.below (Below.drew (Below.refl _ _)) (Nat.le_refl _)); rintro e w6 ⟨rfl, hb⟩; refine ⟨_, rfl, ?_⟩; have n0_ := Aside0.mk (below_step (by repeat (first | (with_reducible first | exact HB.out | apply below_alloc | apply pw_below_drewN | apply below_drew1) | exact HB.out)) hb); clear HB; have HB := n0_; clear n0_; (try clear hb); (try clear hb2); (try clear hk); (try clear hi)))
  go_ret
  exact ⟨by first | rfl | (simp [errW_none, errW_some] <;> rfl) | (simp [*, errW_none, errW_some] <;> rfl), by repeat (first | (with_reducible first | exact HB.out | apply below_alloc | apply pw_below_drewN | apply below_drew1) | exact HB.out)⟩

/-! ### object_row: function 32 -/
mutual
def object_row.j1 : Nat → ByteArray → Int → Int → Int → Option (Int × Int)
  | 0, _, _, _, _ => none
  | k + 1, x0, x6, x7, x8 => object_row.l1 k x0 x6 x7 x8
def object_row.l1 : Nat → ByteArray → Int → Int → Int → Option (Int × Int)
  | 0, _, _, _, _ => none
  | k + 1, x0, x6, x7, x8 => (object_class.f k x0 x8).bind fun t119 => (if t119 = x6 then ((glyph_Next.f k x0 x8).bind fun t120 => (object_row.l1 k x0 x6 x7 t120)) else (some (x7, x8)))
def object_row.l0 : Nat → ByteArray → Int → Int → Int → Option (Int × Int)
  | 0, _, _, _, _ => none
  | k + 1, x0, x6, x7, x8 => if x7 > 0 then ((glyph_Prev.f k x0 x7).bind fun t116 => ((object_class.f k x0 t116).bind fun t117 => (if t117 = x6 then ((glyph_Prev.f k x0 x7).bind fun t118 => (object_row.l0 k x0 x6 t118 x8)) else (object_row.j1 k x0 x6 x7 x8)))) else (object_row.j1 k x0 x6 x7 x8)
end
def object_row.f (k : Nat) (a0 : ByteArray) (a1 : Int) : Option (Int × Int) := (object_class.f k a0 a1).bind fun t115 => (object_row.l0 k a0 t115 a1 a1)
theorem object_row.mono_l : ∀ k, (∀ y0 y1 y2 y3, LeO (object_row.j1 k y0 y1 y2 y3) (object_row.j1 (k + 1) y0 y1 y2 y3)) ∧ (∀ y0 y1 y2 y3, LeO (object_row.l1 k y0 y1 y2 y3) (object_row.l1 (k + 1) y0 y1 y2 y3)) ∧ (∀ y0 y1 y2 y3, LeO (object_row.l0 k y0 y1 y2 y3) (object_row.l0 (k + 1) y0 y1 y2 y3))
  | 0 => ⟨fun _ _ _ _ r h => by simp [object_row.j1] at h, fun _ _ _ _ r h => by simp [object_row.l1] at h, fun _ _ _ _ r h => by simp [object_row.l0] at h⟩
  | k + 1 => by
    obtain ⟨ih0, ih1, ih2⟩ := object_row.mono_l k
    refine ⟨?_, ?_, ?_⟩
    · intro y0 y1 y2 y3
      unfold object_row.j1
      repeat' first
      | (with_reducible exact ih0 _ _ _ _)
      | (with_reducible exact ih1 _ _ _ _)
      | (with_reducible exact ih2 _ _ _ _)
      | (with_reducible exact glyph_Next.mono _ _ _)
      | (with_reducible exact glyph_Prev.mono _ _ _)
      | (with_reducible exact object_class.mono _ _ _)
      | (with_reducible exact LeO.refl _)
      | (with_reducible exact LeO.none _)
      | (with_reducible refine LeO.ite ?_ ?_)
      | (with_reducible refine LeO.bind ?_ (fun _ => ?_))
      | exact ih0 _ _ _ _
      | exact ih1 _ _ _ _
      | exact ih2 _ _ _ _
      | exact glyph_Next.mono _ _ _
      | exact glyph_Prev.mono _ _ _
      | exact object_class.mono _ _ _
      | exact LeO.none _
      | refine LeO.ite ?_ ?_
      | refine LeO.bind ?_ (fun _ => ?_)
    · intro y0 y1 y2 y3
      unfold object_row.l1
      repeat' first
      | (with_reducible exact ih0 _ _ _ _)
      | (with_reducible exact ih1 _ _ _ _)
      | (with_reducible exact ih2 _ _ _ _)
      | (with_reducible exact glyph_Next.mono _ _ _)
      | (with_reducible exact glyph_Prev.mono _ _ _)
      | (with_reducible exact object_class.mono _ _ _)
      | (with_reducible exact LeO.refl _)
      | (with_reducible exact LeO.none _)
      | (with_reducible refine LeO.ite ?_ ?_)
      | (with_reducible refine LeO.bind ?_ (fun _ => ?_))
      | exact ih0 _ _ _ _
      | exact ih1 _ _ _ _
      | exact ih2 _ _ _ _
      | exact glyph_Next.mono _ _ _
      | exact glyph_Prev.mono _ _ _
      | exact object_class.mono _ _ _
      | exact LeO.none _
      | refine LeO.ite ?_ ?_
      | refine LeO.bind ?_ (fun _ => ?_)
    · intro y0 y1 y2 y3
      unfold object_row.l0
      repeat' first
      | (with_reducible exact ih0 _ _ _ _)
      | (with_reducible exact ih1 _ _ _ _)
      | (with_reducible exact ih2 _ _ _ _)
      | (with_reducible exact glyph_Next.mono _ _ _)
      | (with_reducible exact glyph_Prev.mono _ _ _)
      | (with_reducible exact object_class.mono _ _ _)
      | (with_reducible exact LeO.refl _)
      | (with_reducible exact LeO.none _)
      | (with_reducible refine LeO.ite ?_ ?_)
      | (with_reducible refine LeO.bind ?_ (fun _ => ?_))
      | exact ih0 _ _ _ _
      | exact ih1 _ _ _ _
      | exact ih2 _ _ _ _
      | exact glyph_Next.mono _ _ _
      | exact glyph_Prev.mono _ _ _
      | exact object_class.mono _ _ _
      | exact LeO.none _
      | refine LeO.ite ?_ ?_
      | refine LeO.bind ?_ (fun _ => ?_)
theorem object_row.mono : ∀ a0 a1 k, LeO (object_row.f k a0 a1) (object_row.f (k + 1) a0 a1) := by
  intro a0 a1 k
  obtain ⟨ih0, ih1, ih2⟩ := object_row.mono_l k
  unfold object_row.f
  repeat' first
      | (with_reducible exact ih0 _ _ _ _)
      | (with_reducible exact ih1 _ _ _ _)
      | (with_reducible exact ih2 _ _ _ _)
      | (with_reducible exact glyph_Next.mono _ _ _)
      | (with_reducible exact glyph_Prev.mono _ _ _)
      | (with_reducible exact object_class.mono _ _ _)
      | (with_reducible exact LeO.refl _)
      | (with_reducible exact LeO.none _)
      | (with_reducible refine LeO.ite ?_ ?_)
      | (with_reducible refine LeO.bind ?_ (fun _ => ?_))
      | exact ih0 _ _ _ _
      | exact ih1 _ _ _ _
      | exact ih2 _ _ _ _
      | exact glyph_Next.mono _ _ _
      | exact glyph_Prev.mono _ _ _
      | exact object_class.mono _ _ _
      | exact LeO.none _
      | refine LeO.ite ?_ ?_
      | refine LeO.bind ?_ (fun _ => ?_)
set_option maxHeartbeats 8000000 in
set_option maxRecDepth 100000 in
theorem object_row.calls (k : Nat) (a0 : ByteArray) (a1 : Int) (r1 : Int) (r2 : Int) (w : World) (h : object_row.f k a0 a1 = some (r1, r2)) (hTabs : Tabs w) :
    Calls Tryd.prog 32 #[.string a0, .int .i64 a1] w fun e w' => e = .returned (.tuple #[.int .i64 r1, .int .i64 r2]) ∧ Below w.heap.size w w' := by
  have HTABS := Aside0.mk hTabs
  clear hTabs
  have HB := Aside0.mk (Below.refl w.heap.size w)
  have H : ((object_class.f k a0 a1).bind fun t115 => (object_row.l0 k a0 t115 a1 a1)) = some (r1, r2) := h
  clear h
  replace H := Option.bind_eq_some_iff.mp H
  obtain ⟨t115, A30, H⟩ := H
  replace H : (object_row.l0 k a0 t115 a1 a1) = some (r1, r2) := H
  have A3 := Aside0.mk A30
  clear A30
  have HC4 := Aside0.mk H
  clear H
  go_enter Tryd.func32, Tryd.ntmps32
  go_upto_block 0 with (first | ((with_reducible refine gate_callee (f := 33) rfl ?_); refine goesL_ (some 11) rfl rfl Tryd.func33 (by kernel_rfl) rfl #[.string a0, .int .i64 a1] rfl (by (try simp only [List.map_toArray, List.map_cons, List.map_nil]); first | done | rfl | (simp only [List.length_drop, List.length_take]; rfl)) ?_; (with_reducible refine (object_class.calls k a0 a1 t115 _ A3.out ?sideT).mono ?_); (case sideT => first | exact HTABS.out | exact HTABS.out.below (by repeat (first | (with_reducible first | exact HB.out | apply below_alloc | apply pw_below_drewN | apply below_drew1) | exact HB.out)) (Nat.le_refl _) | exact HTABS.out.below (Below.drew (Below.refl _ _)) (Nat.le_refl _)); rintro e w5 ⟨rfl, hb⟩; refine ⟨_, rfl, ?_⟩; have n0_ := Aside0.mk (below_step (by repeat (first | (with_reducible first | exact HB.out | apply below_alloc | apply pw_below_drewN | apply below_drew1) | exact HB.out)) hb); clear HB; have HB := n0_; clear n0_; (try clear hb); (try clear hb2); (try clear hk); (try clear hi)))
  (try simp only [Act.put, List.setIfInBounds_toArray, List.set_cons_zero, List.set_cons_succ])
  go_cut [7] (fun v7 wc => ∃ (kq : Nat) (x7_3 : Int), v7 = .int .i64 x7_3 ∧ Aside0 (object_row.j1 kq a0 t115 x7_3 a1 = some (r1, r2)) ∧ Aside0 (kq ≤ k) ∧ Aside0 (Below w.heap.size w wc))
  case first =>
    have H := HC4.out
    clear HC4
    have H' := Aside0.mk H
    clear H
    go_wp2
    go_loopg [7] k (fun kq v7 w' => ∃ (x7_1 : Int), v7 = .int .i64 x7_1 ∧ Aside0 (object_row.l0 kq a0 t115 x7_1 a1 = some (r1, r2)) ∧ Aside0 (kq ≤ k) ∧ Aside0 (Below w.heap.size w w'))
    case atStart => exact ⟨(a1), (by first | rfl | (simp; done) | (simp [*]; done)), H', ⟨Nat.le_refl _⟩, ⟨by repeat (first | (with_reducible first | exact HB.out | apply below_alloc | apply pw_below_drewN | apply below_drew1) | exact HB.out)⟩⟩
    case round =>
      clear H'
      (try clear p2); (try clear c3)
      obtain ⟨x7_1, rfl, HA, HK1, HB⟩ := hrel
      cases gk with
      | zero => exact absurd HA.out (by simp [object_row.l0])
      | succ k1 =>
        have H := HA.out
        clear HA
        simp only [object_row.l0] at H
        by_cases c6 : x7_1 > 0
        · rw [if_pos c6] at H
          have c6b0 : decide (0 < x7_1) = true := decide_eq_true c6
          clear c6
          (first | rw [c6b0] | (simp only [i64_w, i32_w]; rw [c6b0]) | skip)
          replace H := Option.bind_eq_some_iff.mp H
          obtain ⟨t116, A70, H⟩ := H
          replace H : ((object_class.f k1 a0 t116).bind fun t117 => (if t117 = t115 then ((glyph_Prev.f k1 a0 x7_1).bind fun t118 => (object_row.l0 k1 a0 t115 t118 a1)) else (object_row.j1 k1 a0 t115 x7_1 a1))) = some (r1, r2) := H
          have A7 := Aside0.mk A70
          clear A70
          replace H := Option.bind_eq_some_iff.mp H
          obtain ⟨t117, A80, H⟩ := H
          replace H : (if t117 = t115 then ((glyph_Prev.f k1 a0 x7_1).bind fun t118 => (object_row.l0 k1 a0 t115 t118 a1)) else (object_row.j1 k1 a0 t115 x7_1 a1)) = some (r1, r2) := H
          have A8 := Aside0.mk A80
          clear A80
          by_cases c9 : t117 = t115
          · rw [if_pos c9] at H
            have c9b0 : (t117 == t115) = true := beq_iff_eq.mpr c9
            have c9b1 : (t117 != t115) = false := bne_eq_false_iff_eq.mpr c9
            clear c9
            replace H := Option.bind_eq_some_iff.mp H
            obtain ⟨t118, A100, H⟩ := H
            replace H : (object_row.l0 k1 a0 t115 t118 a1) = some (r1, r2) := H
            have A10 := Aside0.mk A100
            clear A100
            have H' := Aside0.mk H
            clear H
            go_wp2_with (first | (go_at_call 34; (with_reducible refine (glyph_Prev.calls k1 a0 x7_1 t116 _ A7.out ?sideT).mono ?_); (case sideT => first | exact HTABS.out | exact HTABS.out.below (by repeat (first | (with_reducible first | exact HB.out | apply below_alloc | apply pw_below_drewN | apply below_drew1) | exact HB.out)) (Nat.le_refl _) | exact HTABS.out.below (Below.drew (Below.refl _ _)) (Nat.le_refl _)); rintro e w11 ⟨rfl, hb⟩; have n0_ := Aside0.mk (below_step (by repeat (first | (with_reducible first | exact HB.out | apply below_alloc | apply pw_below_drewN | apply below_drew1) | exact HB.out)) hb); clear HB; have HB := n0_; clear n0_; (try clear hb); (try clear hb2); (try clear hk); (try clear hi)) | (go_at_call 33; (with_reducible refine (object_class.calls k1 a0 t116 t117 _ A8.out ?sideT).mono ?_); (case sideT => first | exact HTABS.out | exact HTABS.out.below (by repeat (first | (with_reducible first | exact HB.out | apply below_alloc | apply pw_below_drewN | apply below_drew1) | exact HB.out)) (Nat.le_refl _) | exact HTABS.out.below (Below.drew (Below.refl _ _)) (Nat.le_refl _)); rintro e w12 ⟨rfl, hb⟩; have n0_ := Aside0.mk (below_step (by repeat (first | (with_reducible first | exact HB.out | apply below_alloc | apply pw_below_drewN | apply below_drew1) | exact HB.out)) hb); clear HB; have HB := n0_; clear n0_; (try clear hb); (try clear hb2); (try clear hk); (try clear hi)) | ((with_reducible refine gate_callee (f := 34) rfl ?_); refine goesL_ (some 27) rfl rfl Tryd.func34 (by kernel_rfl) rfl #[.string a0, .int .i64 x7_1] rfl (by (try simp only [List.map_toArray, List.map_cons, List.map_nil]); first | done | rfl | (simp only [List.length_drop, List.length_take]; rfl)) ?_; (with_reducible refine (glyph_Prev.calls k1 a0 x7_1 t118 _ A10.out ?sideT).mono ?_); (case sideT => first | exact HTABS.out | exact HTABS.out.below (by repeat (first | (with_reducible first | exact HB.out | apply below_alloc | apply pw_below_drewN | apply below_drew1) | exact HB.out)) (Nat.le_refl _) | exact HTABS.out.below (Below.drew (Below.refl _ _)) (Nat.le_refl _)); rintro e w13 ⟨rfl, hb⟩; refine ⟨_, rfl, ?_⟩; have n0_ := Aside0.mk (below_step (by repeat (first | (with_reducible first | exact HB.out | apply below_alloc | apply pw_below_drewN | apply below_drew1) | exact HB.out)) hb); clear HB; have HB := n0_; clear n0_; (try clear hb); (try clear hb2); (try clear hk); (try clear hi)))
            go_roundg k1
            case measure => have := HK1.out; omega
            case rel => exact ⟨(t118), (by first | rfl | (simp; done) | (simp [*]; done)), H', ⟨by have := HK1.out; omega⟩, ⟨by repeat (first | (with_reducible first | exact HB.out | apply below_alloc | apply pw_below_drewN | apply below_drew1) | exact HB.out)⟩⟩
          · rw [if_neg c9] at H
            have c9b0 : (t117 == t115) = false := beq_eq_false_iff_ne.mpr c9
            have c9b1 : (t117 != t115) = true := bne_iff_ne.mpr c9
            have H' := Aside0.mk H
            clear H
            go_wp2_with (first | (go_at_call 34; (with_reducible refine (glyph_Prev.calls k1 a0 x7_1 t116 _ A7.out ?sideT).mono ?_); (case sideT => first | exact HTABS.out | exact HTABS.out.below (by repeat (first | (with_reducible first | exact HB.out | apply below_alloc | apply pw_below_drewN | apply below_drew1) | exact HB.out)) (Nat.le_refl _) | exact HTABS.out.below (Below.drew (Below.refl _ _)) (Nat.le_refl _)); rintro e w14 ⟨rfl, hb⟩; have n0_ := Aside0.mk (below_step (by repeat (first | (with_reducible first | exact HB.out | apply below_alloc | apply pw_below_drewN | apply below_drew1) | exact HB.out)) hb); clear HB; have HB := n0_; clear n0_; (try clear hb); (try clear hb2); (try clear hk); (try clear hi)) | (go_at_call 33; (with_reducible refine (object_class.calls k1 a0 t116 t117 _ A8.out ?sideT).mono ?_); (case sideT => first | exact HTABS.out | exact HTABS.out.below (by repeat (first | (with_reducible first | exact HB.out | apply below_alloc | apply pw_below_drewN | apply below_drew1) | exact HB.out)) (Nat.le_refl _) | exact HTABS.out.below (Below.drew (Below.refl _ _)) (Nat.le_refl _)); rintro e w15 ⟨rfl, hb⟩; have n0_ := Aside0.mk (below_step (by repeat (first | (with_reducible first | exact HB.out | apply below_alloc | apply pw_below_drewN | apply below_drew1) | exact HB.out)) hb); clear HB; have HB := n0_; clear n0_; (try clear hb); (try clear hb2); (try clear hk); (try clear hi)))
            go_meet
            case rel => exact ⟨_, (x7_1), (by first | rfl | (simp; done) | (simp [*]; done)), H', ⟨by have := HK1.out; first | omega | exact Nat.le_refl _⟩, ⟨by repeat (first | (with_reducible first | exact HB.out | apply below_alloc | apply pw_below_drewN | apply below_drew1) | exact HB.out)⟩⟩
        · rw [if_neg c6] at H
          have c6b0 : decide (0 < x7_1) = false := decide_eq_false c6
          clear c6
          (first | rw [c6b0] | (simp only [i64_w, i32_w]; rw [c6b0]) | skip)
          have H' := Aside0.mk H
          clear H
          go_wp2
          go_meet
          case rel => exact ⟨_, (x7_1), (by first | rfl | (simp; done) | (simp [*]; done)), H', ⟨by have := HK1.out; first | omega | exact Nat.le_refl _⟩, ⟨by repeat (first | (with_reducible first | exact HB.out | apply below_alloc | apply pw_below_drewN | apply below_drew1) | exact HB.out)⟩⟩
  case rest =>
    clear HC4
    (try clear p2); (try clear c3); (try clear c6); (try clear c6b0); (try clear c9); (try clear c9b0); (try clear c9b1)
    obtain ⟨kq, x7_3, rfl, HA, HJ3, HB⟩ := hcut
    cases kq with
    | zero => exact absurd HA.out (by simp [object_row.j1])
    | succ kj3 =>
      have H := HA.out
      clear HA
      simp only [object_row.j1] at H
      have H' := Aside0.mk H
      clear H
      go_wp2
      go_loopg [8] kj3 (fun kq v8 w' => ∃ (x8_2 : Int), v8 = .int .i64 x8_2 ∧ Aside0 (object_row.l1 kq a0 t115 x7_3 x8_2 = some (r1, r2)) ∧ Aside0 (kq ≤ kj3) ∧ Aside0 (Below w.heap.size w w'))
      case atStart => exact ⟨(a1), (by first | rfl | (simp; done) | (simp [*]; done)), H', ⟨Nat.le_refl _⟩, ⟨by repeat (first | (with_reducible first | exact HB.out | apply below_alloc | apply pw_below_drewN | apply below_drew1) | exact HB.out)⟩⟩
      case round =>
        clear H'
        (try clear p2); (try clear c3); (try clear c6); (try clear c6b0); (try clear c9); (try clear c9b0); (try clear c9b1)
        obtain ⟨x8_2, rfl, HA, HK2, HB⟩ := hrel
        cases gk with
        | zero => exact absurd HA.out (by simp [object_row.l1])
        | succ k2 =>
          have H := HA.out
          clear HA
          simp only [object_row.l1] at H
          replace H := Option.bind_eq_some_iff.mp H
          obtain ⟨t119, A160, H⟩ := H
          replace H : (if t119 = t115 then ((glyph_Next.f k2 a0 x8_2).bind fun t120 => (object_row.l1 k2 a0 t115 x7_3 t120)) else (some (x7_3, x8_2))) = some (r1, r2) := H
          have A16 := Aside0.mk A160
          clear A160
          by_cases c17 : t119 = t115
          · rw [if_pos c17] at H
            have c17b0 : (t119 == t115) = true := beq_iff_eq.mpr c17
            have c17b1 : (t119 != t115) = false := bne_eq_false_iff_eq.mpr c17
            clear c17
            replace H := Option.bind_eq_some_iff.mp H
            obtain ⟨t120, A180, H⟩ := H
            replace H : (object_row.l1 k2 a0 t115 x7_3 t120) = some (r1, r2) := H
            have A18 := Aside0.mk A180
            clear A180
            have H' := Aside0.mk H
            clear H
            go_wp2_with (first | ((with_reducible refine gate_callee (f := 33) rfl ?_); refine goesL_ (some 30) rfl rfl Tryd.func33 (by kernel_rfl) rfl #[.string a0, .int .i64 x8_2] rfl (by (try simp only [List.map_toArray, List.map_cons, List.map_nil]); first | done | rfl | (simp only [List.length_drop, List.length_take]; rfl)) ?_; (with_reducible refine (object_class.calls k2 a0 x8_2 t119 _ A16.out ?sideT).mono ?_); (case sideT => first | exact HTABS.out | exact HTABS.out.below (by repeat (first | (with_reducible first | exact HB.out | apply below_alloc | apply pw_below_drewN | apply below_drew1) | exact HB.out)) (Nat.le_refl _) | exact HTABS.out.below (Below.drew (Below.refl _ _)) (Nat.le_refl _)); rintro e w19 ⟨rfl, hb⟩; refine ⟨_, rfl, ?_⟩; have n0_ := Aside0.mk (below_step (by repeat (first | (with_reducible first | exact HB.out | apply below_alloc | apply pw_below_drewN | apply below_drew1) | exact HB.out)) hb); clear HB; have HB := n0_; clear n0_; (try clear hb); (try clear hb2); (try clear hk); (try clear hi)) | ((with_reducible refine gate_callee (f := 42) rfl ?_); refine goesL_ (some 35) rfl rfl Tryd.func42 (by kernel_rfl) rfl #[.string a0, .int .i64 x8_2] rfl (by (try simp only [List.map_toArray, List.map_cons, List.map_nil]); first | done | rfl | (simp only [List.length_drop, List.length_take]; rfl)) ?_; (with_reducible refine (glyph_Next.calls k2 a0 x8_2 t120 _ A18.out ?sideT).mono ?_); (case sideT => first | exact HTABS.out | exact HTABS.out.below (by repeat (first | (with_reducible first | exact HB.out | apply below_alloc | apply pw_below_drewN | apply below_drew1) | exact HB.out)) (Nat.le_refl _) | exact HTABS.out.below (Below.drew (Below.refl _ _)) (Nat.le_refl _)); rintro e w20 ⟨rfl, hb⟩; refine ⟨_, rfl, ?_⟩; have n0_ := Aside0.mk (below_step (by repeat (first | (with_reducible first | exact HB.out | apply below_alloc | apply pw_below_drewN | apply below_drew1) | exact HB.out)) hb); clear HB; have HB := n0_; clear n0_; (try clear hb); (try clear hb2); (try clear hk); (try clear hi)))
            go_roundg k2
            case measure => have := HJ3.out; have := HK2.out; omega
            case rel => exact ⟨(t120), (by first | rfl | (simp; done) | (simp [*]; done)), H', ⟨by have := HJ3.out; have := HK2.out; omega⟩, ⟨by repeat (first | (with_reducible first | exact HB.out | apply below_alloc | apply pw_below_drewN | apply below_drew1) | exact HB.out)⟩⟩
          · rw [if_neg c17] at H
            have c17b0 : (t119 == t115) = false := beq_eq_false_iff_ne.mpr c17
            have c17b1 : (t119 != t115) = true := bne_iff_ne.mpr c17
            simp only [Option.some.injEq, Prod.mk.injEq] at H
            obtain ⟨rfl, rfl⟩ := H
            go_wp2_with (first | ((with_reducible refine gate_callee (f := 33) rfl ?_); refine goesL_ (some 30) rfl rfl Tryd.func33 (by kernel_rfl) rfl #[.string a0, .int .i64 x8_2] rfl (by (try simp only [List.map_toArray, List.map_cons, List.map_nil]); first | done | rfl | (simp only [List.length_drop, List.length_take]; rfl)) ?_; (with_reducible refine (object_class.calls k2 a0 x8_2 t119 _ A16.out ?sideT).mono ?_); (case sideT => first | exact HTABS.out | exact HTABS.out.below (by repeat (first | (with_reducible first | exact HB.out | apply below_alloc | apply pw_below_drewN | apply below_drew1) | exact HB.out)) (Nat.le_refl _) | exact HTABS.out.below (Below.drew (Below.refl _ _)) (Nat.le_refl _)); rintro e w21 ⟨rfl, hb⟩; refine ⟨_, rfl, ?_⟩; have n0_ := Aside0.mk (below_step (by repeat (first | (with_reducible first | exact HB.out | apply below_alloc | apply pw_below_drewN | apply below_drew1) | exact HB.out)) hb); clear HB; have HB := n0_; clear n0_; (try clear hb); (try clear hb2); (try clear hk); (try clear hi)))
            go_ret2
            exact ⟨by first | rfl | (simp [errW_none, errW_some] <;> rfl) | (simp [*, errW_none, errW_some] <;> rfl), by repeat (first | (with_reducible first | exact HB.out | apply below_alloc | apply pw_below_drewN | apply below_drew1) | exact HB.out)⟩

/-! ### object_word: function 15 -/
mutual
def object_word.j0 : Nat → ByteArray → Int → Int → Int → Int → Bool → Option (Int × Int)
  | 0, _, _, _, _, _, _ => none
  | k + 1, x0, x1, x8, x9, x10, x24 => if x24 = true then (object_word.j1 k x0 x1 x8 x9 x24) else ((object_class.f k x0 x1).bind fun t125 => (if t125 = 0 then (object_word.j1 k x0 x1 x8 x9 false) else (object_word.j1 k x0 x1 x8 x9 (x10 == 0))))
def object_word.j1 : Nat → ByteArray → Int → Int → Int → Bool → Option (Int × Int)
  | 0, _, _, _, _, _ => none
  | k + 1, x0, x1, x8, x9, x24 => if x24 = true then ((object_row.f k x0 x9).bind fun bt126 => (some (x8, bt126.2))) else ((object_class.f k x0 x1).bind fun t128 => (if t128 = 0 then (object_word.j2 k x0 x8 x9 false) else (if x8 > 0 then ((glyph_Prev.f k x0 x8).bind fun t129 => ((object_class.f k x0 t129).bind fun t130 => (object_word.j2 k x0 x8 x9 (t130 == 0)))) else (object_word.j2 k x0 x8 x9 false))))
def object_word.j2 : Nat → ByteArray → Int → Int → Bool → Option (Int × Int)
  | 0, _, _, _, _ => none
  | k + 1, x0, x8, x9, x51 => if x51 = true then ((glyph_Prev.f k x0 x8).bind fun t131 => ((object_row.f k x0 t131).bind fun bt132 => (some (bt132.1, x9)))) else (some (x8, x9))
end
def object_word.f (k : Nat) (a0 : ByteArray) (a1 : Int) (a2 : Bool) : Option (Int × Int) := (object_row.f k a0 a1).bind fun bt121 => (if a2 = true then ((object_class.f k a0 bt121.2).bind fun t123 => ((object_class.f k a0 a1).bind fun t124 => (if t124 = 0 then (if t123 = 1 then (object_word.j0 k a0 a1 bt121.1 bt121.2 t123 true) else (object_word.j0 k a0 a1 bt121.1 bt121.2 t123 (t123 == 2))) else (object_word.j0 k a0 a1 bt121.1 bt121.2 t123 false)))) else (some (bt121.1, bt121.2)))
theorem object_word.mono_l : ∀ k, (∀ y0 y1 y2 y3 y4 y5, LeO (object_word.j0 k y0 y1 y2 y3 y4 y5) (object_word.j0 (k + 1) y0 y1 y2 y3 y4 y5)) ∧ (∀ y0 y1 y2 y3 y4, LeO (object_word.j1 k y0 y1 y2 y3 y4) (object_word.j1 (k + 1) y0 y1 y2 y3 y4)) ∧ (∀ y0 y1 y2 y3, LeO (object_word.j2 k y0 y1 y2 y3) (object_word.j2 (k + 1) y0 y1 y2 y3))
  | 0 => ⟨fun _ _ _ _ _ _ r h => by simp [object_word.j0] at h, fun _ _ _ _ _ r h => by simp [object_word.j1] at h, fun _ _ _ _ r h => by simp [object_word.j2] at h⟩
  | k + 1 => by
    obtain ⟨ih0, ih1, ih2⟩ := object_word.mono_l k
    refine ⟨?_, ?_, ?_⟩
    · intro y0 y1 y2 y3 y4 y5
      unfold object_word.j0
      repeat' first
      | (with_reducible exact ih0 _ _ _ _ _ _)
      | (with_reducible exact ih1 _ _ _ _ _)
      | (with_reducible exact ih2 _ _ _ _)
      | (with_reducible exact glyph_Prev.mono _ _ _)
      | (with_reducible exact object_class.mono _ _ _)
      | (with_reducible exact object_row.mono _ _ _)
      | (with_reducible exact LeO.refl _)
      | (with_reducible exact LeO.none _)
      | (with_reducible refine LeO.ite ?_ ?_)
      | (with_reducible refine LeO.bind ?_ (fun _ => ?_))
      | exact ih0 _ _ _ _ _ _
      | exact ih1 _ _ _ _ _
      | exact ih2 _ _ _ _
      | exact glyph_Prev.mono _ _ _
      | exact object_class.mono _ _ _
      | exact object_row.mono _ _ _
      | exact LeO.none _
      | refine LeO.ite ?_ ?_
      | refine LeO.bind ?_ (fun _ => ?_)
    · intro y0 y1 y2 y3 y4
      unfold object_word.j1
      repeat' first
      | (with_reducible exact ih0 _ _ _ _ _ _)
      | (with_reducible exact ih1 _ _ _ _ _)
      | (with_reducible exact ih2 _ _ _ _)
      | (with_reducible exact glyph_Prev.mono _ _ _)
      | (with_reducible exact object_class.mono _ _ _)
      | (with_reducible exact object_row.mono _ _ _)
      | (with_reducible exact LeO.refl _)
      | (with_reducible exact LeO.none _)
      | (with_reducible refine LeO.ite ?_ ?_)
      | (with_reducible refine LeO.bind ?_ (fun _ => ?_))
      | exact ih0 _ _ _ _ _ _
      | exact ih1 _ _ _ _ _
      | exact ih2 _ _ _ _
      | exact glyph_Prev.mono _ _ _
      | exact object_class.mono _ _ _
      | exact object_row.mono _ _ _
      | exact LeO.none _
      | refine LeO.ite ?_ ?_
      | refine LeO.bind ?_ (fun _ => ?_)
    · intro y0 y1 y2 y3
      unfold object_word.j2
      repeat' first
      | (with_reducible exact ih0 _ _ _ _ _ _)
      | (with_reducible exact ih1 _ _ _ _ _)
      | (with_reducible exact ih2 _ _ _ _)
      | (with_reducible exact glyph_Prev.mono _ _ _)
      | (with_reducible exact object_class.mono _ _ _)
      | (with_reducible exact object_row.mono _ _ _)
      | (with_reducible exact LeO.refl _)
      | (with_reducible exact LeO.none _)
      | (with_reducible refine LeO.ite ?_ ?_)
      | (with_reducible refine LeO.bind ?_ (fun _ => ?_))
      | exact ih0 _ _ _ _ _ _
      | exact ih1 _ _ _ _ _
      | exact ih2 _ _ _ _
      | exact glyph_Prev.mono _ _ _
      | exact object_class.mono _ _ _
      | exact object_row.mono _ _ _
      | exact LeO.none _
      | refine LeO.ite ?_ ?_
      | refine LeO.bind ?_ (fun _ => ?_)
theorem object_word.mono : ∀ a0 a1 a2 k, LeO (object_word.f k a0 a1 a2) (object_word.f (k + 1) a0 a1 a2) := by
  intro a0 a1 a2 k
  obtain ⟨ih0, ih1, ih2⟩ := object_word.mono_l k
  unfold object_word.f
  repeat' first
      | (with_reducible exact ih0 _ _ _ _ _ _)
      | (with_reducible exact ih1 _ _ _ _ _)
      | (with_reducible exact ih2 _ _ _ _)
      | (with_reducible exact glyph_Prev.mono _ _ _)
      | (with_reducible exact object_class.mono _ _ _)
      | (with_reducible exact object_row.mono _ _ _)
      | (with_reducible exact LeO.refl _)
      | (with_reducible exact LeO.none _)
      | (with_reducible refine LeO.ite ?_ ?_)
      | (with_reducible refine LeO.bind ?_ (fun _ => ?_))
      | exact ih0 _ _ _ _ _ _
      | exact ih1 _ _ _ _ _
      | exact ih2 _ _ _ _
      | exact glyph_Prev.mono _ _ _
      | exact object_class.mono _ _ _
      | exact object_row.mono _ _ _
      | exact LeO.none _
      | refine LeO.ite ?_ ?_
      | refine LeO.bind ?_ (fun _ => ?_)
set_option maxHeartbeats 8000000 in
set_option maxRecDepth 100000 in
theorem object_word.calls (k : Nat) (a0 : ByteArray) (a1 : Int) (a2 : Bool) (r1 : Int) (r2 : Int) (w : World) (h : object_word.f k a0 a1 a2 = some (r1, r2)) (hTabs : Tabs w) :
    Calls Tryd.prog 15 #[.string a0, .int .i64 a1, .bool a2] w fun e w' => e = .returned (.tuple #[.int .i64 r1, .int .i64 r2]) ∧ Below w.heap.size w w' := by
  have HTABS := Aside0.mk hTabs
  clear hTabs
  have HB := Aside0.mk (Below.refl w.heap.size w)
  have H : ((object_row.f k a0 a1).bind fun bt121 => (if a2 = true then ((object_class.f k a0 bt121.2).bind fun t123 => ((object_class.f k a0 a1).bind fun t124 => (if t124 = 0 then (if t123 = 1 then (object_word.j0 k a0 a1 bt121.1 bt121.2 t123 true) else (object_word.j0 k a0 a1 bt121.1 bt121.2 t123 (t123 == 2))) else (object_word.j0 k a0 a1 bt121.1 bt121.2 t123 false)))) else (some (bt121.1, bt121.2)))) = some (r1, r2) := h
  clear h
  replace H := Option.bind_eq_some_iff.mp H
  obtain ⟨⟨t121, t122⟩, A40, H⟩ := H
  replace H : (if a2 = true then ((object_class.f k a0 t122).bind fun t123 => ((object_class.f k a0 a1).bind fun t124 => (if t124 = 0 then (if t123 = 1 then (object_word.j0 k a0 a1 t121 t122 t123 true) else (object_word.j0 k a0 a1 t121 t122 t123 (t123 == 2))) else (object_word.j0 k a0 a1 t121 t122 t123 false)))) else (some (t121, t122))) = some (r1, r2) := H
  have A4 := Aside0.mk A40
  clear A40
  by_cases c5 : a2 = true
  · subst c5
    have H1 : ((object_class.f k a0 t122).bind fun t123 => ((object_class.f k a0 a1).bind fun t124 => (if t124 = 0 then (if t123 = 1 then (object_word.j0 k a0 a1 t121 t122 t123 true) else (object_word.j0 k a0 a1 t121 t122 t123 (t123 == 2))) else (object_word.j0 k a0 a1 t121 t122 t123 false)))) = some (r1, r2) := by rw [if_pos rfl] at H; exact H
    clear H
    have H := H1
    clear H1
    replace H := Option.bind_eq_some_iff.mp H
    obtain ⟨t123, A60, H⟩ := H
    replace H : ((object_class.f k a0 a1).bind fun t124 => (if t124 = 0 then (if t123 = 1 then (object_word.j0 k a0 a1 t121 t122 t123 true) else (object_word.j0 k a0 a1 t121 t122 t123 (t123 == 2))) else (object_word.j0 k a0 a1 t121 t122 t123 false))) = some (r1, r2) := H
    have A6 := Aside0.mk A60
    clear A60
    have HC7 := Aside0.mk H
    clear H
    go_enter Tryd.func15, Tryd.ntmps15
    go_upto_region 5 with (first | ((with_reducible refine gate_callee (f := 32) rfl ?_); refine goesL_ (some 14) rfl rfl Tryd.func32 (by kernel_rfl) rfl #[.string a0, .int .i64 a1] rfl (by (try simp only [List.map_toArray, List.map_cons, List.map_nil]); first | done | rfl | (simp only [List.length_drop, List.length_take]; rfl)) ?_; (with_reducible refine (object_row.calls k a0 a1 t121 t122 _ A4.out ?sideT).mono ?_); (case sideT => first | exact HTABS.out | exact HTABS.out.below (by repeat (first | (with_reducible first | exact HB.out | apply below_alloc | apply pw_below_drewN | apply below_drew1) | exact HB.out)) (Nat.le_refl _) | exact HTABS.out.below (Below.drew (Below.refl _ _)) (Nat.le_refl _)); rintro e w8 ⟨rfl, hb⟩; refine ⟨_, rfl, ?_⟩; have n0_ := Aside0.mk (below_step (by repeat (first | (with_reducible first | exact HB.out | apply below_alloc | apply pw_below_drewN | apply below_drew1) | exact HB.out)) hb); clear HB; have HB := n0_; clear n0_; (try clear hb); (try clear hb2); (try clear hk); (try clear hi)) | ((with_reducible refine gate_callee (f := 33) rfl ?_); refine goesL_ (some 23) rfl rfl Tryd.func33 (by kernel_rfl) rfl #[.string a0, .int .i64 t122] rfl (by (try simp only [List.map_toArray, List.map_cons, List.map_nil]); first | done | rfl | (simp only [List.length_drop, List.length_take]; rfl)) ?_; (with_reducible refine (object_class.calls k a0 t122 t123 _ A6.out ?sideT).mono ?_); (case sideT => first | exact HTABS.out | exact HTABS.out.below (by repeat (first | (with_reducible first | exact HB.out | apply below_alloc | apply pw_below_drewN | apply below_drew1) | exact HB.out)) (Nat.le_refl _) | exact HTABS.out.below (Below.drew (Below.refl _ _)) (Nat.le_refl _)); rintro e w9 ⟨rfl, hb⟩; refine ⟨_, rfl, ?_⟩; have n0_ := Aside0.mk (below_step (by repeat (first | (with_reducible first | exact HB.out | apply below_alloc | apply pw_below_drewN | apply below_drew1) | exact HB.out)) hb); clear HB; have HB := n0_; clear n0_; (try clear hb); (try clear hb2); (try clear hk); (try clear hi)))
    (try simp only [Act.put, List.setIfInBounds_toArray, List.set_cons_zero, List.set_cons_succ])
    go_cut [24] (fun v24 wc => ∃ (kq : Nat) (x24_6 : Bool), v24 = .bool x24_6 ∧ Aside0 (object_word.j0 kq a0 a1 t121 t122 t123 x24_6 = some (r1, r2)) ∧ Aside0 (kq ≤ k) ∧ Aside0 (Below w.heap.size w wc))
    case first =>
      have H := HC7.out
      clear HC7
      replace H := Option.bind_eq_some_iff.mp H
      obtain ⟨t124, A100, H⟩ := H
      replace H : (if t124 = 0 then (if t123 = 1 then (object_word.j0 k a0 a1 t121 t122 t123 true) else (object_word.j0 k a0 a1 t121 t122 t123 (t123 == 2))) else (object_word.j0 k a0 a1 t121 t122 t123 false)) = some (r1, r2) := H
      have A10 := Aside0.mk A100
      clear A100
      by_cases c11 : t124 = 0
      · rw [if_pos c11] at H
        have c11b0 : (t124 == 0) = true := beq_iff_eq.mpr c11
        have c11b1 : (t124 != 0) = false := bne_eq_false_iff_eq.mpr c11
        clear c11
        (first | rw [c11b0] | (simp only [i64_w, i32_w]; rw [c11b0]) | skip)
        by_cases c12 : t123 = 1
        · rw [if_pos c12] at H
          have c12b0 : (t123 == 1) = true := beq_iff_eq.mpr c12
          have c12b1 : (t123 != 1) = false := bne_eq_false_iff_eq.mpr c12
          clear c12
          have H' := Aside0.mk H
          clear H
          go_wp2_with (first | ((with_reducible refine gate_callee (f := 33) rfl ?_); refine goesL_ (some 27) rfl rfl Tryd.func33 (by kernel_rfl) rfl #[.string a0, .int .i64 a1] rfl (by (try simp only [List.map_toArray, List.map_cons, List.map_nil]); first | done | rfl | (simp only [List.length_drop, List.length_take]; rfl)) ?_; (with_reducible refine (object_class.calls k a0 a1 t124 _ A10.out ?sideT).mono ?_); (case sideT => first | exact HTABS.out | exact HTABS.out.below (by repeat (first | (with_reducible first | exact HB.out | apply below_alloc | apply pw_below_drewN | apply below_drew1) | exact HB.out)) (Nat.le_refl _) | exact HTABS.out.below (Below.drew (Below.refl _ _)) (Nat.le_refl _)); rintro e w13 ⟨rfl, hb⟩; refine ⟨_, rfl, ?_⟩; have n0_ := Aside0.mk (below_step (by repeat (first | (with_reducible first | exact HB.out | apply below_alloc | apply pw_below_drewN | apply below_drew1) | exact HB.out)) hb); clear HB; have HB := n0_; clear n0_; (try clear hb); (try clear hb2); (try clear hk); (try clear hi)))
          go_meet
          case rel => exact ⟨_, (true), (by first | rfl | (simp; done) | (simp [*]; done)), H', ⟨by first | omega | exact Nat.le_refl _⟩, ⟨by repeat (first | (with_reducible first | exact HB.out | apply below_alloc | apply pw_below_drewN | apply below_drew1) | exact HB.out)⟩⟩
        · rw [if_neg c12] at H
          have c12b0 : (t123 == 1) = false := beq_eq_false_iff_ne.mpr c12
          have c12b1 : (t123 != 1) = true := bne_iff_ne.mpr c12
          have H' := Aside0.mk H
          clear H
          go_wp2_with (first | ((with_reducible refine gate_callee (f := 33) rfl ?_); refine goesL_ (some 27) rfl rfl Tryd.func33 (by kernel_rfl) rfl #[.string a0, .int .i64 a1] rfl (by (try simp only [List.map_toArray, List.map_cons, List.map_nil]); first | done | rfl | (simp only [List.length_drop, List.length_take]; rfl)) ?_; (with_reducible refine (object_class.calls k a0 a1 t124 _ A10.out ?sideT).mono ?_); (case sideT => first | exact HTABS.out | exact HTABS.out.below (by repeat (first | (with_reducible first | exact HB.out | apply below_alloc | apply pw_below_drewN | apply below_drew1) | exact HB.out)) (Nat.le_refl _) | exact HTABS.out.below (Below.drew (Below.refl _ _)) (Nat.le_refl _)); rintro e w14 ⟨rfl, hb⟩; refine ⟨_, rfl, ?_⟩; have n0_ := Aside0.mk (below_step (by repeat (first | (with_reducible first | exact HB.out | apply below_alloc | apply pw_below_drewN | apply below_drew1) | exact HB.out)) hb); clear HB; have HB := n0_; clear n0_; (try clear hb); (try clear hb2); (try clear hk); (try clear hi)))
          go_meet
          case rel => exact ⟨_, ((t123 == 2)), (by first | rfl | (simp; done) | (simp [*]; done)), H', ⟨by first | omega | exact Nat.le_refl _⟩, ⟨by repeat (first | (with_reducible first | exact HB.out | apply below_alloc | apply pw_below_drewN | apply below_drew1) | exact HB.out)⟩⟩
      · rw [if_neg c11] at H
        have c11b0 : (t124 == 0) = false := beq_eq_false_iff_ne.mpr c11
        have c11b1 : (t124 != 0) = true := bne_iff_ne.mpr c11
        (first | rw [c11b0] | (simp only [i64_w, i32_w]; rw [c11b0]) | skip)
        have H' := Aside0.mk H
        clear H
        go_wp2_with (first | ((with_reducible refine gate_callee (f := 33) rfl ?_); refine goesL_ (some 27) rfl rfl Tryd.func33 (by kernel_rfl) rfl #[.string a0, .int .i64 a1] rfl (by (try simp only [List.map_toArray, List.map_cons, List.map_nil]); first | done | rfl | (simp only [List.length_drop, List.length_take]; rfl)) ?_; (with_reducible refine (object_class.calls k a0 a1 t124 _ A10.out ?sideT).mono ?_); (case sideT => first | exact HTABS.out | exact HTABS.out.below (by repeat (first | (with_reducible first | exact HB.out | apply below_alloc | apply pw_below_drewN | apply below_drew1) | exact HB.out)) (Nat.le_refl _) | exact HTABS.out.below (Below.drew (Below.refl _ _)) (Nat.le_refl _)); rintro e w15 ⟨rfl, hb⟩; refine ⟨_, rfl, ?_⟩; have n0_ := Aside0.mk (below_step (by repeat (first | (with_reducible first | exact HB.out | apply below_alloc | apply pw_below_drewN | apply below_drew1) | exact HB.out)) hb); clear HB; have HB := n0_; clear n0_; (try clear hb); (try clear hb2); (try clear hk); (try clear hi)))
        go_meet
        case rel => exact ⟨_, (false), (by first | rfl | (simp; done) | (simp [*]; done)), H', ⟨by first | omega | exact Nat.le_refl _⟩, ⟨by repeat (first | (with_reducible first | exact HB.out | apply below_alloc | apply pw_below_drewN | apply below_drew1) | exact HB.out)⟩⟩
    case rest =>
      clear HC7
      (try clear c1); (try clear p2); (try clear c3); (try clear c5); (try clear c11); (try clear c11b0); (try clear c11b1); (try clear c12); (try clear c12b0); (try clear c12b1); (try clear c15)
      obtain ⟨kq, x24_6, rfl, HA, HJ6, HB⟩ := hcut
      cases kq with
      | zero => exact absurd HA.out (by simp [object_word.j0])
      | succ kj6 =>
        have H := HA.out
        clear HA
        simp only [object_word.j0] at H
        have HC16 := Aside0.mk H
        clear H
        go_upto_if 24 with (fail)
        go_cut [24] (fun v24 wc => ∃ (kq : Nat) (x24_15 : Bool), v24 = .bool x24_15 ∧ Aside0 (object_word.j1 kq a0 a1 t121 t122 x24_15 = some (r1, r2)) ∧ Aside0 (kq ≤ kj6) ∧ Aside0 (Below w.heap.size w wc))
        case first =>
          have H := HC16.out
          clear HC16
          by_cases c17 : x24_6 = true
          · subst c17
            have H1 : (object_word.j1 kj6 a0 a1 t121 t122 true) = some (r1, r2) := by rw [if_pos rfl] at H; exact H
            clear H
            have H := H1
            clear H1
            have H' := Aside0.mk H
            clear H
            go_wp2
            go_meet
            case rel => exact ⟨_, (true), (by first | rfl | (simp; done) | (simp [*]; done)), H', ⟨by have := HJ6.out; first | omega | exact Nat.le_refl _⟩, ⟨by repeat (first | (with_reducible first | exact HB.out | apply below_alloc | apply pw_below_drewN | apply below_drew1) | exact HB.out)⟩⟩
          · replace c17 := Bool.eq_false_iff.mpr c17
            subst c17
            have H1 : ((object_class.f kj6 a0 a1).bind fun t125 => (if t125 = 0 then (object_word.j1 kj6 a0 a1 t121 t122 false) else (object_word.j1 kj6 a0 a1 t121 t122 (t123 == 0)))) = some (r1, r2) := by rw [if_neg (show ¬ (false = true) by decide)] at H; exact H
            clear H
            have H := H1
            clear H1
            replace H := Option.bind_eq_some_iff.mp H
            obtain ⟨t125, A180, H⟩ := H
            replace H : (if t125 = 0 then (object_word.j1 kj6 a0 a1 t121 t122 false) else (object_word.j1 kj6 a0 a1 t121 t122 (t123 == 0))) = some (r1, r2) := H
            have A18 := Aside0.mk A180
            clear A180
            by_cases c19 : t125 = 0
            · rw [if_pos c19] at H
              have c19b0 : (t125 == 0) = true := beq_iff_eq.mpr c19
              have c19b1 : (t125 != 0) = false := bne_eq_false_iff_eq.mpr c19
              clear c19
              (first | rw [c19b0] | (simp only [i64_w, i32_w]; rw [c19b0]) | skip)
              have H' := Aside0.mk H
              clear H
              go_wp2_with (first | ((with_reducible refine gate_callee (f := 33) rfl ?_); refine goesL_ (some 39) rfl rfl Tryd.func33 (by kernel_rfl) rfl #[.string a0, .int .i64 a1] rfl (by (try simp only [List.map_toArray, List.map_cons, List.map_nil]); first | done | rfl | (simp only [List.length_drop, List.length_take]; rfl)) ?_; (with_reducible refine (object_class.calls kj6 a0 a1 t125 _ A18.out ?sideT).mono ?_); (case sideT => first | exact HTABS.out | exact HTABS.out.below (by repeat (first | (with_reducible first | exact HB.out | apply below_alloc | apply pw_below_drewN | apply below_drew1) | exact HB.out)) (Nat.le_refl _) | exact HTABS.out.below (Below.drew (Below.refl _ _)) (Nat.le_refl _)); rintro e w20 ⟨rfl, hb⟩; refine ⟨_, rfl, ?_⟩; have n0_ := Aside0.mk (below_step (by repeat (first | (with_reducible first | exact HB.out | apply below_alloc | apply pw_below_drewN | apply below_drew1) | exact HB.out)) hb); clear HB; have HB := n0_; clear n0_; (try clear hb); (try clear hb2); (try clear hk); (try clear hi)))
              go_meet
              case rel => exact ⟨_, (false), (by first | rfl | (simp; done) | (simp [*]; done)), H', ⟨by have := HJ6.out; first | omega | exact Nat.le_refl _⟩, ⟨by repeat (first | (with_reducible first | exact HB.out | apply below_alloc | apply pw_below_drewN | apply below_drew1) | exact HB.out)⟩⟩
            · rw [if_neg c19] at H
              have c19b0 : (t125 == 0) = false := beq_eq_false_iff_ne.mpr c19
              have c19b1 : (t125 != 0) = true := bne_iff_ne.mpr c19
              (first | rw [c19b0] | (simp only [i64_w, i32_w]; rw [c19b0]) | skip)
              have H' := Aside0.mk H
              clear H
              go_wp2_with (first | ((with_reducible refine gate_callee (f := 33) rfl ?_); refine goesL_ (some 39) rfl rfl Tryd.func33 (by kernel_rfl) rfl #[.string a0, .int .i64 a1] rfl (by (try simp only [List.map_toArray, List.map_cons, List.map_nil]); first | done | rfl | (simp only [List.length_drop, List.length_take]; rfl)) ?_; (with_reducible refine (object_class.calls kj6 a0 a1 t125 _ A18.out ?sideT).mono ?_); (case sideT => first | exact HTABS.out | exact HTABS.out.below (by repeat (first | (with_reducible first | exact HB.out | apply below_alloc | apply pw_below_drewN | apply below_drew1) | exact HB.out)) (Nat.le_refl _) | exact HTABS.out.below (Below.drew (Below.refl _ _)) (Nat.le_refl _)); rintro e w21 ⟨rfl, hb⟩; refine ⟨_, rfl, ?_⟩; have n0_ := Aside0.mk (below_step (by repeat (first | (with_reducible first | exact HB.out | apply below_alloc | apply pw_below_drewN | apply below_drew1) | exact HB.out)) hb); clear HB; have HB := n0_; clear n0_; (try clear hb); (try clear hb2); (try clear hk); (try clear hi)))
              go_meet
              case rel => exact ⟨_, ((t123 == 0)), (by first | rfl | (simp; done) | (simp [*]; done)), H', ⟨by have := HJ6.out; first | omega | exact Nat.le_refl _⟩, ⟨by repeat (first | (with_reducible first | exact HB.out | apply below_alloc | apply pw_below_drewN | apply below_drew1) | exact HB.out)⟩⟩
        case rest =>
          clear HC16
          (try clear c1); (try clear p2); (try clear c3); (try clear c5); (try clear c11); (try clear c11b0); (try clear c11b1); (try clear c12); (try clear c12b0); (try clear c12b1); (try clear c15); (try clear c17); (try clear c19); (try clear c19b0); (try clear c19b1)
          obtain ⟨kq, x24_15, rfl, HA, HJ15, HB⟩ := hcut
          cases kq with
          | zero => exact absurd HA.out (by simp [object_word.j1])
          | succ kj15 =>
            have H := HA.out
            clear HA
            simp only [object_word.j1] at H
            by_cases c22 : x24_15 = true
            · subst c22
              have H1 : ((object_row.f kj15 a0 t122).bind fun bt126 => (some (t121, bt126.2))) = some (r1, r2) := by rw [if_pos rfl] at H; exact H
              clear H
              have H := H1
              clear H1
              replace H := Option.bind_eq_some_iff.mp H
              obtain ⟨⟨t126, t127⟩, A230, H⟩ := H
              replace H : (some (t121, t127)) = some (r1, r2) := H
              have A23 := Aside0.mk A230
              clear A230
              simp only [Option.some.injEq, Prod.mk.injEq] at H
              obtain ⟨rfl, rfl⟩ := H
              go_wp2_with (first | ((with_reducible refine gate_callee (f := 32) rfl ?_); refine goesL_ (some 48) rfl rfl Tryd.func32 (by kernel_rfl) rfl #[.string a0, .int .i64 t122] rfl (by (try simp only [List.map_toArray, List.map_cons, List.map_nil]); first | done | rfl | (simp only [List.length_drop, List.length_take]; rfl)) ?_; (with_reducible refine (object_row.calls kj15 a0 t122 t126 t127 _ A23.out ?sideT).mono ?_); (case sideT => first | exact HTABS.out | exact HTABS.out.below (by repeat (first | (with_reducible first | exact HB.out | apply below_alloc | apply pw_below_drewN | apply below_drew1) | exact HB.out)) (Nat.le_refl _) | exact HTABS.out.below (Below.drew (Below.refl _ _)) (Nat.le_refl _)); rintro e w24 ⟨rfl, hb⟩; refine ⟨_, rfl, ?_⟩; have n0_ := Aside0.mk (below_step (by repeat (first | (with_reducible first | exact HB.out | apply below_alloc | apply pw_below_drewN | apply below_drew1) | exact HB.out)) hb); clear HB; have HB := n0_; clear n0_; (try clear hb); (try clear hb2); (try clear hk); (try clear hi)))
              go_ret2
              exact ⟨by first | rfl | (simp [errW_none, errW_some] <;> rfl) | (simp [*, errW_none, errW_some] <;> rfl), by repeat (first | (with_reducible first | exact HB.out | apply below_alloc | apply pw_below_drewN | apply below_drew1) | exact HB.out)⟩
            · replace c22 := Bool.eq_false_iff.mpr c22
              subst c22
              have H1 : ((object_class.f kj15 a0 a1).bind fun t128 => (if t128 = 0 then (object_word.j2 kj15 a0 t121 t122 false) else (if t121 > 0 then ((glyph_Prev.f kj15 a0 t121).bind fun t129 => ((object_class.f kj15 a0 t129).bind fun t130 => (object_word.j2 kj15 a0 t121 t122 (t130 == 0)))) else (object_word.j2 kj15 a0 t121 t122 false)))) = some (r1, r2) := by rw [if_neg (show ¬ (false = true) by decide)] at H; exact H
              clear H
              have H := H1
              clear H1
              have HC25 := Aside0.mk H
              clear H
              go_upto_region 8 with (fail)
              go_cut [51] (fun v51 wc => ∃ (kq : Nat) (x51_24 : Bool), v51 = .bool x51_24 ∧ Aside0 (object_word.j2 kq a0 t121 t122 x51_24 = some (r1, r2)) ∧ Aside0 (kq ≤ kj15) ∧ Aside0 (Below w.heap.size w wc))
              case first =>
                have H := HC25.out
                clear HC25
                replace H := Option.bind_eq_some_iff.mp H
                obtain ⟨t128, A260, H⟩ := H
                replace H : (if t128 = 0 then (object_word.j2 kj15 a0 t121 t122 false) else (if t121 > 0 then ((glyph_Prev.f kj15 a0 t121).bind fun t129 => ((object_class.f kj15 a0 t129).bind fun t130 => (object_word.j2 kj15 a0 t121 t122 (t130 == 0)))) else (object_word.j2 kj15 a0 t121 t122 false))) = some (r1, r2) := H
                have A26 := Aside0.mk A260
                clear A260
                by_cases c27 : t128 = 0
                · rw [if_pos c27] at H
                  have c27b0 : (t128 == 0) = true := beq_iff_eq.mpr c27
                  have c27b1 : (t128 != 0) = false := bne_eq_false_iff_eq.mpr c27
                  clear c27
                  (first | rw [c27b0] | (simp only [i64_w, i32_w]; rw [c27b0]) | skip)
                  have H' := Aside0.mk H
                  clear H
                  go_wp2_with (first | ((with_reducible refine gate_callee (f := 33) rfl ?_); refine goesL_ (some 54) rfl rfl Tryd.func33 (by kernel_rfl) rfl #[.string a0, .int .i64 a1] rfl (by (try simp only [List.map_toArray, List.map_cons, List.map_nil]); first | done | rfl | (simp only [List.length_drop, List.length_take]; rfl)) ?_; (with_reducible refine (object_class.calls kj15 a0 a1 t128 _ A26.out ?sideT).mono ?_); (case sideT => first | exact HTABS.out | exact HTABS.out.below (by repeat (first | (with_reducible first | exact HB.out | apply below_alloc | apply pw_below_drewN | apply below_drew1) | exact HB.out)) (Nat.le_refl _) | exact HTABS.out.below (Below.drew (Below.refl _ _)) (Nat.le_refl _)); rintro e w28 ⟨rfl, hb⟩; refine ⟨_, rfl, ?_⟩; have n0_ := Aside0.mk (below_step (by repeat (first | (with_reducible first | exact HB.out | apply below_alloc | apply pw_below_drewN | apply below_drew1) | exact HB.out)) hb); clear HB; have HB := n0_; clear n0_; (try clear hb); (try clear hb2); (try clear hk); (try clear hi)))
                  go_meet
                  case rel => exact ⟨_, (false), (by first | rfl | (simp; done) | (simp [*]; done)), H', ⟨by have := HJ6.out; have := HJ15.out; first | omega | exact Nat.le_refl _⟩, ⟨by repeat (first | (with_reducible first | exact HB.out | apply below_alloc | apply pw_below_drewN | apply below_drew1) | exact HB.out)⟩⟩
                · rw [if_neg c27] at H
                  have c27b0 : (t128 == 0) = false := beq_eq_false_iff_ne.mpr c27
                  have c27b1 : (t128 != 0) = true := bne_iff_ne.mpr c27
                  (first | rw [c27b0] | (simp only [i64_w, i32_w]; rw [c27b0]) | skip)
                  by_cases c29 : t121 > 0
                  · rw [if_pos c29] at H
                    have c29b0 : decide (0 < t121) = true := decide_eq_true c29
                    clear c29
                    replace H := Option.bind_eq_some_iff.mp H
                    obtain ⟨t129, A300, H⟩ := H
                    replace H : ((object_class.f kj15 a0 t129).bind fun t130 => (object_word.j2 kj15 a0 t121 t122 (t130 == 0))) = some (r1, r2) := H
                    have A30 := Aside0.mk A300
                    clear A300
                    replace H := Option.bind_eq_some_iff.mp H
                    obtain ⟨t130, A310, H⟩ := H
                    replace H : (object_word.j2 kj15 a0 t121 t122 (t130 == 0)) = some (r1, r2) := H
                    have A31 := Aside0.mk A310
                    clear A310
                    have H' := Aside0.mk H
                    clear H
                    go_wp2_with (first | ((with_reducible refine gate_callee (f := 33) rfl ?_); refine goesL_ (some 54) rfl rfl Tryd.func33 (by kernel_rfl) rfl #[.string a0, .int .i64 a1] rfl (by (try simp only [List.map_toArray, List.map_cons, List.map_nil]); first | done | rfl | (simp only [List.length_drop, List.length_take]; rfl)) ?_; (with_reducible refine (object_class.calls kj15 a0 a1 t128 _ A26.out ?sideT).mono ?_); (case sideT => first | exact HTABS.out | exact HTABS.out.below (by repeat (first | (with_reducible first | exact HB.out | apply below_alloc | apply pw_below_drewN | apply below_drew1) | exact HB.out)) (Nat.le_refl _) | exact HTABS.out.below (Below.drew (Below.refl _ _)) (Nat.le_refl _)); rintro e w32 ⟨rfl, hb⟩; refine ⟨_, rfl, ?_⟩; have n0_ := Aside0.mk (below_step (by repeat (first | (with_reducible first | exact HB.out | apply below_alloc | apply pw_below_drewN | apply below_drew1) | exact HB.out)) hb); clear HB; have HB := n0_; clear n0_; (try clear hb); (try clear hb2); (try clear hk); (try clear hi)) | (go_at_call 34; (with_reducible refine (glyph_Prev.calls kj15 a0 t121 t129 _ A30.out ?sideT).mono ?_); (case sideT => first | exact HTABS.out | exact HTABS.out.below (by repeat (first | (with_reducible first | exact HB.out | apply below_alloc | apply pw_below_drewN | apply below_drew1) | exact HB.out)) (Nat.le_refl _) | exact HTABS.out.below (Below.drew (Below.refl _ _)) (Nat.le_refl _)); rintro e w33 ⟨rfl, hb⟩; have n0_ := Aside0.mk (below_step (by repeat (first | (with_reducible first | exact HB.out | apply below_alloc | apply pw_below_drewN | apply below_drew1) | exact HB.out)) hb); clear HB; have HB := n0_; clear n0_; (try clear hb); (try clear hb2); (try clear hk); (try clear hi)) | (go_at_call 33; (with_reducible refine (object_class.calls kj15 a0 t129 t130 _ A31.out ?sideT).mono ?_); (case sideT => first | exact HTABS.out | exact HTABS.out.below (by repeat (first | (with_reducible first | exact HB.out | apply below_alloc | apply pw_below_drewN | apply below_drew1) | exact HB.out)) (Nat.le_refl _) | exact HTABS.out.below (Below.drew (Below.refl _ _)) (Nat.le_refl _)); rintro e w34 ⟨rfl, hb⟩; have n0_ := Aside0.mk (below_step (by repeat (first | (with_reducible first | exact HB.out | apply below_alloc | apply pw_below_drewN | apply below_drew1) | exact HB.out)) hb); clear HB; have HB := n0_; clear n0_; (try clear hb); (try clear hb2); (try clear hk); (try clear hi)))
                    go_meet
                    case rel => exact ⟨_, ((t130 == 0)), (by first | rfl | (simp; done) | (simp [*]; done)), H', ⟨by have := HJ6.out; have := HJ15.out; first | omega | exact Nat.le_refl _⟩, ⟨by repeat (first | (with_reducible first | exact HB.out | apply below_alloc | apply pw_below_drewN | apply below_drew1) | exact HB.out)⟩⟩
                  · rw [if_neg c29] at H
                    have c29b0 : decide (0 < t121) = false := decide_eq_false c29
                    clear c29
                    have H' := Aside0.mk H
                    clear H
                    go_wp2_with (first | ((with_reducible refine gate_callee (f := 33) rfl ?_); refine goesL_ (some 54) rfl rfl Tryd.func33 (by kernel_rfl) rfl #[.string a0, .int .i64 a1] rfl (by (try simp only [List.map_toArray, List.map_cons, List.map_nil]); first | done | rfl | (simp only [List.length_drop, List.length_take]; rfl)) ?_; (with_reducible refine (object_class.calls kj15 a0 a1 t128 _ A26.out ?sideT).mono ?_); (case sideT => first | exact HTABS.out | exact HTABS.out.below (by repeat (first | (with_reducible first | exact HB.out | apply below_alloc | apply pw_below_drewN | apply below_drew1) | exact HB.out)) (Nat.le_refl _) | exact HTABS.out.below (Below.drew (Below.refl _ _)) (Nat.le_refl _)); rintro e w35 ⟨rfl, hb⟩; refine ⟨_, rfl, ?_⟩; have n0_ := Aside0.mk (below_step (by repeat (first | (with_reducible first | exact HB.out | apply below_alloc | apply pw_below_drewN | apply below_drew1) | exact HB.out)) hb); clear HB; have HB := n0_; clear n0_; (try clear hb); (try clear hb2); (try clear hk); (try clear hi)))
                    go_meet
                    case rel => exact ⟨_, (false), (by first | rfl | (simp; done) | (simp [*]; done)), H', ⟨by have := HJ6.out; have := HJ15.out; first | omega | exact Nat.le_refl _⟩, ⟨by repeat (first | (with_reducible first | exact HB.out | apply below_alloc | apply pw_below_drewN | apply below_drew1) | exact HB.out)⟩⟩
              case rest =>
                clear HC25
                (try clear c1); (try clear c2); (try clear p2); (try clear c3); (try clear c5); (try clear c11); (try clear c11b0); (try clear c11b1); (try clear c12); (try clear c12b0); (try clear c12b1); (try clear c15); (try clear c17); (try clear c19); (try clear c19b0); (try clear c19b1); (try clear c22); (try clear c27); (try clear c27b0); (try clear c27b1); (try clear c29); (try clear c29b0); (try clear c32); (try clear c33)
                obtain ⟨kq, x51_24, rfl, HA, HJ24, HB⟩ := hcut
                cases kq with
                | zero => exact absurd HA.out (by simp [object_word.j2])
                | succ kj24 =>
                  have H := HA.out
                  clear HA
                  simp only [object_word.j2] at H
                  by_cases c36 : x51_24 = true
                  · subst c36
                    have H1 : ((glyph_Prev.f kj24 a0 t121).bind fun t131 => ((object_row.f kj24 a0 t131).bind fun bt132 => (some (bt132.1, t122)))) = some (r1, r2) := by rw [if_pos rfl] at H; exact H
                    clear H
                    have H := H1
                    clear H1
                    replace H := Option.bind_eq_some_iff.mp H
                    obtain ⟨t131, A370, H⟩ := H
                    replace H : ((object_row.f kj24 a0 t131).bind fun bt132 => (some (bt132.1, t122))) = some (r1, r2) := H
                    have A37 := Aside0.mk A370
                    clear A370
                    replace H := Option.bind_eq_some_iff.mp H
                    obtain ⟨⟨t132, t133⟩, A380, H⟩ := H
                    replace H : (some (t132, t122)) = some (r1, r2) := H
                    have A38 := Aside0.mk A380
                    clear A380
                    simp only [Option.some.injEq, Prod.mk.injEq] at H
                    obtain ⟨rfl, rfl⟩ := H
                    go_wp2_with (first | ((with_reducible refine gate_callee (f := 34) rfl ?_); refine goesL_ (some 72) rfl rfl Tryd.func34 (by kernel_rfl) rfl #[.string a0, .int .i64 t121] rfl (by (try simp only [List.map_toArray, List.map_cons, List.map_nil]); first | done | rfl | (simp only [List.length_drop, List.length_take]; rfl)) ?_; (with_reducible refine (glyph_Prev.calls kj24 a0 t121 t131 _ A37.out ?sideT).mono ?_); (case sideT => first | exact HTABS.out | exact HTABS.out.below (by repeat (first | (with_reducible first | exact HB.out | apply below_alloc | apply pw_below_drewN | apply below_drew1) | exact HB.out)) (Nat.le_refl _) | exact HTABS.out.below (Below.drew (Below.refl _ _)) (Nat.le_refl _)); rintro e w39 ⟨rfl, hb⟩; refine ⟨_, rfl, ?_⟩; have n0_ := Aside0.mk (below_step (by repeat (first | (with_reducible first | exact HB.out | apply below_alloc | apply pw_below_drewN | apply below_drew1) | exact HB.out)) hb); clear HB; have HB := n0_; clear n0_; (try clear hb); (try clear hb2); (try clear hk); (try clear hi)) | ((with_reducible refine gate_callee (f := 32) rfl ?_); refine goesL_ (some 73) rfl rfl Tryd.func32 (by kernel_rfl) rfl #[.string a0, .int .i64 t131] rfl (by (try simp only [List.map_toArray, List.map_cons, List.map_nil]); first | done | rfl | (simp only [List.length_drop, List.length_take]; rfl)) ?_; (with_reducible refine (object_row.calls kj24 a0 t131 t132 t133 _ A38.out ?sideT).mono ?_); (case sideT => first | exact HTABS.out | exact HTABS.out.below (by repeat (first | (with_reducible first | exact HB.out | apply below_alloc | apply pw_below_drewN | apply below_drew1) | exact HB.out)) (Nat.le_refl _) | exact HTABS.out.below (Below.drew (Below.refl _ _)) (Nat.le_refl _)); rintro e w40 ⟨rfl, hb⟩; refine ⟨_, rfl, ?_⟩; have n0_ := Aside0.mk (below_step (by repeat (first | (with_reducible first | exact HB.out | apply below_alloc | apply pw_below_drewN | apply below_drew1) | exact HB.out)) hb); clear HB; have HB := n0_; clear n0_; (try clear hb); (try clear hb2); (try clear hk); (try clear hi)))
                    go_ret2
                    exact ⟨by first | rfl | (simp [errW_none, errW_some] <;> rfl) | (simp [*, errW_none, errW_some] <;> rfl), by repeat (first | (with_reducible first | exact HB.out | apply below_alloc | apply pw_below_drewN | apply below_drew1) | exact HB.out)⟩
                  · replace c36 := Bool.eq_false_iff.mpr c36
                    subst c36
                    have H1 : (some (t121, t122)) = some (r1, r2) := by rw [if_neg (show ¬ (false = true) by decide)] at H; exact H
                    clear H
                    have H := H1
                    clear H1
                    simp only [Option.some.injEq, Prod.mk.injEq] at H
                    obtain ⟨rfl, rfl⟩ := H
                    go_wp2
                    go_ret2
                    exact ⟨by first | rfl | (simp [errW_none, errW_some] <;> rfl) | (simp [*, errW_none, errW_some] <;> rfl), by repeat (first | (with_reducible first | exact HB.out | apply below_alloc | apply pw_below_drewN | apply below_drew1) | exact HB.out)⟩
  · replace c5 := Bool.eq_false_iff.mpr c5
    subst c5
    have H1 : (some (t121, t122)) = some (r1, r2) := by rw [if_neg (show ¬ (false = true) by decide)] at H; exact H
    clear H
    have H := H1
    clear H1
    simp only [Option.some.injEq, Prod.mk.injEq] at H
    obtain ⟨rfl, rfl⟩ := H
    go_enter Tryd.func15, Tryd.ntmps15
    go_wp2_with (first | ((with_reducible refine gate_callee (f := 32) rfl ?_); refine goesL_ (some 14) rfl rfl Tryd.func32 (by kernel_rfl) rfl #[.string a0, .int .i64 a1] rfl (by (try simp only [List.map_toArray, List.map_cons, List.map_nil]); first | done | rfl | (simp only [List.length_drop, List.length_take]; rfl)) ?_; (with_reducible refine (object_row.calls k a0 a1 t121 t122 _ A4.out ?sideT).mono ?_); (case sideT => first | exact HTABS.out | exact HTABS.out.below (by repeat (first | (with_reducible first | exact HB.out | apply below_alloc | apply pw_below_drewN | apply below_drew1) | exact HB.out)) (Nat.le_refl _) | exact HTABS.out.below (Below.drew (Below.refl _ _)) (Nat.le_refl _)); rintro e w41 ⟨rfl, hb⟩; refine ⟨_, rfl, ?_⟩; have n0_ := Aside0.mk (below_step (by repeat (first | (with_reducible first | exact HB.out | apply below_alloc | apply pw_below_drewN | apply below_drew1) | exact HB.out)) hb); clear HB; have HB := n0_; clear n0_; (try clear hb); (try clear hb2); (try clear hk); (try clear hi)))
    go_ret2
    exact ⟨by first | rfl | (simp [errW_none, errW_some] <;> rfl) | (simp [*, errW_none, errW_some] <;> rfl), by repeat (first | (with_reducible first | exact HB.out | apply below_alloc | apply pw_below_drewN | apply below_drew1) | exact HB.out)⟩

end Go.Proofs.YtcinobfflfkmjaaDoor.XObjectFinds
